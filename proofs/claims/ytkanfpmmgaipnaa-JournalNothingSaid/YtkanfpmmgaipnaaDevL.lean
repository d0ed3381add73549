/-
  The device's functions for a caller who keeps no bytes of his own.
-/
import Derived.Test.YtkanfpmmgaipnaaAlikeA
namespace Go.Proofs.Ytkanfpmmgaipnaa
open Go.ChangeMaps Go.MapKept Go.RowKit

def AnyB : Nat → Prop := fun _ => True

/-- A device in memory, whatever blocks its bytes lie in. -/
def DevIn (w : World) (h : Hdl) (D : DSt) : Prop := DevAt w h D AnyB

theorem DevAt.toIn {w : World} {h : Hdl} {D : DSt} {R : Nat → Prop} (H : DevAt w h D R) : DevIn w h D := H.mono (fun _ _ _ => trivial)

/-- Blocks that hold no bytes. -/
def Dry (w : World) (M : Nat → Prop) : Prop := ∀ x, x < w.heap.size → M x → ∀ c, w.heap[x]? ≠ some (.cells c 5 (0, 0))

theorem Dry.none (w : World) : Dry w NoB := fun _ _ h => h.elim

theorem DevIn.dry {w : World} {h : Hdl} {D : DSt} (H : DevIn w h D) : Dry w h.M := fun x _ hx => H.noBytes x hx

theorem DevIn.frm {w w' : World} {h : Hdl} {D : DSt} {M : Nat → Prop} (H : DevIn w h D) (hf : Frm M w w') (hd : Dry w M) (ha : ∀ x, M x → ¬ h.M x) : DevIn w' h D :=
  DevAt.frm2 H hf (fun x hx hM => ⟨ha x hM, hd x hx hM⟩)

theorem DevIn.frm0 {w w' : World} {h : Hdl} {D : DSt} (H : DevIn w h D) (hf : Frm NoB w w') : DevIn w' h D := H.frm hf (Dry.none w) (fun _ h => h.elim)

theorem DevIn.alloc {w : World} {h : Hdl} {D : DSt} (H : DevIn w h D) (o : Obj) : DevIn (w.alloc o) h D := DevAt.alloc H o
theorem DevIn.drewN {w : World} {h : Hdl} {D : DSt} (H : DevIn w h D) (n : Nat) : DevIn (w.drewN n) h D := DevAt.drewN H n

theorem Write_in (w : World) (h : Hdl) (D : DSt) (H : DevIn w h D) (ho : D.ops < 4611686018427387904) (hoff : D.off = false) (k : Int) (v : Value) (bs : Blk) (Rv : Nat → Prop)
    (h0 : 0 ≤ k) (hk : k < D.n) (hbs : bs.length = 512) (hv : BytesAt w v bs Rv) :
    Calls Try.prog 31 #[.pointer (some ⟨h.b, 0, none⟩), .int .i64 k, v] w fun e w' =>
      e = .returned (.int .i64 0) ∧ DevIn w' h (D.op.put k.toNat bs) ∧ Frm h.M w w' :=
  (Write_ok w h D AnyB H ho hoff k v bs Rv h0 hk hbs hv).mono fun _ _ ⟨a, b, c⟩ => ⟨a, b.toIn, c⟩

theorem Flush_in (w : World) (h : Hdl) (D : DSt) (H : DevIn w h D) (ho : D.ops < 4611686018427387903) (hoff : D.off = false) :
    Calls Try.prog 33 #[.pointer (some ⟨h.b, 0, none⟩)] w fun e w' =>
      e = .returned (.int .i64 0) ∧ DevIn w' h D.op.flushed ∧ Frm h.M w w' := Flush_ok w h D AnyB H ho hoff

/-- A device that was made, in new blocks. -/
def MadeIn (w : World) (D : DSt) (v : Value) (w' : World) : Prop :=
  Frm NoB w w' ∧ ∃ h : Hdl, v = .pointer (some ⟨h.b, 0, none⟩) ∧ DevIn w' h D ∧ (∀ x, h.M x → w.heap.size ≤ x)

theorem Made.toIn {w w' : World} {D : DSt} {R : Nat → Prop} {v : Value} (H : Made w D R v w') : MadeIn w D v w' := by
  obtain ⟨a, h, b, c, d⟩ := H
  exact ⟨a, h, b, c.toIn, d⟩

theorem New_in (w : World) (n : Int) (h1 : 1 ≤ n) (h2 : n ≤ 65536) :
    Calls Try.prog 29 #[.int .i64 n] w fun e w' => ∃ v, e = .returned (.tuple #[v, .int .i64 0]) ∧ MadeIn w (DSt.new n.toNat) v w' :=
  (New_any w n h1 h2).mono fun _ _ ⟨v, a, b⟩ => ⟨v, a, b.toIn⟩

theorem Crash_in (w : World) (h : Hdl) (D : DSt) (H : DevIn w h D) (ho : D.ops < 4611686018427387904) (vp : Value) (picks : List Int) (hvp : Elems w vp (picks.map IntK)) (hpk : ∀ p ∈ picks, okI p)
    (hpl : picks.length < 4611686018427387904) :
    Calls Try.prog 34 #[.pointer (some ⟨h.b, 0, none⟩), vp] w fun e w' => ∃ v, e = .returned v ∧ MadeIn w (D.crash picks) v w' :=
  (Crash_any w h D AnyB H ho vp picks hvp hpk hpl).mono fun _ _ ⟨v, a, b⟩ => ⟨v, a, b.toIn⟩

theorem Copy_in (w : World) (h : Hdl) (D : DSt) (H : DevIn w h D) :
    Calls Try.prog 40 #[.pointer (some ⟨h.b, 0, none⟩)] w fun e w' => ∃ v, e = .returned v ∧ MadeIn w D v w' :=
  (Copy_any w h D AnyB H).mono fun _ _ ⟨v, a, b⟩ => ⟨v, a, b.toIn⟩

/-- A block that was made, whole. -/
theorem block_at (w : World) (bs : Blk) (hb : bs.length = 512) : BytesAt (w.alloc (bytesObj bs)) (.slice (some ⟨w.heap.size, 0, none⟩) 512 512) bs AnyB := bytesObj_at (block_alloc_new _ _) hb 512 (Nat.le_refl _) AnyB trivial

theorem Block_in (w : World) (c : Int) : Calls Try.prog 32 #[.int .i64 c] w fun e w' => ∃ v, e = .returned v ∧ BytesAt w' v (blockOf c) AnyB ∧ Frm NoB w w' :=
  (Block_any w c).mono fun _ _ ⟨a, b⟩ => ⟨_, a, by rw [b]; exact block_at _ _ (blockOf_length c), by rw [b]; exact (Frm.refl _ _).alloc _⟩

theorem Read_in (w : World) (h : Hdl) (D : DSt) (H : DevIn w h D) (k : Int) (h0 : 0 ≤ k) (hk : k < D.n) (ho : D.ops < 4611686018427387904) :
    Calls Try.prog 35 #[.pointer (some ⟨h.b, 0, none⟩), .int .i64 k] w fun e w' => ∃ v, e = .returned (.tuple #[v, .int .i64 0]) ∧ BytesAt w' v (D.last k.toNat) AnyB ∧ Frm NoB w w' :=
  (Read_any w h D AnyB H k h0 hk ho).mono fun _ _ ⟨b, a⟩ => ⟨_, a, by rw [b]; exact block_at _ _ (DSt.last_length H.wf _), by rw [b]; exact (Frm.refl _ _).alloc _⟩

theorem Bytes_in (w : World) (u v : Value) (bs cs : List UInt8) (hu : SliceOf w u bs) (hv : SliceOf w v cs) (hl : bs.length < 4611686018427387904) :
    Calls Try.prog 36 #[u, v] w fun e w' => e = .returned (.bool (bs == cs)) ∧ Frm NoB w w' :=
  (Bytes_any w u v bs cs hu hv hl).mono fun _ _ ⟨a, n, b⟩ => ⟨a, by rw [b]; exact (Frm.refl _ _).drewN n⟩

theorem BytesAt.frm0 {w w' : World} {v : Value} {bs : List UInt8} {R : Nat → Prop} (h : BytesAt w v bs R) (hf : Frm NoB w w') : BytesAt w' v bs R := h.frmB hf (fun _ hx => hx.elim)

/-- A row of one int, made in place. -/
theorem row_one {w : World} {b : Nat} {x : Int} (hb : w.heap[b]? = some (.cells #[.int .i64 x] 3 (0, 0))) : RowAt w 3 (.slice (some ⟨b, 0, none⟩) 1 1) ([x].map IntK) AnyB :=
  .inr ⟨b, 0, 1, _, rfl, Nat.le_refl _, hb, fun i hi => by
    have : i = 0 := by simp at hi; omega
    subst this; rfl, trivial⟩

theorem row_three {w : World} {b : Nat} {x y z : Int} (hb : w.heap[b]? = some (.cells #[.int .i64 x, .int .i64 y, .int .i64 z] 3 (0, 0))) : RowAt w 3 (.slice (some ⟨b, 0, none⟩) 3 3) ([x, y, z].map IntK) AnyB :=
  .inr ⟨b, 0, 3, _, rfl, Nat.le_refl _, hb, fun i hi => by
    rcases (by simp at hi; omega : i = 0 ∨ i = 1 ∨ i = 2) with rfl | rfl | rfl <;> rfl, trivial⟩

theorem row_nil (w : World) : RowAt w 3 (.slice none 0 0) (([] : List Int).map IntK) AnyB := .inl ⟨rfl, rfl⟩
end Go.Proofs.Ytkanfpmmgaipnaa
