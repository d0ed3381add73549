/-
  The device's op, Cut and Write, against the plain data.
-/
import Derived.Test.YtkanfpmmgaipnaaDevD
import Derived.Deep.RegionHeld3
import Derived.WalkLawsBesides
namespace Go.Proofs.Ytkanfpmmgaipnaa
open Go.ChangeMaps Go.MapKept Go.RowKit

theorem Hdl.Mb (h : Hdl) : h.M h.b := .inl rfl
theorem Hdl.Mf (h : Hdl) : h.M h.fm := .inr (.inl rfl)
theorem Hdl.Mw (h : Hdl) : h.M h.wm := .inr (.inr (.inl rfl))
theorem Hdl.Mm (h : Hdl) : h.M h.mm := .inr (.inr (.inr rfl))

theorem BytesAt.frmB {w w' : World} {v : Value} {bs : List UInt8} {R M : Nat → Prop} (hv : BytesAt w v bs R) (hf : Frm M w w')
    (hM : ∀ x, M x → ∀ c, w.heap[x]? ≠ some (.cells c 5 (0, 0))) : BytesAt w' v bs R :=
  hv.of_block fun x c _ hc => hf.block x (lt_of_block hc) (fun hx => hM x hx c hc)

/-- The device's own blocks hold no bytes. -/
theorem DevAt.noBytes {w : World} {h : Hdl} {D : DSt} {R : Nat → Prop} (H : DevAt w h D R) : ∀ x, h.M x → ∀ c, w.heap[x]? ≠ some (.cells c 5 (0, 0)) := by
  obtain ⟨_, ⟨left, hb, _⟩, ⟨nf, f, Mf, _⟩, ⟨ng, g, Mg, _⟩, ⟨nm, m, Mm, _⟩, _⟩ := H
  rintro x (rfl | rfl | rfl | rfl) c e
  · rw [hb] at e; simp [devObj] at e
  · obtain ⟨es, cl, h1, _⟩ := Mf; rw [h1] at e; cases e
  · obtain ⟨es, cl, h1, _⟩ := Mg; rw [h1] at e; cases e
  · obtain ⟨es, cl, h1, _⟩ := Mm; rw [h1] at e; cases e

theorem DevAt.restruct {w w' : World} {h : Hdl} {D : DSt} {R : Nat → Prop} (H : DevAt w h D R) (hf : Frm (Only h.b) w w') (ops : Nat) (lim : Option Nat) (left : Int) (ho : D.ops ≤ ops)
    (hb : w'.heap[h.b]? = some (devObj h D.n ops lim.isSome left)) (hl : LeftOk ops lim left) (hok : okI left) : DevAt w' h { D with ops := ops, lim := lim } R := by
  have hnb := H.noBytes
  obtain ⟨wf, _, ⟨nf, f, Mf, f1, f2⟩, ⟨ng, g, Mg, g1, g2⟩, ⟨nm, m, Mm, m1, m2⟩, ap⟩ := H
  have hB : ∀ v bs, BytesAt w v bs R → BytesAt w' v bs R := fun v bs hv => hv.frmB hf (fun x hx c => by obtain rfl : x = h.b := hx; exact hnb _ h.Mb c)
  refine ⟨⟨wf.n, wf.n1, wf.base, wf.pend, wf.far, fun k => Nat.le_trans (wf.few k) ho⟩, ⟨left, hb, hl, hok⟩, ⟨nf, f, Mf.frm hf (fun e => ap.1 e.symm), f1, fun k v h1 h2 => ?_⟩,
    ⟨ng, g, Mg.frm hf (fun e => ap.2.1 e.symm), fun k i hi => ?_, g2⟩, ⟨nm, m, Mm.frm hf (fun e => ap.2.2.1 e.symm), m1, m2⟩, ap⟩
  · obtain ⟨a, b, c⟩ := f2 k v h1 h2
    exact ⟨a, b, hB _ _ c⟩
  · obtain ⟨v, hv, c⟩ := g1 k i hi
    exact ⟨v, hv, hB _ _ c⟩

theorem op_any (w : World) (h : Hdl) (D : DSt) (R : Nat → Prop) (H : DevAt w h D R) (ho : D.ops < 4611686018427387904) :
    Calls Try.prog 69 #[.pointer (some ⟨h.b, 0, none⟩)] w fun e w' =>
      e = .returned (.bool (!D.off)) ∧ DevAt w' h D.op R ∧ Frm (Only h.b) w w' ∧ w'.heap.size = w.heap.size := by
  obtain ⟨left, hb, hl, hok⟩ := H.blk
  have hok' := (okI_iff left).1 hok
  have hlo : -4611686018427387904 ≤ left := by
    unfold LeftOk at hl
    split at hl <;> omega
  refine (op_raw h D.n D.ops D.lim.isSome left w hb H.wf.n1 ho hlo hok'.2).mono ?_
  rintro e w' ⟨rfl, hf, hs, hb'⟩
  have hoff : (D.lim.isSome && left == 0) = D.off := by
    unfold LeftOk at hl
    unfold DSt.off
    split at hl
    · rename_i l hlim
      rw [hlim, hl]
      cases l with
      | zero => rfl
      | succ l =>
        have : (((l + 1 : Nat) : Int) == 0) = false := by simp; omega
        rw [this]; simp
    · rename_i hlim
      rw [hlim]; rfl
  refine ⟨by rw [hoff], ?_, hf, hs⟩
  have hsome : (D.lim.map (· - 1)).isSome = D.lim.isSome := by simp
  refine H.restruct hf (D.ops + 1) (D.lim.map (· - 1)) (leftAfter D.lim.isSome left) (Nat.le_succ _) (by rw [hsome]; exact hb') ?_ ?_
  · unfold LeftOk at hl ⊢
    unfold leftAfter
    cases hlim : D.lim with
    | none =>
      rw [hlim] at hl
      simp only [Option.map_none]
      simp
      simp at hl
      omega
    | some l =>
      rw [hlim] at hl
      simp at hl
      subst hl
      simp
      split <;> omega
  · rw [okI_iff]
    unfold leftAfter
    split <;> omega

theorem Cut_any (w : World) (h : Hdl) (D : DSt) (R : Nat → Prop) (H : DevAt w h D R) (n : Int) (hn : okI n) :
    Calls Try.prog 38 #[.pointer (some ⟨h.b, 0, none⟩), .int .i64 n] w fun e w' =>
      e = .returned (.tuple #[]) ∧ DevAt w' h (D.cut n) R ∧ Frm (Only h.b) w w' := by
  obtain ⟨left, hb, hl, hok⟩ := H.blk
  obtain ⟨_, _, _, _, _, c5, c6, fz⟩ := devObj_cells h _ _ _ _ hb
  have f5 := fz 5
  have f6 := fz 6
  clear fz
  rw [okI_iff] at hn
  obtain ⟨hn1, hn2⟩ := hn
  have HB := Lib.hid hb
  clear hb
  have key : ∀ x : Int, x = ((n.toNat : Nat) : Int) → okI x → DevAt ((w.setCell ⟨h.b, 5, none⟩ (.bool true)).setCell ⟨h.b, 6, none⟩ (.int .i64 x)) h (D.cut n) R := fun x hx hokx => by
    refine H.restruct ((Frm.refl _ _).setOnly _ |>.setOnly _) D.ops (some n.toNat) x (Nat.le_refl _) ?_ hx hokx
    rw [block_setCell_same _ (block_setCell_same _ HB.out)]
    simp [devObj]
  have HK := Lib.hid key
  clear key
  by_cases h0 : n < 0
  · go_enter Try.func38, Try.ntmps38
    go_wp2
    go_end0
    exact ⟨rfl, HK.out 0 (by omega) ((okI_iff 0).2 (by omega)), ((Frm.refl _ _).setOnly _).setOnly _⟩
  · go_enter Try.func38, Try.ntmps38
    go_wp2
    go_end0
    exact ⟨rfl, HK.out n (by omega) ((okI_iff n).2 (by omega)), ((Frm.refl _ _).setOnly _).setOnly _⟩

theorem Cut_nil (w : World) (n : Int) :
    Calls Try.prog 38 #[.pointer none, .int .i64 n] w fun e w' => w = w' ∧ e = .returned (.tuple #[]) := by
  go_enter Try.func38, Try.ntmps38
  go_wp2
  exact bodyPost_ret (results_none rfl _ _ _) rfl ⟨rfl, rfl⟩
end Go.Proofs.Ytkanfpmmgaipnaa
