/-
  A device in memory: which blocks it is laid in, and what they hold.
-/
import Derived.Test.YtkanfpmmgaipnaaLib0
import Derived.Test.YtkanfpmmgaipnaaDevS
import Derived.Test.YtkanfpmmgaipnaaProg
import Derived.WideKeyPair
import Derived.DeepKeys4
namespace Go.Proofs.Ytkanfpmmgaipnaa
open Go.ChangeMaps Go.MapKept
open Go.Maps (Keyed)

/-! ### Bytes in memory -/

def B8 (x : UInt8) : Value := .int .u8 (x.toNat : Int)

/-- The slice v holds the bytes bs, in a block of R. -/
def BytesAt (w : World) (v : Value) (bs : List UInt8) (R : Nat → Prop) : Prop :=
  ∃ blk off cap c, v = .slice (some ⟨blk, off, none⟩) bs.length cap ∧ bs.length ≤ cap ∧ w.heap[blk]? = some (.cells c 5 (0, 0)) ∧
    (∀ i, i < bs.length → c[off + i]? = some (B8 (bs.getD i 0))) ∧ R blk

theorem BytesAt.of_block {w w' : World} {v : Value} {bs : List UInt8} {R : Nat → Prop} (h : BytesAt w v bs R) (hb : ∀ x c, R x → w.heap[x]? = some (.cells c 5 (0, 0)) → w'.heap[x]? = w.heap[x]?) : BytesAt w' v bs R := by
  obtain ⟨blk, off, cap, c, h1, h2, h3, h4, h5⟩ := h
  exact ⟨blk, off, cap, c, h1, h2, (hb blk c h5 h3).trans h3, h4, h5⟩

theorem BytesAt.mono {w : World} {v : Value} {bs : List UInt8} {R R' : Nat → Prop} (h : BytesAt w v bs R) (hR : ∀ x, x < w.heap.size → R x → R' x) : BytesAt w v bs R' := by
  obtain ⟨blk, off, cap, c, h1, h2, h3, h4, h5⟩ := h
  exact ⟨blk, off, cap, c, h1, h2, h3, h4, hR blk (lt_of_block h3) h5⟩

/-! ### Keys -/

abbrev IntK : Int → Value := Value.int .i64
def okI (a : Int) : Prop := (Lit.int .i64 a).wf = true
def PairK (p : Int × Int) : Value := .agg #[.int .i64 p.1, .int .i64 p.2]
def okP (p : Int × Int) : Prop := okI p.1 ∧ okI p.2

theorem okI_iff (a : Int) : okI a ↔ -9223372036854775808 ≤ a ∧ a ≤ 9223372036854775807 := by
  unfold okI
  simp only [Lit.wf, Bool.and_eq_true, decide_eq_true_eq]
  exact Iff.rfl

theorem kindInt : KeyKind Try.prog 3 IntK okI :=
  ⟨Go.Maps.int_keyed Try.underlying3, fun _ ha => ⟨_, Go.Maps.keyOf_int_mk Try.underlying3 ha⟩, fun a b h => by simpa using h⟩

/-! ### The device -/

structure Hdl where
  b : Nat
  fm : Nat
  wm : Nat
  mm : Nat

def Hdl.M (h : Hdl) (x : Nat) : Prop := x = h.b ∨ x = h.fm ∨ x = h.wm ∨ x = h.mm

/-- The struct's own block. -/
def devObj (h : Hdl) (n ops : Nat) (cut : Bool) (left : Int) : Obj :=
  .cells #[.int .i64 n, .map (some h.fm), .map (some h.wm), .map (some h.mm), .int .i64 ops, .bool cut, .int .i64 left] 112 (0, 0)

/-- The count of what is left to be done, against the plain data. -/
def LeftOk (ops : Nat) (lim : Option Nat) (left : Int) : Prop :=
  match lim with
  | some l => left = l
  | none => -(ops : Int) ≤ left ∧ left ≤ 0

structure DevAt (w : World) (h : Hdl) (D : DSt) (R : Nat → Prop) : Prop where
  wf : D.Wf
  blk : ∃ left, w.heap[h.b]? = some (devObj h D.n D.ops D.lim.isSome left) ∧ LeftOk D.ops D.lim left ∧ okI left
  fl : ∃ n f, MapAt IntK okI w h.fm n f ∧ (∀ k, okI k → f k = none → 0 ≤ k → k < D.n → D.base k.toNat = zeros) ∧
    (∀ k v, okI k → f k = some v → 0 ≤ k ∧ k < D.n ∧ BytesAt w v (D.base k.toNat) R)
  wr : ∃ n g, MapAt PairK okP w h.wm n g ∧ (∀ k i : Nat, i < (D.pend k).length → ∃ v, g (k, (i : Int) + 1) = some v ∧ BytesAt w v ((D.pend k).getD i []) R)  ∧
    (∀ k i : Nat, (D.pend k).length ≤ i → okP ((k : Int), (i : Int) + 1) → g (k, (i : Int) + 1) = none)
  mn : ∃ n m, MapAt IntK okI w h.mm n m ∧ (∀ k : Nat, okI (k : Int) → m k = if D.pend k = [] then none else some (.int .i64 ((D.pend k).length : Nat))) ∧
    (∀ k, okI k → k < 0 → m k = none)
  apart : h.b ≠ h.fm ∧ h.b ≠ h.wm ∧ h.b ≠ h.mm ∧ h.fm ≠ h.wm ∧ h.fm ≠ h.mm ∧ h.wm ≠ h.mm

end Go.Proofs.Ytkanfpmmgaipnaa
