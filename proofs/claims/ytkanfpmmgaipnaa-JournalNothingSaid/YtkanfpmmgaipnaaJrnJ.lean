/-
  slices.Index on ints.
-/
import Derived.Test.YtkanfpmmgaipnaaJrnI
namespace Go.Proofs.Ytkanfpmmgaipnaa
set_option linter.unusedVariables false
open Go.ChangeMaps Go.MapKept Go.RowKit

/-- Where a number stands first in a list, or -1. -/
def FirstAt (l : List Int) (k : Int) (r : Int) : Prop :=
  (∃ i : Nat, r = i ∧ l[i]? = some k ∧ ∀ j, j < i → l[j]? ≠ some k) ∨ (r = -1 ∧ ∀ j : Nat, l[j]? ≠ some k)

set_option maxRecDepth 100000 in
theorem index_any (w : World) (v : Value) (l : List Int) (k : Int) (hv : Elems w v (l.map IntK)) (hl : l.length ≤ 1000000) :
    Calls Try.prog 94 #[v, .int .i64 k] w fun e w' => w = w' ∧ ∃ r, e = .returned (.int .i64 r) ∧ FirstAt l k r := by
  obtain ⟨a, cap, rfl, ha⟩ := hv
  have HA := Lib.hid ha
  rw [List.length_map]
  clear ha
  go_enter Try.func94, Try.ntmps94
  go_wp2_with fail
  go_loopw [5, 8] (fun _ t wr => wr = w ∧ ∃ i : Nat, i ≤ l.length ∧ t = .int .i64 i ∧ ∀ j, j < i → l[j]? ≠ some k) (fun _ t _ => l.length - (intOf t).toNat)
  case atStart => exact ⟨rfl, 0, Nat.zero_le _, rfl, fun j hj => by omega⟩
  case round =>
    obtain ⟨rfl, i, hi, rfl, hno⟩ := hrel
    have HNO := Lib.hid hno
    clear hno
    by_cases hlt : i < l.length
    · obtain ⟨x, hx⟩ : ∃ x, l[i]? = some x := ⟨_, List.getElem?_eq_getElem hlt⟩
      obtain ⟨blk, off, rfl, hb, hc⟩ := HA.out i (IntK x) (by rw [List.getElem?_map, hx]; rfl)
      have hc' : wr.cell? ⟨blk, off + i, none⟩ = some (.int .i64 x) := hc
      have hi0 : (0 : Int) ≤ (i : Int) := Int.natCast_nonneg _
      have hi1 : (i : Int) < (l.length : Int) := by omega
      have HX := Lib.hid hx
      clear hx hc hb
      by_cases hk : k = x
      · have hk2 : (k == x) = true := beq_iff_eq.2 hk
        have HK := Lib.hid hk
        clear hk
        go_wp2
        go_ret
        exact ⟨rfl, _, rfl, .inl ⟨i, rfl, by rw [HX.out, HK.out], HNO.out⟩⟩
      · have hk2 : (k == x) = false := beq_eq_false_iff_ne.2 hk
        have HK := Lib.hid hk
        clear hk
        have hno2 : ∀ j, j < i + 1 → l[j]? ≠ some k := fun j hj => by
          rcases Nat.lt_or_ge j i with h | h
          · exact HNO.out j h
          · obtain rfl : j = i := by omega
            rw [HX.out]
            intro e
            injection e with e
            exact HK.out e.symm
        have HN2 := Lib.hid hno2
        clear hno2
        go_wp2
        exact ⟨⟨trivial, i + 1, hlt, by go_num, HN2.out⟩, by simp [intOf]; omega⟩
    · obtain rfl : i = l.length := by omega
      go_wp2
      go_ret
      refine ⟨rfl, _, rfl, .inr ⟨rfl, fun j => ?_⟩⟩
      rcases Nat.lt_or_ge j l.length with h | h
      · exact HNO.out j h
      · rw [List.getElem?_eq_none h]; intro e; cases e
end Go.Proofs.Ytkanfpmmgaipnaa
