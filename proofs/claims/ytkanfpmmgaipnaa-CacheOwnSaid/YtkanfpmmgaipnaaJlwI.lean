/-
  bollardlaw4.small; a region that takes 'changes' apart.
-/
import Derived.Test.YtkanfpmmgaipnaaJlwH
namespace Go.Proofs.Ytkanfpmmgaipnaa
set_option linter.unusedVariables false
open Go.ChangeMaps Go.MapKept Go.RowKit

/-- What 'small' answers of n steps. -/
def SmallRet (n : Nat) (e : Ending) : Prop := ∃ b, e = .returned (.bool b) ∧ (b = true → n ≤ 40)

/-- Are there few? (The sum of the lengths may wrap: only the number of the steps is told.) -/
theorem small_any (w : World) (v : Value) (l : List (Int × List (Int × Int))) (h : Steps w v l) (hl : l.length ≤ maxLen) :
    Calls Try.prog 52 #[v] w fun e w' => w' = w ∧ SmallRet l.length e := by
  obtain ⟨a, cap, rfl, hcell⟩ := h
  have hl2 : ((l.length : Nat) : Int) ≤ 9223372036854775807 := by unfold maxLen at hl; omega
  have hl3 : (0 : Int) ≤ ((l.length : Nat) : Int) := Int.natCast_nonneg _
  have HC := Lib.hid hcell
  clear hcell hl
  go_enter Try.func52, Try.ntmps52
  go_wp2_with fail
  go_loopw [3, 4] (fun t3 t4 wr => ∃ (i : Nat) (x : Int), i ≤ l.length ∧ t3 = .int .i64 x ∧ t4 = .int .i64 i ∧ Hid (wr = w)) (fun _ t _ => l.length - (intOf t).toNat)
  case atStart => exact ⟨0, 0, Nat.zero_le _, rfl, rfl, Lib.hid rfl⟩
  case round =>
    obtain ⟨i, x, hi, rfl, rfl, HW⟩ := hrel
    obtain rfl : wr = w := HW.out
    by_cases hlt : i < l.length
    · have hi0 : (0 : Int) ≤ (i : Int) := Int.natCast_nonneg _
      have hi1 : (i : Int) < (l.length : Int) := by omega
      obtain ⟨p, hp⟩ : ∃ p, l[i]? = some p := ⟨_, List.getElem?_eq_getElem hlt⟩
      obtain ⟨gb, go, u, rfl, _, c1, c2, hu⟩ := HC.out i p hp
      obtain ⟨ua, uc, rfl, _⟩ := hu
      clear hp
      go_wp2
      first | exact ⟨⟨i + 1, _, hlt, rfl, by go_num, Lib.hid trivial⟩, by simp [intOf]; omega⟩ | (go_roundw; case rel => first | exact ⟨i + 1, _, hlt, rfl, by go_num, Lib.hid trivial⟩ | ((repeat apply Exists.intro); exact ⟨⟨i + 1, _, hlt, rfl, by go_num, Lib.hid trivial⟩, rfl⟩); case measure => simp [intOf]; omega)
    · have hi1 : ¬ (i : Int) < (l.length : Int) := by omega
      by_cases h40 : (l.length : Int) ≤ 40
      · have H40 : Hid (l.length ≤ 40) := Lib.hid (by omega)
        by_cases hx : x ≤ 300
        all_goals
          go_wp2
          go_ret
          exact ⟨rfl, _, rfl, fun _ => H40.out⟩
      · go_wp2
        go_ret
        exact ⟨rfl, _, rfl, fun h => by cases h⟩
end Go.Proofs.Ytkanfpmmgaipnaa
