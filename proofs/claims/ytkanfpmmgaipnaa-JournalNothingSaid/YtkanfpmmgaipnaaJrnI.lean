/-
  home: whether a block is one of the journal's homes.
-/
import Derived.Test.YtkanfpmmgaipnaaJrnH
namespace Go.Proofs.Ytkanfpmmgaipnaa
set_option linter.unusedVariables false
open Go.ChangeMaps Go.MapKept Go.RowKit

theorem neJrn : (138 : TypeId) ≠ 5 := by decide

set_option maxRecDepth 100000 in
theorem S_home {w0 w : World} {rs : List Res} (h : St w0 w rs) (a i : Nat) {H : Hdl} {D : DSt} {jb : Nat} {c : Array Value} {ht : (138 : TypeId) ≠ 5} (hr : rs[a]? = some (dev H D)) (hj : rs[i]? = some (arr jb c 138 ht))
    (hc : c[0]? = some (.pointer (some ⟨H.b, 0, none⟩))) (k : Int) :
    Calls Try.prog 93 #[.pointer (some ⟨jb, 0, none⟩), .int .i64 k] w fun e w' => w = w' ∧ e = .returned (.bool (decide (245 ≤ k) && decide (k < (D.n : Int)))) := by
  have hcell : w.cell? ⟨jb, 0, none⟩ = some (.pointer (some ⟨H.b, 0, none⟩)) := (h.arrCell hj 0).trans hc
  have HB := Lib.hid (S_Blocks h a hr)
  clear h
  by_cases h1 : 245 ≤ k
  · by_cases h2 : k < (D.n : Int)
    · have HT : Hid ((decide (245 ≤ k) && decide (k < (D.n : Int))) = true) := Lib.hid (by rw [decide_eq_true h1, decide_eq_true h2]; rfl)
      go_enter Try.func93, Try.ntmps93
      go_wp2_with fail
      refine HB.out.mono ?_
      rintro e w2 ⟨rfl, rfl⟩
      go_wp2
      go_ret
      exact ⟨rfl, by rw [HT.out]; rfl⟩
    · have HT : Hid ((decide (245 ≤ k) && decide (k < (D.n : Int))) = false) := Lib.hid (by rw [decide_eq_false h2, Bool.and_false])
      go_enter Try.func93, Try.ntmps93
      go_wp2_with fail
      refine HB.out.mono ?_
      rintro e w2 ⟨rfl, rfl⟩
      go_wp2
      go_ret
      exact ⟨rfl, congrArg (fun b => Ending.returned (.bool b)) ((decide_eq_false (by omega)).trans HT.out.symm)⟩
  · have HT : Hid ((decide (245 ≤ k) && decide (k < (D.n : Int))) = false) := Lib.hid (by rw [decide_eq_false h1, Bool.false_and])
    go_enter Try.func93, Try.ntmps93
    go_wp2
    go_ret
    exact ⟨rfl, congrArg (fun b => Ending.returned (.bool b)) HT.out.symm⟩
end Go.Proofs.Ytkanfpmmgaipnaa
