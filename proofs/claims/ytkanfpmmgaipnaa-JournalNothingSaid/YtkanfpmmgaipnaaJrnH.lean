/-
  Format of a device that is too small; what Format leaves.
-/
import Derived.Test.YtkanfpmmgaipnaaJrnG
namespace Go.Proofs.Ytkanfpmmgaipnaa
set_option linter.unusedVariables false
open Go.ChangeMaps Go.MapKept Go.RowKit

set_option maxRecDepth 100000 in
theorem S_FormatTiny {w0 w : World} {rs : List Res} (h : St w0 w rs) (a : Nat) {H : Hdl} {D : DSt} (hr : rs[a]? = some (dev H D)) (hn : D.n < 246) :
    Calls Try.prog 51 #[.pointer (some ⟨H.b, 0, none⟩)] w fun e w' => e = .returned (.int .i64 1) ∧ St w0 w' rs := by
  have HD := Lib.hid (h.newArr #[.pointer (some ⟨H.b, 0, none⟩)] 24 neDp)
  have c1 : (w.alloc (.cells #[.pointer (some ⟨H.b, 0, none⟩)] 24 (0, 0))).cell? ⟨w.heap.size, 0, none⟩ = some (.pointer (some ⟨H.b, 0, none⟩)) := HD.out.arrCell (i := 0) rfl 0
  have HB := Lib.hid (S_Blocks HD.out (a + 1) hr)
  have hn' : (D.n : Int) < 246 := by omega
  clear h
  go_enter Try.func51, Try.ntmps51
  go_wp2_with fail
  refine HB.out.mono ?_
  rintro e w2 ⟨rfl, rfl⟩
  go_wp2
  go_ret
  exact ⟨rfl, HD.out.drop 1⟩

/-- What Format leaves: a journal of the next generation in the first block. -/
theorem fmtD_last0 (D : DSt) (g : Nat) : (fmtD D g 7).last 0 = laidB magicL [g + 1] := by
  show (fmtStep g 6 (fmtStep g 5 (fmtD D g 5))).last 0 = _
  show ((fmtD D g 5).op.put 0 (laidB magicL [g + 1])).last 0 = _
  exact last_put_same _ _ _

theorem fmtD_pend (D : DSt) (g k : Nat) : (fmtD D g 7).pend k = [] := rfl

theorem laid_gen (g : Nat) (hg : g < 18446744073709551615) : getLE (laidB magicL [g + 1]) 8 8 = g + 1 :=
  getLE_putLE_same (textBlk magicL) 8 8 (g + 1) (by rw [textBlk_length _ (by decide)]; omega) (by omega)

theorem laid_magic (g : Nat) : isMagic (laidB magicL [g + 1]) = true := by
  have h : (laidB magicL [g + 1]).take 8 = (textBlk magicL).take 8 := by
    apply List.ext_getElem?
    intro i
    rw [List.getElem?_take, List.getElem?_take]
    split
    · show (putLE (textBlk magicL) 8 8 (g + 1))[i]? = _
      rw [putLE_get _ _ _ _ _ (by rw [textBlk_length _ (by decide)]; omega), if_neg (by omega)]
    · rfl
  unfold isMagic
  rw [h]
  rfl
end Go.Proofs.Ytkanfpmmgaipnaa
