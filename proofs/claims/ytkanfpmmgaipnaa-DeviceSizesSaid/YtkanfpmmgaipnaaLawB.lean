/-
  DeviceSizes, walked.
-/
import Derived.Test.YtkanfpmmgaipnaaLawA
namespace Go.Proofs.Ytkanfpmmgaipnaa
set_option linter.unusedVariables false
open Go.ChangeMaps Go.MapKept Go.RowKit

set_option maxRecDepth 100000 in
theorem sizes_any (w : World) (n : Int) (hn : okI n) : Calls Try.prog 6 #[.int .i64 n] w fun e w' => e = .returned (.bool true) ∧ Frm NoB w w' := by
  have H0 := Lib.hid (St.start w)
  rw [okI_iff] at hn
  by_cases hr : n < 1 ∨ 65536 < n
  · have HN := Lib.hid (New_no w n hr)
    have HA := Lib.hid (awake3_any (St.start w))
    rcases hr with hr | hr
    · go_enter Try.func6, Try.ntmps6
      go_wp2_with (first
        | (go_at_call 29; refine HN.out.mono ?_; rintro e w' ⟨rfl, rfl⟩)
        | (go_at_call 28; refine HA.out.mono ?_; rintro e w2 ⟨rfl, h⟩))
      go_ret
      exact ⟨rfl, h.base⟩
    · have hr' : ¬ n < 1 := by omega
      go_enter Try.func6, Try.ntmps6
      go_wp2_with (first
        | (go_at_call 29; refine HN.out.mono ?_; rintro e w' ⟨rfl, rfl⟩)
        | (go_at_call 28; refine HA.out.mono ?_; rintro e w2 ⟨rfl, h⟩))
      go_ret
      exact ⟨rfl, h.base⟩
  · have h1 : 1 ≤ n := by omega
    have h2 : n ≤ 65536 := by omega
    obtain ⟨m, rfl⟩ := Int.eq_ofNat_of_zero_le (by omega : 0 ≤ n)
    have h3 : ¬ (m : Int) < 1 := by omega
    have h4 : ¬ 65536 < (m : Int) := by omega
    have hlast : (DSt.new m).last (m - 1) = blockOf 0 := rfl
    clear hr
    go_enter Try.func6, Try.ntmps6
    go_wp2_with fail
    refine (S_New H0.out m h1 h2).mono ?_
    rintro e w1 ⟨d, rfl, h⟩
    have H1 := Lib.hid h
    clear h H0
    go_wp2_with fail
    refine (S_Blocks H1.out 0 rfl).mono ?_
    rintro e w2 ⟨rfl, rfl⟩
    rw [show ((DSt.new (m : Int).toNat).n : Int) = (m : Int) from rfl]
    go_wp2_with fail
    refine (S_Read H1.out 0 rfl ((m : Int) - 1) (by omega) (by show (m : Int) - 1 < (m : Int); omega) (by show 0 < 4611686018427387904; omega)).mono ?_
    rintro e w2 ⟨v, rfl, h⟩
    have H2 := Lib.hid h
    clear h H1
    go_wp2_with fail
    refine (S_ReadFar H2.out 1 rfl (m : Int) (.inr (Int.le_refl _))).mono ?_
    rintro e w3 ⟨rfl, rfl⟩
    go_wp2_with fail
    refine (S_Block H2.out 0).mono ?_
    rintro e w4 ⟨v2, rfl, h⟩
    have H4 := Lib.hid h
    clear h H2
    go_wp2_with fail
    refine (S_Bytes H4.out 1 0 rfl rfl (by rw [show DSt.last _ _ = blockOf 0 from rfl, blockOf_length]; omega)).mono ?_
    rintro e w5 ⟨rfl, h⟩
    rw [show (DSt.last _ _ == blockOf 0) = true from beq_iff_eq.2 rfl]
    have H5 := Lib.hid h
    clear h H4
    go_wp2_with fail
    refine (awake3_any H5.out).mono ?_
    rintro e w6 ⟨rfl, h⟩
    have H6 := Lib.hid h
    clear h H5
    go_wp2
    go_ret
    exact ⟨rfl, H6.out.base⟩
end Go.Proofs.Ytkanfpmmgaipnaa
