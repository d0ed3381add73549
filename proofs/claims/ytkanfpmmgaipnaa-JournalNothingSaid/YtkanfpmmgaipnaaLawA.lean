/-
  bollardlaw3.awake.
-/
import Derived.Test.YtkanfpmmgaipnaaRes
namespace Go.Proofs.Ytkanfpmmgaipnaa
set_option linter.unusedVariables false
open Go.ChangeMaps Go.MapKept Go.RowKit

set_option maxRecDepth 100000 in
theorem awake3_any {w0 w : World} {rs : List Res} (h : St w0 w rs) : Calls Try.prog 28 #[] w fun e w' => e = .returned (.bool true) ∧ St w0 w' rs := by
  have H0 := Lib.hid h
  clear h
  go_enter Try.func28, Try.ntmps28
  go_wp2_with fail
  refine (S_New H0.out 2 (by omega) (by omega)).mono ?_
  rintro e w1 ⟨d, rfl, h⟩
  have H1 := Lib.hid h
  clear h H0
  go_wp2_with fail
  refine (S_Block H1.out 1).mono ?_
  rintro e w2 ⟨v1, rfl, h⟩
  have H2 := Lib.hid h
  clear h H1
  go_wp2_with fail
  refine (S_Write H2.out 1 0 rfl rfl 0 (by decide) rfl (by omega) (by decide) (blockOf_length 1)).mono ?_
  rintro e w3 ⟨rfl, h⟩
  have H3 := Lib.hid h
  clear h H2
  go_wp2_with fail
  refine (S_Flush H3.out 1 rfl (by decide) rfl).mono ?_
  rintro e w4 ⟨rfl, h⟩
  have H4 := Lib.hid h
  clear h H3
  go_wp2_with fail
  refine (S_Block H4.out 2).mono ?_
  rintro e w5 ⟨v2, rfl, h⟩
  have H5 := Lib.hid h
  clear h H4
  go_wp2_with fail
  refine (S_Write H5.out 2 0 rfl rfl 0 (by decide) rfl (by omega) (by decide) (blockOf_length 2)).mono ?_
  rintro e w6 ⟨rfl, h⟩
  have H6 := Lib.hid h
  clear h H5
  go_wp2_with fail
  have h := H6.out.frm0 ((Frm.refl NoB w6).alloc (.cells #[.int .i64 0] 3 (0, 0)))
  refine (S_Crash h 2 rfl (by decide) _ [0] (row_one (block_alloc_new _ _)).elems (by intro p hp; simp at hp; subst hp; exact (okI_iff 0).2 (by omega)) (by decide)).mono ?_
  rintro e w7 ⟨d2, rfl, h⟩
  have H7 := Lib.hid h
  clear h H6
  go_wp2_with fail
  refine (S_Read H7.out 0 rfl 0 (by omega) (by decide) (by decide)).mono ?_
  rintro e w8 ⟨v3, rfl, h⟩
  have H8 := Lib.hid h
  clear h H7
  go_wp2_with fail
  have h := H8.out.frm0 ((Frm.refl NoB w8).alloc (.cells #[.int .i64 1] 3 (0, 0)))
  refine (S_Crash h 4 rfl (by decide) _ [1] (row_one (block_alloc_new _ _)).elems (by intro p hp; simp at hp; subst hp; exact (okI_iff 1).2 (by omega)) (by decide)).mono ?_
  rintro e w9 ⟨d3, rfl, h⟩
  have H9 := Lib.hid h
  clear h H8
  go_wp2_with fail
  refine (S_Read H9.out 0 rfl 0 (by omega) (by decide) (by decide)).mono ?_
  rintro e w10 ⟨v4, rfl, h⟩
  have H10 := Lib.hid h
  clear h H9
  go_wp2_with fail
  refine (S_Block H10.out 1).mono ?_
  rintro e w11 ⟨v5, rfl, h⟩
  have H11 := Lib.hid h
  clear h H10
  go_wp2_with fail
  refine (S_Bytes H11.out 3 0 rfl rfl (by rw [show DSt.last _ _ = blockOf 1 from rfl, blockOf_length]; omega)).mono ?_
  rintro e w12 ⟨rfl, h⟩
  rw [show (DSt.last _ _ == blockOf 1) = true from beq_iff_eq.2 rfl]
  have H12 := Lib.hid h
  clear h H11
  go_wp2_with fail
  refine (S_Block H12.out 2).mono ?_
  rintro e w13 ⟨v6, rfl, h⟩
  have H13 := Lib.hid h
  clear h H12
  go_wp2_with fail
  refine (S_Bytes H13.out 2 0 rfl rfl (by rw [show DSt.last _ _ = blockOf 2 from rfl, blockOf_length]; omega)).mono ?_
  rintro e w14 ⟨rfl, h⟩
  rw [show (DSt.last _ _ == blockOf 2) = true from beq_iff_eq.2 rfl]
  have H14 := Lib.hid h
  clear h H13
  go_wp2_with fail
  refine (S_Ops H14.out 8 rfl).mono ?_
  rintro e w15 ⟨rfl, rfl⟩
  rw [show DSt.ops _ = 3 from rfl]
  go_wp2
  go_ret
  exact ⟨rfl, H14.out.drop 9⟩
end Go.Proofs.Ytkanfpmmgaipnaa
