/-
  DeviceNothing, walked.
-/
import Derived.Test.YtkanfpmmgaipnaaLawA
namespace Go.Proofs.Ytkanfpmmgaipnaa
set_option linter.unusedVariables false
open Go.ChangeMaps Go.MapKept Go.RowKit

theorem op_nil (w : World) : Calls Try.prog 69 #[.pointer none] w fun e w' => w = w' ∧ e = .returned (.bool false) := by
  go_enter Try.func69, Try.ntmps69
  go_wp2
  go_ret
  exact ⟨rfl, rfl⟩

theorem Write_nil (w : World) (k : Int) (v : Value) : Calls Try.prog 31 #[.pointer none, .int .i64 k, v] w fun e w' => w = w' ∧ e = .returned (.int .i64 9) := by
  go_enter Try.func31, Try.ntmps31
  go_wp2_with (go_at_call 69; refine (op_nil _).mono ?_; rintro e w' ⟨rfl, rfl⟩)
  go_ret
  exact ⟨rfl, rfl⟩

theorem Flush_nil (w : World) : Calls Try.prog 33 #[.pointer none] w fun e w' => w = w' ∧ e = .returned (.int .i64 9) := by
  go_enter Try.func33, Try.ntmps33
  go_wp2_with (go_at_call 69; refine (op_nil _).mono ?_; rintro e w' ⟨rfl, rfl⟩)
  go_ret
  exact ⟨rfl, rfl⟩

/-- The zero device. -/
def zeroDev : Obj := .cells #[.int .i64 0, .map none, .map none, .map none, .int .i64 0, .bool false, .int .i64 0] 112 (0, 0)

set_option maxRecDepth 100000 in
theorem nothing_any (w : World) (k : Int) (v : Value) : Calls Try.prog 10 #[.int .i64 k, v] w fun e w' => e = .returned (.bool true) ∧ Frm NoB w w' := by
  go_enter Try.func10, Try.ntmps10
  go_wp2_with fail
  refine (Cut_nil _ _).mono ?_
  rintro e w1 ⟨rfl, rfl⟩
  go_wp2_with fail
  refine (Read_nil _ _).mono ?_
  rintro e w1 ⟨rfl, rfl⟩
  go_wp2_with fail
  refine (Write_nil _ _ _).mono ?_
  rintro e w1 ⟨rfl, rfl⟩
  go_wp2_with fail
  refine (Flush_nil _).mono ?_
  rintro e w1 ⟨rfl, rfl⟩
  go_wp2_with fail
  refine (Ops_nil _).mono ?_
  rintro e w1 ⟨rfl, rfl⟩
  go_wp2_with fail
  refine (Blocks_nil _).mono ?_
  rintro e w1 ⟨rfl, rfl⟩
  go_wp2_with fail
  refine (Crash_nil _ _).mono ?_
  rintro e w1 ⟨rfl, hw1⟩
  have hb1 : w1.heap[w.heap.size]? = some (.cells ((Value.int .i64 0 :: [.map none, .map none, .map none, .int .i64 0, .bool false, .int .i64 0]).toArray) 112 (0, 0)) := by rw [hw1]; exact block_alloc_new _ _
  have hf1 : Frm NoB w w1 := by rw [hw1]; exact (Frm.refl _ _).alloc _
  have HF1 := Lib.hid hf1
  have HB1 := Lib.hid (Blocks_zero w1 w.heap.size _ hb1)
  clear hw1 hb1 hf1
  go_wp2_with fail
  refine HB1.out.mono ?_
  rintro e w2 ⟨rfl, rfl⟩
  go_wp2_with fail
  refine (Copy_nil _).mono ?_
  rintro e w2 ⟨rfl, hw2⟩
  have hb2 : w2.heap[w1.heap.size]? = some (.cells ((Value.int .i64 0 :: [.map none, .map none, .map none, .int .i64 0, .bool false, .int .i64 0]).toArray) 112 (0, 0)) := by rw [hw2]; exact block_alloc_new _ _
  have hf2 : Frm NoB w w2 := by rw [hw2]; exact HF1.out.alloc _
  have HF2 := Lib.hid hf2
  have HB2 := Lib.hid (Blocks_zero w2 w1.heap.size _ hb2)
  clear hw2 hb2 hf2
  go_wp2_with fail
  refine HB2.out.mono ?_
  rintro e w3 ⟨rfl, rfl⟩
  go_wp2_with fail
  refine (awake3_any (St.start w2)).mono ?_
  rintro e w3 ⟨rfl, h⟩
  have H3 := Lib.hid (HF2.out.trans h.base (fun _ _ e => e))
  clear h
  go_wp2
  go_ret
  exact ⟨rfl, H3.out⟩
end Go.Proofs.Ytkanfpmmgaipnaa
