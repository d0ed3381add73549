/-
  A journal that is none.
-/
import Derived.Test.YtkanfpmmgaipnaaJrnW
namespace Go.Proofs.Ytkanfpmmgaipnaa
set_option linter.unusedVariables false
open Go.ChangeMaps Go.MapKept Go.RowKit

theorem homeNil (w : World) (k : Int) : Calls Try.prog 93 #[.pointer none, .int .i64 k] w fun e w' => w = w' ∧ e = .returned (.bool false) := by
  go_enter Try.func93, Try.ntmps93
  go_wp2
  go_ret
  exact ⟨rfl, rfl⟩

theorem ReadNil (w : World) (k : Int) : Calls Try.prog 50 #[.pointer none, .int .i64 k] w fun e w' => w = w' ∧ e = .returned (.tuple #[.slice none 0 0, .int .i64 1]) := by
  go_enter Try.func50, Try.ntmps50
  go_wp2_with fail
  refine (homeNil _ _).mono ?_
  rintro e w2 ⟨rfl, rfl⟩
  go_wp2
  go_ret2
  exact ⟨rfl, rfl⟩

set_option maxRecDepth 100000 in
theorem mayNilJ (w : World) (b : Nat) (k : Int) (a : Option Addr) (n c : Nat) (hb : w.heap[b]? = some (.cells #[.int .i64 k, .slice a n c] 64 (0, 0))) :
    Calls Try.prog 85 #[.pointer none, .slice (some ⟨b, 0, none⟩) 1 1] w fun e w' => e = .returned (.int .i64 1) ∧ Frm NoB w w' := by
  have hmk : ∀ W, (Instr.makeMap 96 none).run Try.prog W = .ok (.map (some W.heap.size)) (W.alloc (.map #[] 0)) := fun W => rfl
  have c1 : (w.alloc (.map #[] 0)).cell? ⟨b, 0, none⟩ = some (.int .i64 k) := cell_of_block (block_alloc_old _ hb)
  have c2 : (w.alloc (.map #[] 0)).cell? ⟨b, 1, none⟩ = some (.slice a n c) := cell_of_block (block_alloc_old _ hb)
  clear hb
  go_enter Try.func85, Try.ntmps85
  go_wp2_with fail
  clear hmk
  have hF : Frm NoB w (w.alloc (.map #[] 0)) := (Frm.refl _ _).alloc _
  obtain ⟨w2, hw2⟩ : ∃ w2, w2 = w.alloc (.map #[] 0) := ⟨_, rfl⟩
  rw [← hw2] at c1 c2 hF ⊢
  have HF := Lib.hid hF
  clear hw2 hF
  refine wp_loop_rounds 1 ?_
  rw [rounds_succ]
  go_wp2_with fail
  refine (homeNil _ _).mono ?_
  rintro e w3 ⟨rfl, rfl⟩
  go_wp2
  go_ret
  exact ⟨rfl, HF.out.alloc _⟩

set_option maxRecDepth 100000 in
theorem CommitNil (w : World) (b : Nat) (k : Int) (a : Option Addr) (n c : Nat) (hb : w.heap[b]? = some (.cells #[.int .i64 k, .slice a n c] 64 (0, 0))) :
    Calls Try.prog 47 #[.pointer none, .slice (some ⟨b, 0, none⟩) 1 1] w fun e w' => e = .returned (.int .i64 1) ∧ Frm NoB w w' := by
  have HM := Lib.hid (mayNilJ w b k a n c hb)
  clear hb
  go_enter Try.func47, Try.ntmps47
  go_wp2_with fail
  refine HM.out.mono ?_
  clear HM
  rintro e w2 ⟨rfl, hf⟩
  have HF := Lib.hid hf
  clear hf
  go_wp2
  go_ret
  exact ⟨rfl, HF.out⟩

set_option maxRecDepth 100000 in
theorem journalNothing_any (w : World) (k : Int) (a : Option Addr) (n c : Nat) :
    Calls Try.prog 15 #[.int .i64 k, .slice a n c] w fun e w' => e = .returned (.bool true) ∧ Frm NoB w w' := by
  go_enter Try.func15, Try.ntmps15
  go_wp2_with fail
  refine (ReadNil _ _).mono ?_
  rintro e w2 ⟨rfl, rfl⟩
  go_wp2_with fail
  refine (CommitNil _ _ k a n c (block_alloc_new _ _)).mono ?_
  rintro e w3 ⟨rfl, hf⟩
  have HF := Lib.hid (((Frm.refl NoB w).alloc _).trans hf (fun _ _ e => e))
  clear hf
  go_wp2_with fail
  refine (SyncNil _).mono ?_
  rintro e w4 ⟨rfl, rfl⟩
  go_wp2_with fail
  refine (awake4_any (St.start w3)).mono ?_
  rintro e w5 ⟨rfl, h5⟩
  have HF5 := Lib.hid (HF.out.trans h5.base (fun _ _ e => e))
  clear h5
  go_wp2
  go_ret
  exact ⟨rfl, HF5.out⟩
end Go.Proofs.Ytkanfpmmgaipnaa
