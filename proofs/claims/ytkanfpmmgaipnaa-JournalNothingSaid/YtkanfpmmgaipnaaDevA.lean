/-
  The device's small functions: op, Blocks, Ops, Cut, modulo.
-/
import Derived.Test.YtkanfpmmgaipnaaDevH
import Derived.Lib.Hide
namespace Go.Proofs.Ytkanfpmmgaipnaa
open Go.ChangeMaps Go.MapKept Go.RowKit

theorem devObj_cells (h : Hdl) (n ops : Nat) (cut : Bool) (left : Int) {w : World} (hb : w.heap[h.b]? = some (devObj h n ops cut left)) :
    w.cell? ⟨h.b, 0, none⟩ = some (.int .i64 n) ∧ w.cell? ⟨h.b, 1, none⟩ = some (.map (some h.fm)) ∧ w.cell? ⟨h.b, 2, none⟩ = some (.map (some h.wm)) ∧
    w.cell? ⟨h.b, 3, none⟩ = some (.map (some h.mm)) ∧ w.cell? ⟨h.b, 4, none⟩ = some (.int .i64 ops) ∧ w.cell? ⟨h.b, 5, none⟩ = some (.bool cut) ∧
    w.cell? ⟨h.b, 6, none⟩ = some (.int .i64 left) ∧ (∀ i, w.frozen? ⟨h.b, i, none⟩ = false) := by
  unfold devObj at hb
  refine ⟨?_, ?_, ?_, ?_, ?_, ?_, ?_, fun i => frozen_of_block hb⟩ <;> (rw [cell_of_block hb]; rfl)

/-- What an op leaves of the count. -/
def leftAfter (cut : Bool) (left : Int) : Int := if cut && left == 0 then left else left - 1

/-- One op is called: it is counted; it is done unless the power is off. -/
theorem op_raw (h : Hdl) (n ops : Nat) (cut : Bool) (left : Int) (w : World) (hb : w.heap[h.b]? = some (devObj h n ops cut left))
    (hn : 1 ≤ n) (ho : ops < 4611686018427387904) (hl : -4611686018427387904 ≤ left) (hl' : left ≤ 9223372036854775807) :
    Calls Try.prog 69 #[.pointer (some ⟨h.b, 0, none⟩)] w fun e w' =>
      e = .returned (.bool (!(cut && left == 0))) ∧ Frm (Only h.b) w w' ∧ w'.heap.size = w.heap.size ∧
      w'.heap[h.b]? = some (devObj h n (ops + 1) cut (leftAfter cut left)) := by
  obtain ⟨c0, _, _, _, c4, c5, c6, fz⟩ := devObj_cells h n ops cut left hb
  have f4 := fz 4
  have f6 := fz 6
  clear fz
  have hn0 : ((n : Int) == 0) = false := by simp; omega
  have HB := Lib.hid hb
  clear hb
  by_cases hc : cut = true
  · subst hc
    by_cases h0 : left = 0
    · subst h0
      go_enter Try.func69, Try.ntmps69
      go_wp2
      go_ret
      exact ⟨rfl, (Frm.refl _ _).setOnly _, by simp, block_setCell_same _ HB.out⟩
    · have h0' : (left == 0) = false := by simp [h0]
      go_enter Try.func69, Try.ntmps69
      go_wp2
      go_ret
      exact ⟨by simp [h0], ((Frm.refl _ _).setOnly _).setOnly _, by simp, by
        rw [block_setCell_same _ (block_setCell_same _ HB.out)]; simp [devObj, leftAfter, h0]⟩
  · obtain rfl : cut = false := by simpa using hc
    go_enter Try.func69, Try.ntmps69
    go_wp2
    go_ret
    exact ⟨rfl, ((Frm.refl _ _).setOnly _).setOnly _, by simp, by
        rw [block_setCell_same _ (block_setCell_same _ HB.out)]; simp [devObj, leftAfter]⟩
end Go.Proofs.Ytkanfpmmgaipnaa
