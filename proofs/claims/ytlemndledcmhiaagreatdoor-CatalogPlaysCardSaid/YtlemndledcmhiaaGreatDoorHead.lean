/-
  The closed facts on the head of this seat's translation, by way of its letters' numbers.
-/
import Derived.Test.YtlemndledcmhiaaGreatDoorProg
import Derived.JoinedTies
import Derived.ChangeFn
import Derived.KernelRfl
namespace Go.Proofs.YtlemndledcmhiaaGreatDoor
set_option linter.unusedVariables false

def headNums : List Nat := [104, 97, 114, 110, 101, 115, 115, 32, 51, 49, 99, 49, 57, 56, 101, 54, 51, 51, 101, 56, 102, 56, 98, 51, 53, 55, 97, 49, 102, 98, 57, 51, 100, 99, 54, 97, 98, 99, 53, 53, 49, 55, 53, 57, 97, 101, 54, 56, 57, 54, 56, 101, 99, 51, 102, 49, 51, 102, 57, 102, 50, 56, 48, 53, 56, 53, 97, 102, 99, 99, 54, 54, 32, 99, 117, 116, 32, 97, 116, 32, 98, 111, 108, 108, 97, 114, 100, 47, 98, 111, 108, 108, 97, 114, 100, 108, 97, 119, 49, 55, 46, 67, 97, 116, 97, 108, 111, 103, 77, 97, 110, 121, 32, 98, 111, 108, 108, 97, 114, 100, 47, 98, 111, 108, 108, 97, 114, 100, 108, 97, 119, 49, 55, 46, 67, 97, 116, 97, 108, 111, 103, 82, 101, 102, 117, 115, 101, 115, 32, 98, 111, 108, 108, 97, 114, 100, 47, 98, 111, 108, 108, 97, 114, 100, 108, 97, 119, 49, 55, 46, 67, 97, 116, 97, 108, 111, 103, 78, 111, 116, 104, 105, 110, 103, 32, 98, 111, 108, 108, 97, 114, 100, 47, 98, 111, 108, 108, 97, 114, 100, 108, 97, 119, 49, 55, 46, 67, 97, 116, 97, 108, 111, 103, 80, 108, 97, 121, 115, 32, 98, 111, 108, 108, 97, 114, 100, 47, 98, 111, 108, 108, 97, 114, 100, 108, 97, 119, 49, 55, 46, 67, 97, 116, 97, 108, 111, 103, 67, 114, 97, 115, 104, 32, 98, 111, 108, 108, 97, 114, 100, 47, 98, 111, 108, 108, 97, 114, 100, 108, 97, 119, 49, 55, 46, 67, 97, 116, 97, 108, 111, 103, 83, 119, 101, 101, 112, 115]

theorem head_eq : Tryz.prog.initOrder = String.ofList (headNums.map Char.ofNat) := by kernel_rfl

theorem head_list : Tryz.prog.initOrder.toList = headNums.map Char.ofNat := by rw [head_eq, String.toList_ofList]

theorem headWords : ∃ r, behindMainWord (wordsSigns (headNums.map Char.ofNat)) = "cut".toList :: r := ⟨(behindMainWord (wordsSigns (headNums.map Char.ofNat))).tail, by kernel_rfl⟩

theorem head_words : ∃ r, behindMainWord (wordsSigns Tryz.prog.initOrder.toList) = "cut".toList :: r := by
  rw [head_list]; exact headWords

theorem lifts_of (P : Program) (r : List (List Char)) (h : behindMainWord (wordsSigns P.initOrder.toList) = "cut".toList :: r) : P.headLifts = [] := by
  unfold Program.headLifts
  rw [h]
  kernel_rfl

theorem liftsFinal_of (P : Program) (r : List (List Char)) (h : behindMainWord (wordsSigns P.initOrder.toList) = "cut".toList :: r) : P.liftsFinal = false := by
  unfold Program.liftsFinal
  rw [lifts_of P r h, h]
  kernel_rfl

theorem make_of (P : Program) (r : List (List Char)) (h : behindMainWord (wordsSigns P.initOrder.toList) = "cut".toList :: r) : P.make = some .cut := by
  unfold Program.make
  rw [lifts_of P r h, h]
  kernel_rfl

theorem strip_cut (r : List (List Char)) : stripLifts liftWords ("cut".toList :: r) = ([], "cut".toList :: r) := by kernel_rfl

theorem doorFits_of (P : Program) (h3 : (P.doorRows.any fun n => ["(look 8)", "(look 8, test files too)", "(list 7)", "(look 7)"].any (endsIn · n)) = false) : P.doorFits [] = true := by
  unfold Program.doorFits
  dsimp only
  rw [h3]
  simp

theorem mayEnter_of (P : Program) (r : List (List Char)) (h : behindMainWord (wordsSigns P.initOrder.toList) = "cut".toList :: r) (h1 : P.laysLater = false) (h2 : P.bearsReflect = false) (h3 : P.doorFits [] = true) : P.mayEnter = true := by
  unfold Program.mayEnter
  rw [h]
  simp only [strip_cut, h1, h2, h3]
  kernel_rfl

theorem headMayEnter : Tryz.prog.mayEnter = true := by
  obtain ⟨r, hr⟩ := head_words
  exact mayEnter_of _ r hr (by kernel_rfl) (by kernel_rfl) (doorFits_of _ (by kernel_rfl))

theorem headLiftsFinal : Tryz.prog.liftsFinal = false := by
  obtain ⟨r, hr⟩ := head_words
  exact liftsFinal_of _ r hr

theorem headMake : Tryz.prog.make = some .cut := by
  obtain ⟨r, hr⟩ := head_words
  exact make_of _ r hr
end Go.Proofs.YtlemndledcmhiaaGreatDoor
