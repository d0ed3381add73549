/-
  The closed facts on the head of this seat's translation, by way of its letters' numbers.
-/
import Derived.Test.YtkanfpmmgaipnaaProg
import Derived.JoinedTies
import Derived.ChangeFn
import Derived.KernelRfl
namespace Go.Proofs.Ytkanfpmmgaipnaa
set_option linter.unusedVariables false

def headNums : List Nat := [104, 97, 114, 110, 101, 115, 115, 32, 99, 99, 102, 97, 99, 102, 48, 56, 52, 102, 51, 48, 48, 102, 52, 98, 57, 49, 98, 52, 97, 53, 51, 56, 98, 99, 53, 99, 52, 51, 49, 56, 52, 101, 49, 52, 51, 102, 56, 55, 98, 56, 53, 102, 57, 51, 97, 57, 51, 102, 98, 57, 56, 98, 100, 101, 53, 57, 54, 54, 102, 102, 49, 102, 32, 99, 117, 116, 32, 97, 116, 32, 98, 111, 108, 108, 97, 114, 100, 47, 98, 111, 108, 108, 97, 114, 100, 108, 97, 119, 51, 46, 68, 101, 118, 105, 99, 101, 76, 97, 115, 116, 115, 32, 98, 111, 108, 108, 97, 114, 100, 47, 98, 111, 108, 108, 97, 114, 100, 108, 97, 119, 51, 46, 68, 101, 118, 105, 99, 101, 78, 111, 110, 101, 32, 98, 111, 108, 108, 97, 114, 100, 47, 98, 111, 108, 108, 97, 114, 100, 108, 97, 119, 51, 46, 68, 101, 118, 105, 99, 101, 70, 108, 117, 115, 104, 32, 98, 111, 108, 108, 97, 114, 100, 47, 98, 111, 108, 108, 97, 114, 100, 108, 97, 119, 51, 46, 68, 101, 118, 105, 99, 101, 83, 105, 122, 101, 115, 32, 98, 111, 108, 108, 97, 114, 100, 47, 98, 111, 108, 108, 97, 114, 100, 108, 97, 119, 51, 46, 68, 101, 118, 105, 99, 101, 67, 117, 116, 115, 32, 98, 111, 108, 108, 97, 114, 100, 47, 98, 111, 108, 108, 97, 114, 100, 108, 97, 119, 51, 46, 68, 101, 118, 105, 99, 101, 83, 101, 108, 102, 32, 98, 111, 108, 108, 97, 114, 100, 47, 98, 111, 108, 108, 97, 114, 100, 108, 97, 119, 51, 46, 68, 101, 118, 105, 99, 101, 80, 108, 97, 121, 32, 98, 111, 108, 108, 97, 114, 100, 47, 98, 111, 108, 108, 97, 114, 100, 108, 97, 119, 51, 46, 68, 101, 118, 105, 99, 101, 78, 111, 116, 104, 105, 110, 103, 32, 98, 111, 108, 108, 97, 114, 100, 47, 98, 111, 108, 108, 97, 114, 100, 108, 97, 119, 52, 46, 74, 111, 117, 114, 110, 97, 108, 82, 101, 102, 117, 115, 101, 115, 32, 98, 111, 108, 108, 97, 114, 100, 47, 98, 111, 108, 108, 97, 114, 100, 108, 97, 119, 52, 46, 74, 111, 117, 114, 110, 97, 108, 66, 105, 103, 32, 98, 111, 108, 108, 97, 114, 100, 47, 98, 111, 108, 108, 97, 114, 100, 108, 97, 119, 52, 46, 74, 111, 117, 114, 110, 97, 108, 79, 119, 110, 32, 98, 111, 108, 108, 97, 114, 100, 47, 98, 111, 108, 108, 97, 114, 100, 108, 97, 119, 52, 46, 74, 111, 117, 114, 110, 97, 108, 80, 108, 97, 121, 115, 32, 98, 111, 108, 108, 97, 114, 100, 47, 98, 111, 108, 108, 97, 114, 100, 108, 97, 119, 52, 46, 74, 111, 117, 114, 110, 97, 108, 78, 111, 116, 104, 105, 110, 103, 32, 98, 111, 108, 108, 97, 114, 100, 47, 98, 111, 108, 108, 97, 114, 100, 108, 97, 119, 52, 46, 74, 111, 117, 114, 110, 97, 108, 72, 111, 109, 101, 115, 32, 98, 111, 108, 108, 97, 114, 100, 47, 98, 111, 108, 108, 97, 114, 100, 108, 97, 119, 52, 46, 74, 111, 117, 114, 110, 97, 108, 76, 111, 110, 103, 32, 98, 111, 108, 108, 97, 114, 100, 47, 98, 111, 108, 108, 97, 114, 100, 108, 97, 119, 52, 46, 74, 111, 117, 114, 110, 97, 108, 84, 119, 105, 99, 101, 32, 98, 111, 108, 108, 97, 114, 100, 47, 98, 111, 108, 108, 97, 114, 100, 108, 97, 119, 52, 46, 74, 111, 117, 114, 110, 97, 108, 67, 114, 97, 115, 104, 32, 98, 111, 108, 108, 97, 114, 100, 47, 98, 111, 108, 108, 97, 114, 100, 108, 97, 119, 52, 46, 74, 111, 117, 114, 110, 97, 108, 68, 101, 97, 100, 32, 98, 111, 108, 108, 97, 114, 100, 47, 98, 111, 108, 108, 97, 114, 100, 108, 97, 119, 52, 46, 74, 111, 117, 114, 110, 97, 108, 83, 121, 110, 99, 101, 100, 32, 98, 111, 108, 108, 97, 114, 100, 47, 98, 111, 108, 108, 97, 114, 100, 108, 97, 119, 53, 46, 67, 97, 99, 104, 101, 80, 108, 97, 121, 115, 32, 98, 111, 108, 108, 97, 114, 100, 47, 98, 111, 108, 108, 97, 114, 100, 108, 97, 119, 53, 46, 67, 97, 99, 104, 101, 78, 111, 116, 104, 105, 110, 103, 32, 98, 111, 108, 108, 97, 114, 100, 47, 98, 111, 108, 108, 97, 114, 100, 108, 97, 119, 53, 46, 67, 97, 99, 104, 101, 79, 118, 101, 114, 32, 98, 111, 108, 108, 97, 114, 100, 47, 98, 111, 108, 108, 97, 114, 100, 108, 97, 119, 53, 46, 67, 97, 99, 104, 101, 79, 119, 110, 32, 98, 111, 108, 108, 97, 114, 100, 47, 98, 111, 108, 108, 97, 114, 100, 108, 97, 119, 53, 46, 67, 97, 99, 104, 101, 67, 111, 117, 110, 116, 115, 32, 98, 111, 108, 108, 97, 114, 100, 47, 98, 111, 108, 108, 97, 114, 100, 108, 97, 119, 53, 46, 67, 97, 99, 104, 101, 87, 104, 111, 108, 101]

theorem head_eq : Try.prog.initOrder = String.ofList (headNums.map Char.ofNat) := by kernel_rfl

theorem head_list : Try.prog.initOrder.toList = headNums.map Char.ofNat := by rw [head_eq, String.toList_ofList]

theorem headWords : ∃ r, behindMainWord (wordsSigns (headNums.map Char.ofNat)) = "cut".toList :: r := ⟨(behindMainWord (wordsSigns (headNums.map Char.ofNat))).tail, by kernel_rfl⟩

theorem head_words : ∃ r, behindMainWord (wordsSigns Try.prog.initOrder.toList) = "cut".toList :: r := by
  rw [head_list]; exact headWords

theorem lifts_of (P : Program) (r : List (List Char)) (h : behindMainWord (wordsSigns P.initOrder.toList) = "cut".toList :: r) : P.headLifts = [] := by
  unfold Program.headLifts
  rw [h]
  kernel_rfl

theorem liftsFinal_of (P : Program) (r : List (List Char)) (h : behindMainWord (wordsSigns P.initOrder.toList) = "cut".toList :: r) : P.liftsFinal = false := by
  unfold Program.liftsFinal
  rw [lifts_of P r h, h]
  kernel_rfl

theorem make_of (P : Program) (r : List (List Char)) (h : behindMainWord (wordsSigns P.initOrder.toList) = "cut".toList :: r) : P.make = some .cut := by
  unfold Program.make
  rw [lifts_of P r h, h]
  kernel_rfl

theorem mayEnter_of (P : Program) (r : List (List Char)) (h : behindMainWord (wordsSigns P.initOrder.toList) = "cut".toList :: r) (h1 : P.laysLater = false) (h2 : P.bearsReflect = false) (h3 : P.doorRows = []) : P.mayEnter = true := by
  unfold Program.mayEnter Program.doorFits
  rw [h, h1, h2, h3]
  kernel_rfl

theorem headMayEnter : Try.prog.mayEnter = true := by
  obtain ⟨r, hr⟩ := head_words
  exact mayEnter_of _ r hr (by kernel_rfl) (by kernel_rfl) (by kernel_rfl)

theorem headLiftsFinal : Try.prog.liftsFinal = false := by
  obtain ⟨r, hr⟩ := head_words
  exact liftsFinal_of _ r hr

theorem headMake : Try.prog.make = some .cut := by
  obtain ⟨r, hr⟩ := head_words
  exact make_of _ r hr
end Go.Proofs.Ytkanfpmmgaipnaa
