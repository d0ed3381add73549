/-
  The tied card CatalogNothingCardSaid, proved: for every input the Go function bollard/bollardlaw17.CatalogNothing answers true and leaves its arguments as they were. The row's condition: the listed package-level variables of Go's library hold what the program's text lays (the card ties them).
-/
import Derived.Test.YtlemndledcmhiaaGreatDoorRows
import Derived.Test.YtlemndledcmhiaaGreatDoorCards
import Derived.Test.YtlemndledcmhiaaGreatDoorTie
import Derived.WalkKit
import Derived.Test.YtlemndledcmhiaaGreatDoorR19
import Derived.Test.YtlemndledcmhiaaGreatDoorHead
import Derived.ProofKit
import Derived.LaidMore
import Derived.Lay
import Derived.OpenShut
import Derived.ShutString
import Derived.ChangeOld
import Derived.Below
import Derived.SevenTiedAt
namespace Go.Proofs.YtlemndledcmhiaaGreatDoor.catalogNothing
open Go.ChangeShapes Go.WideShapes Go.ChangeAt Go.RowKit
open Go.ChangeMaps (open_string shut_string)
set_option linter.unusedVariables false

theorem own : ownKnob Tryz.prog.godebug = none := by kernel_rfl

theorem walk (w : World) (s0 : ByteArray) (u0 : s0.size ≤ maxLen) :
    Calls Tryz.prog 5 #[.string s0] w fun e w' => e = .returned (.bool true) ∧ Below w.heap.size w w' :=
  (catalogNothing_any w s0).mono fun _ _ ⟨a, b⟩ => ⟨a, ⟨b.os, b.tape, b.output, b.size, fun k hk => b.block k hk (fun h => h)⟩⟩

theorem met (os : Os) (args : Array Value) : laidMetH Tryz.prog Rows.catalogNothingRow.laid ((World.laidAll Tryz.prog os Rows.catalogNothingRow.laid).forCall (fun _ _ => 0) ⟨#[], args, []⟩).memory := by
  rw [MakeChecks.laidMetH_plain _ _ _ (by kernel_rfl)]
  exact laidMet_laidAll _ (by kernel_rfl) (by kernel_rfl)

set_option maxRecDepth 100000 in
theorem lifted (os : Os) (started : os.Started) (H : Type) (enc : TypeId × Value → H) :
    ReturnsInHanded {} Tryz.checked os 5 .any (fun w args => (Rows.catalogNothingSpec.pre enc Tryz.prog Tryz.f5 Rows.catalogNothingRow.domain false w args ∧ laidMetH Tryz.prog Rows.catalogNothingRow.laid w) ∧ sizedMet enc Tryz.prog Tryz.f5 (OpenSpec.ofChange Rows.catalogNothingSpec) false w args)
      (Rows.catalogNothingSpec.post enc Tryz.prog Tryz.f5 false true false false) := by
  refine returnsInHanded_of_change_and (C := Tryz.checked) (X := fun w _ => laidMetH Tryz.prog Rows.catalogNothingRow.laid w) (fun _ _ _ hh h => h.of_heap hh) own started (by kernel_rfl) Tryz.func5
    (ChangeSpec.witness_shaped (enc := enc) (C := Tryz.checked) (os := os) (X := fun w _ => laidMetH Tryz.prog Rows.catalogNothingRow.laid w) false (World.laidAll Tryz.prog os Rows.catalogNothingRow.laid) #[.string ByteArray.empty] 8 (World.laidAll_os _ _ _)
      (World.shaped_of_ZipB (by kernel_rfl) (by kernel_rfl)) (by kernel_rfl) (by kernel_rfl) (by kernel_rfl) (met os _)) ?_
  intro W base args ds gs before hval0 hW _ _ hL _
  have hval : ∀ (j : Nat) t v, Tryz.f5.params[j]? = some t → args[j]? = some v → Value.okWide Tryz.prog W .any base t v := hval0
  have hW' := hW
  obtain ⟨p, q, hA0, hV, rfl, hfz, hnd⟩ := hW
  have hA : DataW.TrodAll enc Tryz.prog W 0 (fun _ => true) true Tryz.f5.params.toList args.toList ds p := hA0
  rw [Tryz.params5] at hA hval
  obtain ⟨v0, vs0, d0, ds0, p0, q0, hargs, rfl, rfl, h0, r0⟩ := trodAll_cons hA
  obtain ⟨rfl, rfl, rfl⟩ := trodAll_nil r0
  obtain rfl : args = #[v0] := by cases args; simp_all
  obtain ⟨rfl, rfl⟩ := trodVars_none hV
  obtain ⟨s0, rfl, rfl, rfl, u0⟩ := open_string Tryz.underlying9 (hval 0 9 v0 rfl rfl) h0
  clear hA0 hval0
  refine (walk W s0 u0).mono fun e W' ⟨he, bel⟩ => ?_
  subst he
  exact ⟨_, rfl, _, _, _, [], _, [], hW', trodAll_mk1 (shut_bool Tryz.underlying4 _), (trodAll_cons_mk (shut_string Tryz.underlying9 u0) trodAll_mk0), rfl, bel.frame _, fun h => by cases h⟩

theorem cf1 : laidOutB Tryz.prog = true := by kernel_rfl
theorem cf2 : mapsRowed Tryz.prog = true := by kernel_rfl
theorem cf3 : Tryz.prog.inPlace 5 = Rows.catalogNothingRow.inPlace := by kernel_rfl
theorem cf4 : Tryz.prog.unfollowed 5 = Rows.catalogNothingRow.unfollowed := by kernel_rfl
theorem cf5 : Tryz.prog.recurses 5 = Rows.catalogNothingRow.recurses := by kernel_rfl
theorem cf6 : Tryz.prog.varsNamed 5 = Rows.catalogNothingRow.named := by kernel_rfl
theorem cf7 : Tryz.prog.plainKeys = Rows.catalogNothingRow.plainKeys := by kernel_rfl
theorem cf8 : Tryz.prog.stops = [] := by kernel_rfl
theorem closed : joinedFacts Tryz.prog 5 Tryz.f5 Rows.catalogNothingSpec Rows.catalogNothingRow = true := by
  unfold joinedFacts
  rw [headMayEnter, headLiftsFinal, headMake, cf1, cf2, cf3, cf4, cf5, cf6, cf7, cf8]
  kernel_rfl

theorem over : Rows.catalogNothingRow.holds Tryz.pinned (OpenSpec.ofChange Rows.catalogNothingSpec) :=
  OpenClaim.holds_of_wide 5 Tryz.f5 rfl rfl rfl rfl rfl rfl rfl ⟨rfl, rfl, rfl, rfl, rfl⟩ rfl rfl rfl rfl rfl (by kernel_rfl) Tryz.func5 closed
    (of_decide_eq_true (by kernel_rfl)) (by unfold Func.isWrapper; first | (rw [if_pos (by decide +kernel)]; kernel_rfl) | (rw [if_neg (by decide +kernel)]; exact ⟨rfl, rfl⟩))
    (fun os started H enc _ => lifted os started H enc)

theorem pfWf : Rows.catalogNothingRow.wfByText (OpenSpec.ofChange Rows.catalogNothingSpec) = true := by kernel_rfl
theorem pfMain : Tryz.pinned.checked.prog.mainIs = some (true, "31c198e633e8f8b357a1fb93dc6abc551759ae68968ec3f13f9f280585afcc66".toList) := by kernel_rfl
theorem pfGoes : false = Rows.catalogNothingRow.goesBy Tryz.pinned.checked.prog := by kernel_rfl
theorem pfLooks : true = Tryz.pinned.checked.prog.looks [] := by kernel_rfl
theorem pfNamed : Tryz.prog.funcNamed "bollard/bollardlaw17.CatalogNothing" = some 5 := by kernel_rfl
theorem pfStand : ([9].all fun u => !Tryz.prog.wantsStandIn u) = true := by kernel_rfl

theorem proved : Rows.CatalogNothingCardSaid :=
  Claim7.holds_tied_plain_at .later [] [.data, .data, .data, .data, .sentinel, .sentinel, .pinned] true (true, "31c198e633e8f8b357a1fb93dc6abc551759ae68968ec3f13f9f280585afcc66") true over (fun _ h => by cases h) pfWf (fun _ h => by cases h) catalogNothing_row_tie rfl ⟨rfl, rfl⟩ pfMain rfl
    (fun f fn hf hfn => by
      obtain rfl : f = 5 := Option.some.inj (pfNamed.symm.trans hf) |>.symm
      obtain rfl : fn = Tryz.f5 := (Option.some.inj (Tryz.func5.symm.trans hfn)).symm
      exact ⟨pfLooks, fun j t ht => by
        have ht : Tryz.f5.params[j]? = some t := ht
        rw [Tryz.params5] at ht
        have hm : t ∈ [9] := by simpa using Array.mem_of_getElem? ht
        exact (show Tryz.prog.wantsStandIn t = false by simpa using List.all_eq_true.1 pfStand t hm)⟩)
    pfGoes
#print axioms proved
end Go.Proofs.YtlemndledcmhiaaGreatDoor.catalogNothing
