/-
  The tied card CatalogManyCardSaid, proved: for every input the Go function bollard/bollardlaw17.CatalogMany answers true and leaves its arguments as they were. The row's condition: the listed package-level variables of Go's library hold what the program's text lays (the card ties them).
-/
import Derived.Test.YtlemndledcmhiaaGreatDoorRows
import Derived.Test.YtlemndledcmhiaaGreatDoorCards
import Derived.Test.YtlemndledcmhiaaGreatDoorTie
import Derived.WalkKit
import Derived.Test.YtlemndledcmhiaaGreatDoorQ20
import Derived.Test.YtlemndledcmhiaaGreatDoorHead
import Derived.ProofKit
import Derived.LaidMore
import Derived.Lay
import Derived.OpenShut
import Derived.ShutString
import Derived.ChangeOld
import Derived.Below
import Derived.SevenTiedAt
namespace Go.Proofs.YtlemndledcmhiaaGreatDoor.catalogMany
open Go.ChangeShapes Go.WideShapes Go.ChangeAt Go.RowKit
open Go.ChangeMaps (open_string shut_string)
set_option linter.unusedVariables false

theorem own : ownKnob Tryz.prog.godebug = none := by kernel_rfl

theorem walk (w : World) (a0 : Int) (w0 : (Lit.int .i64 a0).wf = true) (a1 : Int) (w1 : (Lit.int .i64 a1).wf = true) :
    Calls Tryz.prog 3 #[.int .i64 a0, .int .i64 a1] w fun e w' => e = .returned (.bool true) ∧ Below w.heap.size w w' :=
  (catalogMany_any w a0 a1).mono fun _ _ ⟨a, b⟩ => ⟨a, ⟨b.os, b.tape, b.output, b.size, fun k hk => b.block k hk (fun h => h)⟩⟩

theorem met (os : Os) (args : Array Value) : laidMetH Tryz.prog Rows.catalogManyRow.laid ((World.laidAll Tryz.prog os Rows.catalogManyRow.laid).forCall (fun _ _ => 0) ⟨#[], args, []⟩).memory := by
  rw [MakeChecks.laidMetH_plain _ _ _ (by kernel_rfl)]
  exact laidMet_laidAll _ (by kernel_rfl) (by kernel_rfl)

set_option maxRecDepth 100000 in
theorem lifted (os : Os) (started : os.Started) (H : Type) (enc : TypeId × Value → H) :
    ReturnsInHanded {} Tryz.checked os 3 .any (fun w args => (Rows.catalogManySpec.pre enc Tryz.prog Tryz.f3 Rows.catalogManyRow.domain false w args ∧ laidMetH Tryz.prog Rows.catalogManyRow.laid w) ∧ sizedMet enc Tryz.prog Tryz.f3 (OpenSpec.ofChange Rows.catalogManySpec) false w args)
      (Rows.catalogManySpec.post enc Tryz.prog Tryz.f3 false true false false) := by
  refine returnsInHanded_of_change_and (C := Tryz.checked) (X := fun w _ => laidMetH Tryz.prog Rows.catalogManyRow.laid w) (fun _ _ _ hh h => h.of_heap hh) own started (by kernel_rfl) Tryz.func3
    (ChangeSpec.witness_shaped (enc := enc) (C := Tryz.checked) (os := os) (X := fun w _ => laidMetH Tryz.prog Rows.catalogManyRow.laid w) false (World.laidAll Tryz.prog os Rows.catalogManyRow.laid) #[.int .i64 0, .int .i64 0] 8 (World.laidAll_os _ _ _)
      (World.shaped_of_ZipB (by kernel_rfl) (by kernel_rfl)) (by kernel_rfl) (by kernel_rfl) (by kernel_rfl) (met os _)) ?_
  intro W base args ds gs before hval0 hW _ _ hL _
  have hval : ∀ (j : Nat) t v, Tryz.f3.params[j]? = some t → args[j]? = some v → Value.okWide Tryz.prog W .any base t v := hval0
  have hW' := hW
  obtain ⟨p, q, hA0, hV, rfl, hfz, hnd⟩ := hW
  have hA : DataW.TrodAll enc Tryz.prog W 0 (fun _ => true) true Tryz.f3.params.toList args.toList ds p := hA0
  rw [Tryz.params3] at hA hval
  obtain ⟨v0, vs0, d0, ds0, p0, q0, hargs, rfl, rfl, h0, r0⟩ := trodAll_cons hA
  obtain ⟨v1, vs1, d1, ds1, p1, q1, rfl, rfl, rfl, h1, r1⟩ := trodAll_cons r0
  obtain ⟨rfl, rfl, rfl⟩ := trodAll_nil r1
  obtain rfl : args = #[v0, v1] := by cases args; simp_all
  obtain ⟨rfl, rfl⟩ := trodVars_none hV
  obtain ⟨a0, rfl, rfl, rfl, w0⟩ := open_int Tryz.underlying3 (hval 0 3 v0 rfl rfl) h0
  obtain ⟨a1, rfl, rfl, rfl, w1⟩ := open_int Tryz.underlying3 (hval 1 3 v1 rfl rfl) h1
  clear hA0 hval0
  refine (walk W a0 w0 a1 w1).mono fun e W' ⟨he, bel⟩ => ?_
  subst he
  exact ⟨_, rfl, _, _, _, [], _, [], hW', trodAll_mk1 (shut_bool Tryz.underlying4 _), (trodAll_cons_mk (shut_int Tryz.underlying3 w0) (trodAll_cons_mk (shut_int Tryz.underlying3 w1) trodAll_mk0)), rfl, bel.frame _, fun h => by cases h⟩

theorem closed : joinedFacts Tryz.prog 3 Tryz.f3 Rows.catalogManySpec Rows.catalogManyRow = true := by
  unfold joinedFacts
  rw [headMayEnter, headLiftsFinal, headMake]
  kernel_rfl

theorem over : Rows.catalogManyRow.holds Tryz.pinned (OpenSpec.ofChange Rows.catalogManySpec) :=
  OpenClaim.holds_of_wide 3 Tryz.f3 rfl rfl rfl rfl rfl rfl rfl ⟨rfl, rfl, rfl, rfl, rfl⟩ rfl rfl rfl rfl rfl (by kernel_rfl) Tryz.func3 closed
    (of_decide_eq_true (by kernel_rfl)) (by unfold Func.isWrapper; first | (rw [if_pos (by decide +kernel)]; kernel_rfl) | (rw [if_neg (by decide +kernel)]; exact ⟨rfl, rfl⟩))
    (fun os started H enc _ => lifted os started H enc)

theorem pfWf : Rows.catalogManyRow.wfByText (OpenSpec.ofChange Rows.catalogManySpec) = true := by kernel_rfl
theorem pfMain : Tryz.pinned.checked.prog.mainIs = some (true, "31c198e633e8f8b357a1fb93dc6abc551759ae68968ec3f13f9f280585afcc66".toList) := by kernel_rfl
theorem pfGoes : false = Rows.catalogManyRow.goesBy Tryz.pinned.checked.prog := by kernel_rfl
theorem pfLooks : true = Tryz.pinned.checked.prog.looks [] := by kernel_rfl
theorem pfNamed : Tryz.prog.funcNamed "bollard/bollardlaw17.CatalogMany" = some 3 := by kernel_rfl
theorem pfStand : ([3, 3].all fun u => !Tryz.prog.wantsStandIn u) = true := by kernel_rfl

theorem proved : Rows.CatalogManyCardSaid :=
  Claim7.holds_tied_plain_at .later [] [.data, .data, .data, .data, .pinned] true (true, "31c198e633e8f8b357a1fb93dc6abc551759ae68968ec3f13f9f280585afcc66") true over (fun _ h => by cases h) pfWf (fun _ h => by cases h) catalogMany_row_tie rfl ⟨rfl, rfl⟩ pfMain rfl
    (fun f fn hf hfn => by
      obtain rfl : f = 3 := Option.some.inj (pfNamed.symm.trans hf) |>.symm
      obtain rfl : fn = Tryz.f3 := (Option.some.inj (Tryz.func3.symm.trans hfn)).symm
      exact ⟨pfLooks, fun j t ht => by
        have ht : Tryz.f3.params[j]? = some t := ht
        rw [Tryz.params3] at ht
        have hm : t ∈ [3, 3] := by simpa using Array.mem_of_getElem? ht
        exact (show Tryz.prog.wantsStandIn t = false by simpa using List.all_eq_true.1 pfStand t hm)⟩)
    pfGoes
#print axioms proved
end Go.Proofs.YtlemndledcmhiaaGreatDoor.catalogMany
