/-
  The tied card CatalogRefusesCardSaid, proved: for every input the Go function bollard/bollardlaw17.CatalogRefuses answers true and leaves its arguments as they were. The row's condition: the listed package-level variables of Go's library hold what the program's text lays (the card ties them).
-/
import Derived.Test.YtlemndledcmhiaaGreatDoorRows
import Derived.Test.YtlemndledcmhiaaGreatDoorCards
import Derived.Test.YtlemndledcmhiaaGreatDoorTie
import Derived.WalkKit
import Derived.Test.YtlemndledcmhiaaGreatDoorU20
import Derived.Test.YtlemndledcmhiaaGreatDoorHead
import Derived.ProofKit
import Derived.LaidMore
import Derived.Lay
import Derived.OpenShut
import Derived.ShutString
import Derived.ChangeOld
import Derived.Below
import Derived.SevenTiedAt
namespace Go.Proofs.YtlemndledcmhiaaGreatDoor.catalogRefuses
open Go.ChangeShapes Go.WideShapes Go.ChangeAt Go.RowKit
open Go.ChangeMaps (open_string shut_string)
set_option linter.unusedVariables false

theorem own : ownKnob Tryz.prog.godebug = none := by kernel_rfl

section
variable {H : Type} {enc : TypeId × Value → H} {w : World} {base : Nat} {sp : Nat → Bool} {held : Bool}
theorem cells5 : Tryz.prog.cellsOf 29 = 5 := by kernel_rfl
theorem cellsI : Tryz.prog.cellsOf 3 = 1 := by kernel_rfl
theorem cellsB : Tryz.prog.cellsOf 4 = 1 := by kernel_rfl
set_option maxRecDepth 10000 in
theorem open_set {v : Value} {d : DataW H} {ps : List MemPlace} (hd : DataW.Trod enc Tryz.prog w base sp held 29 v d ps) :
    ∃ (p3 p4 p5 : Int) (p6 : Bool) (p7 : Int), v = .agg (stz p3 p4 p5 p6 p7) ∧ d = .agg [.lit (.int .i64 p3), .lit (.int .i64 p4), .lit (.int .i64 p5), .lit (.bool p6), .lit (.int .i64 p7)] ∧ ps = [] ∧ (Lit.int .i64 p3).wf = true ∧ (Lit.int .i64 p4).wf = true ∧ (Lit.int .i64 p5).wf = true ∧ (Lit.int .i64 p7).wf = true := by
  obtain ⟨fuel, hf⟩ := hd
  cases fuel with
  | zero => simp [DataW.trod] at hf
  | succ fuel =>
    have hl : v.cells.toList.length = 5 := by
      simp only [DataW.trod, Tryz.underlying29, cells5] at hf
      split at hf
      · assumption
      · cases hf
    obtain ⟨xs, rfl⟩ : ∃ xs, v = .agg xs := by
      cases v <;> first | exact ⟨_, rfl⟩ | (simp [Value.cells] at hl)
    obtain ⟨l⟩ := xs
    have hl : l.length = 5 := hl
    match l, hl with
    | [c0, c1, c2, c3, c4], _ =>
      simp only [DataW.trod, Tryz.underlying29, cells5, Value.cells] at hf
      simp only [List.length_cons, List.length_nil, if_true, List.mapM_cons, List.mapM_nil, cellsI, cellsB, List.drop_zero, List.take_succ_cons, List.take_zero, List.drop_succ_cons] at hf
      obtain ⟨x0, h0⟩ : ∃ x, DataW.trod enc Tryz.prog w base sp held fuel 3 [c0] = some x := by
        cases h : DataW.trod enc Tryz.prog w base sp held fuel 3 [c0] with
        | none => simp [h] at hf
        | some x => exact ⟨x, rfl⟩
      obtain ⟨x1, h1⟩ : ∃ x, DataW.trod enc Tryz.prog w base sp held fuel 3 [c1] = some x := by
        cases h : DataW.trod enc Tryz.prog w base sp held fuel 3 [c1] with
        | none => simp [h, h0] at hf
        | some x => exact ⟨x, rfl⟩
      obtain ⟨x2, h2⟩ : ∃ x, DataW.trod enc Tryz.prog w base sp held fuel 3 [c2] = some x := by
        cases h : DataW.trod enc Tryz.prog w base sp held fuel 3 [c2] with
        | none => simp [h, h0, h1] at hf
        | some x => exact ⟨x, rfl⟩
      obtain ⟨x3, h3⟩ : ∃ x, DataW.trod enc Tryz.prog w base sp held fuel 4 [c3] = some x := by
        cases h : DataW.trod enc Tryz.prog w base sp held fuel 4 [c3] with
        | none => simp [h, h0, h1, h2] at hf
        | some x => exact ⟨x, rfl⟩
      obtain ⟨x4, h4⟩ : ∃ x, DataW.trod enc Tryz.prog w base sp held fuel 3 [c4] = some x := by
        cases h : DataW.trod enc Tryz.prog w base sp held fuel 3 [c4] with
        | none => simp [h, h0, h1, h2, h3] at hf
        | some x => exact ⟨x, rfl⟩
      simp [h0, h1, h2, h3, h4] at hf
      obtain ⟨p0, e0, rfl, w0⟩ := DataW.trod_int Tryz.underlying3 h0
      obtain ⟨p1, e1, rfl, w1⟩ := DataW.trod_int Tryz.underlying3 h1
      obtain ⟨p2, e2, rfl, w2⟩ := DataW.trod_int Tryz.underlying3 h2
      obtain ⟨p3, e3, rfl⟩ := DataW.trod_bool Tryz.underlying4 h3
      obtain ⟨p4, e4, rfl, w4⟩ := DataW.trod_int Tryz.underlying3 h4
      simp only [List.cons.injEq, and_true] at e0 e1 e2 e3 e4
      subst e0 e1 e2 e3 e4
      obtain ⟨rfl, rfl⟩ := hf
      exact ⟨p0, p1, p2, p3, p4, rfl, rfl, by simp, w0, w1, w2, w4⟩
theorem shut_set {p3 p4 p5 : Int} {p6 : Bool} {p7 : Int} (h3 : (Lit.int .i64 p3).wf = true) (h4 : (Lit.int .i64 p4).wf = true) (h5 : (Lit.int .i64 p5).wf = true) (h7 : (Lit.int .i64 p7).wf = true) :
    DataW.Trod enc Tryz.prog w base sp held 29 (.agg (stz p3 p4 p5 p6 p7)) (.agg [.lit (.int .i64 p3), .lit (.int .i64 p4), .lit (.int .i64 p5), .lit (.bool p6), .lit (.int .i64 p7)]) [] :=
  ⟨2, by simp [DataW.trod, Value.cells, stz, Tryz.underlying29, Tryz.underlying3, Tryz.underlying4, cells5, cellsI, cellsB, h3, h4, h5, h7]⟩
end

theorem walk (w : World) (s0 : ByteArray) (u0 : s0.size ≤ maxLen) (a1 : Int) (w1 : (Lit.int .i64 a1).wf = true) (g20 g21 g22 : Int) (g23 : Bool) (g24 : Int) :
    Calls Tryz.prog 4 #[.string s0, .int .i64 a1, .agg (stz g20 g21 g22 g23 g24)] w fun e w' => e = .returned (.bool true) ∧ Below w.heap.size w w' :=
  (catalogRefuses_any w s0 a1 g20 g21 g22 g23 g24).mono fun _ _ ⟨a, b⟩ => ⟨a, ⟨b.os, b.tape, b.output, b.size, fun k hk => b.block k hk (fun h => h)⟩⟩

theorem met (os : Os) (args : Array Value) : laidMetH Tryz.prog Rows.catalogRefusesRow.laid ((World.laidAll Tryz.prog os Rows.catalogRefusesRow.laid).forCall (fun _ _ => 0) ⟨#[], args, []⟩).memory := by
  rw [MakeChecks.laidMetH_plain _ _ _ (by kernel_rfl)]
  exact laidMet_laidAll _ (by kernel_rfl) (by kernel_rfl)

set_option maxRecDepth 100000 in
theorem lifted (os : Os) (started : os.Started) (H : Type) (enc : TypeId × Value → H) :
    ReturnsInHanded {} Tryz.checked os 4 .any (fun w args => (Rows.catalogRefusesSpec.pre enc Tryz.prog Tryz.f4 Rows.catalogRefusesRow.domain false w args ∧ laidMetH Tryz.prog Rows.catalogRefusesRow.laid w) ∧ sizedMet enc Tryz.prog Tryz.f4 (OpenSpec.ofChange Rows.catalogRefusesSpec) false w args)
      (Rows.catalogRefusesSpec.post enc Tryz.prog Tryz.f4 false true false false) := by
  refine returnsInHanded_of_change_and (C := Tryz.checked) (X := fun w _ => laidMetH Tryz.prog Rows.catalogRefusesRow.laid w) (fun _ _ _ hh h => h.of_heap hh) own started (by kernel_rfl) Tryz.func4
    (ChangeSpec.witness_shaped (enc := enc) (C := Tryz.checked) (os := os) (X := fun w _ => laidMetH Tryz.prog Rows.catalogRefusesRow.laid w) false (World.laidAll Tryz.prog os Rows.catalogRefusesRow.laid) #[.string ByteArray.empty, .int .i64 0, .agg #[.int .i64 0, .int .i64 0, .int .i64 0, .bool false, .int .i64 0]] 8 (World.laidAll_os _ _ _)
      (World.shaped_of_ZipB (by kernel_rfl) (by kernel_rfl)) (by kernel_rfl) (by kernel_rfl) (by kernel_rfl) (met os _)) ?_
  intro W base args ds gs before hval0 hW _ _ hL _
  have hval : ∀ (j : Nat) t v, Tryz.f4.params[j]? = some t → args[j]? = some v → Value.okWide Tryz.prog W .any base t v := hval0
  have hW' := hW
  obtain ⟨p, q, hA0, hV, rfl, hfz, hnd⟩ := hW
  have hA : DataW.TrodAll enc Tryz.prog W 0 (fun _ => true) true Tryz.f4.params.toList args.toList ds p := hA0
  rw [Tryz.params4] at hA hval
  obtain ⟨v0, vs0, d0, ds0, p0, q0, hargs, rfl, rfl, h0, r0⟩ := trodAll_cons hA
  obtain ⟨v1, vs1, d1, ds1, p1, q1, rfl, rfl, rfl, h1, r1⟩ := trodAll_cons r0
  obtain ⟨v2, vs2, d2, ds2, p2, q2, rfl, rfl, rfl, h2, r2⟩ := trodAll_cons r1
  obtain ⟨rfl, rfl, rfl⟩ := trodAll_nil r2
  obtain rfl : args = #[v0, v1, v2] := by cases args; simp_all
  obtain ⟨rfl, rfl⟩ := trodVars_none hV
  obtain ⟨s0, rfl, rfl, rfl, u0⟩ := open_string Tryz.underlying9 (hval 0 9 v0 rfl rfl) h0
  obtain ⟨a1, rfl, rfl, rfl, w1⟩ := open_int Tryz.underlying3 (hval 1 3 v1 rfl rfl) h1
  obtain ⟨g20, g21, g22, g23, g24, rfl, rfl, rfl, x20, x21, x22, x24⟩ := open_set h2
  clear hA0 hval0
  refine (walk W s0 u0 a1 w1 g20 g21 g22 g23 g24).mono fun e W' ⟨he, bel⟩ => ?_
  subst he
  exact ⟨_, rfl, _, _, _, [], _, [], hW', trodAll_mk1 (shut_bool Tryz.underlying4 _), (trodAll_cons_mk (shut_string Tryz.underlying9 u0) (trodAll_cons_mk (shut_int Tryz.underlying3 w1) (trodAll_cons_mk (shut_set x20 x21 x22 x24) trodAll_mk0))), rfl, bel.frame _, fun h => by cases h⟩

theorem cf1 : laidOutB Tryz.prog = true := by kernel_rfl
theorem cf2 : mapsRowed Tryz.prog = true := by kernel_rfl
theorem cf3 : Tryz.prog.inPlace 4 = Rows.catalogRefusesRow.inPlace := by kernel_rfl
theorem cf4 : Tryz.prog.unfollowed 4 = Rows.catalogRefusesRow.unfollowed := by kernel_rfl
theorem cf5 : Tryz.prog.recurses 4 = Rows.catalogRefusesRow.recurses := by kernel_rfl
theorem cf6 : Tryz.prog.varsNamed 4 = Rows.catalogRefusesRow.named := by kernel_rfl
theorem cf7 : Tryz.prog.plainKeys = Rows.catalogRefusesRow.plainKeys := by kernel_rfl
theorem cf8 : Tryz.prog.stops = [] := by kernel_rfl
theorem closed : joinedFacts Tryz.prog 4 Tryz.f4 Rows.catalogRefusesSpec Rows.catalogRefusesRow = true := by
  unfold joinedFacts
  rw [headMayEnter, headLiftsFinal, headMake, cf1, cf2, cf3, cf4, cf5, cf6, cf7, cf8]
  kernel_rfl

theorem over : Rows.catalogRefusesRow.holds Tryz.pinned (OpenSpec.ofChange Rows.catalogRefusesSpec) :=
  OpenClaim.holds_of_wide 4 Tryz.f4 rfl rfl rfl rfl rfl rfl rfl ⟨rfl, rfl, rfl, rfl, rfl⟩ rfl rfl rfl rfl rfl (by kernel_rfl) Tryz.func4 closed
    (of_decide_eq_true (by kernel_rfl)) (by unfold Func.isWrapper; first | (rw [if_pos (by decide +kernel)]; kernel_rfl) | (rw [if_neg (by decide +kernel)]; exact ⟨rfl, rfl⟩))
    (fun os started H enc _ => lifted os started H enc)

theorem pfWf : Rows.catalogRefusesRow.wfByText (OpenSpec.ofChange Rows.catalogRefusesSpec) = true := by kernel_rfl
theorem pfMain : Tryz.pinned.checked.prog.mainIs = some (true, "31c198e633e8f8b357a1fb93dc6abc551759ae68968ec3f13f9f280585afcc66".toList) := by kernel_rfl
theorem pfGoes : false = Rows.catalogRefusesRow.goesBy Tryz.pinned.checked.prog := by kernel_rfl
theorem pfLooks : true = Tryz.pinned.checked.prog.looks [] := by kernel_rfl
theorem pfNamed : Tryz.prog.funcNamed "bollard/bollardlaw17.CatalogRefuses" = some 4 := by kernel_rfl
theorem pfStand : ([9, 3, 29].all fun u => !Tryz.prog.wantsStandIn u) = true := by kernel_rfl

theorem proved : Rows.CatalogRefusesCardSaid :=
  Claim7.holds_tied_plain_at .later [] [.data, .data, .data, .data, .pinned] true (true, "31c198e633e8f8b357a1fb93dc6abc551759ae68968ec3f13f9f280585afcc66") true over (fun _ h => by cases h) pfWf (fun _ h => by cases h) catalogRefuses_row_tie rfl ⟨rfl, rfl⟩ pfMain rfl
    (fun f fn hf hfn => by
      obtain rfl : f = 4 := Option.some.inj (pfNamed.symm.trans hf) |>.symm
      obtain rfl : fn = Tryz.f4 := (Option.some.inj (Tryz.func4.symm.trans hfn)).symm
      exact ⟨pfLooks, fun j t ht => by
        have ht : Tryz.f4.params[j]? = some t := ht
        rw [Tryz.params4] at ht
        have hm : t ∈ [9, 3, 29] := by simpa using Array.mem_of_getElem? ht
        exact (show Tryz.prog.wantsStandIn t = false by simpa using List.all_eq_true.1 pfStand t hm)⟩)
    pfGoes
#print axioms proved
end Go.Proofs.YtlemndledcmhiaaGreatDoor.catalogRefuses
