/-
  The statement CachePlaysSaid, proved: for every input the Go function bollard/bollardlaw5.CachePlays answers true and leaves its arguments as they were. No condition.
-/
import Derived.Test.YtkanfpmmgaipnaaRows
import Derived.WalkKit
import Derived.Test.YtkanfpmmgaipnaaClwJ
import Derived.Test.YtkanfpmmgaipnaaHead
import Derived.ProofKit
import Derived.OpenShut
import Derived.ShutString
import Derived.ChangeOld
import Derived.Below
namespace Go.Proofs.Ytkanfpmmgaipnaa.cachePlays
open Go.ChangeShapes Go.WideShapes Go.ChangeAt Go.RowKit
open Go.ChangeMaps (open_string shut_string)
set_option linter.unusedVariables false

theorem own : ownKnob Try.prog.godebug = none := by kernel_rfl
theorem laidOut : laidOutB Try.prog = true := by kernel_rfl

theorem walk (w : World) (v0 : Value) (l0 : List (Int × Int × Int)) (h0 : Trips w v0 l0) (k0 : ∀ p ∈ l0, okI p.1 ∧ okI p.2.1 ∧ okI p.2.2) (n0 : l0.length ≤ maxLen) :
    Calls Try.prog 22 #[v0] w fun e w' => e = .returned (.bool true) ∧ Below w.heap.size w w' :=
  (cachePlays_any w v0 l0 h0 k0).mono fun _ _ ⟨a, b⟩ => ⟨a, b.below (Nat.le_refl _) (fun _ _ h => h)⟩

set_option maxRecDepth 100000 in
theorem lifted (os : Os) (started : os.Started) (H : Type) (enc : TypeId × Value → H) :
    ReturnsInHanded {} Try.checked os 22 .any (Rows.cachePlaysSpec.pre6 enc Try.prog Try.f22 Rows.cachePlaysRow.domain false) (Rows.cachePlaysSpec.post enc Try.prog Try.f22 false true false false) := by
  refine returnsInHanded_of_change (C := Try.checked) own started (by kernel_rfl) Try.func22
    (ChangeSpec.witness6 (enc := enc) (C := Try.checked) false ⟨#[], #[.slice none 0 0], []⟩ 8 (by kernel_rfl) (by kernel_rfl) (by kernel_rfl) (by kernel_rfl)) ?_
  intro W base args ds gs before hval0 hW hcnd _
  have hval : ∀ (j : Nat) t v, Try.f22.params[j]? = some t → args[j]? = some v → Value.okWide Try.prog W .any base t v := hval0
  have hW' := hW
  obtain ⟨p, q, hA0, hV, rfl, hfz, hnd⟩ := hW
  have hA : DataW.TrodAll enc Try.prog W 0 (fun _ => true) true Try.f22.params.toList args.toList ds p := hA0
  rw [Try.params22] at hA hval
  obtain ⟨v0, vs0, d0, ds0, p0, q0, hargs, rfl, rfl, h0, r0⟩ := trodAll_cons hA
  obtain ⟨rfl, rfl, rfl⟩ := trodAll_nil r0
  obtain rfl : args = #[v0] := by cases args; simp_all
  obtain ⟨rfl, rfl⟩ := trodVars_none hV
  obtain ⟨a0, len0, cap0, rfl⟩ := okWide_slice Try.underlying90 (hval 0 90 v0 rfl rfl)
  have k0 := h0
  have lt0 : ∀ x ∈ p0, x.block < W.heap.size := by obtain ⟨m, hm⟩ := k0; exact DataW.trod_lt m _ _ _ hm
  obtain ⟨l0, e0, o0, n0⟩ : ∃ l0 : List (Int × Int × Int), Trips W (.slice a0 len0 cap0) l0 ∧ (∀ p ∈ l0, okI p.1 ∧ okI p.2.1 ∧ okI p.2.2) ∧ l0.length ≤ maxLen := by
    obtain ⟨fuel, hf⟩ := h0
    obtain ⟨v, l, e, hp, ho, hn⟩ := open_trips Try.underlying90 Try.underlying98 (by kernel_rfl) (by kernel_rfl) Try.underlying3 Try.underlying3 Try.underlying3 hf
    have e : Value.slice a0 len0 cap0 = v := by simpa [Value.cells] using e
    subst e
    exact ⟨l, hp, ho, hn⟩
  clear hA0 hval0
  refine (walk W _ l0 e0 o0 n0).mono fun e W' ⟨he, bel⟩ => ?_
  subst he
  exact ⟨_, rfl, _, _, _, [], _, [], hW', trodAll_mk1 (shut_bool Try.underlying4 _), (trodAll_cons_mk (Below.trod laidOut (by kernel_rfl) (of_decide_eq_true (by kernel_rfl)) k0 bel lt0) trodAll_mk0), rfl, bel.frame _, fun h => by cases h⟩

theorem closed : joinedFacts Try.prog 22 Try.f22 Rows.cachePlaysSpec Rows.cachePlaysRow = true := by
  unfold joinedFacts
  rw [headMayEnter, headLiftsFinal, headMake]
  kernel_rfl

theorem over : Rows.cachePlaysRow.holds Try.pinned (OpenSpec.ofChange Rows.cachePlaysSpec) :=
  OpenClaim.holds_of_wide 22 Try.f22 rfl rfl rfl rfl rfl rfl rfl ⟨rfl, rfl, rfl, rfl, rfl⟩ rfl rfl rfl rfl rfl (by kernel_rfl) Try.func22 closed
    (of_decide_eq_true (by kernel_rfl)) (by unfold Func.isWrapper; first | (rw [if_pos (by decide +kernel)]; kernel_rfl) | (rw [if_neg (by decide +kernel)]; exact ⟨rfl, rfl⟩))
    (fun os started H enc _ => lifted os started H enc)

theorem proved : Rows.CachePlaysSaid := over
#print axioms proved
end Go.Proofs.Ytkanfpmmgaipnaa.cachePlays
