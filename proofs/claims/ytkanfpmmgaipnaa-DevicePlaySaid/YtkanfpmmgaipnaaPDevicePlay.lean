/-
  The statement DevicePlaySaid, proved: for every input the Go function bollard/bollardlaw3.DevicePlay answers true and leaves its arguments as they were. No condition.
-/
import Derived.Test.YtkanfpmmgaipnaaRows
import Derived.WalkKit
import Derived.Test.YtkanfpmmgaipnaaTlwR
import Derived.Test.YtkanfpmmgaipnaaHead
import Derived.ProofKit
import Derived.OpenShut
import Derived.ShutString
import Derived.ChangeOld
import Derived.Below
namespace Go.Proofs.Ytkanfpmmgaipnaa.devicePlay
open Go.ChangeShapes Go.WideShapes Go.ChangeAt Go.RowKit
open Go.ChangeMaps (open_string shut_string)
set_option linter.unusedVariables false

theorem own : ownKnob Try.prog.godebug = none := by kernel_rfl
theorem laidOut : laidOutB Try.prog = true := by kernel_rfl

theorem walk (w : World) (a0 : Int) (w0 : (Lit.int .i64 a0).wf = true) (v1 : Value) (l1 : List Ply) (h1 : Plays w v1 l1) (k1 : ∀ p ∈ l1, PlyOk p) (n1 : l1.length ≤ maxLen) :
    Calls Try.prog 9 #[.int .i64 a0, v1] w fun e w' => e = .returned (.bool true) ∧ Below w.heap.size w w' :=
  (devicePlay_any w a0 w0 v1 l1 h1 k1 n1).mono fun _ _ ⟨a, b⟩ => ⟨a, b.below (Nat.le_refl _) (fun _ _ h => h)⟩

set_option maxRecDepth 100000 in
theorem lifted (os : Os) (started : os.Started) (H : Type) (enc : TypeId × Value → H) :
    ReturnsInHanded {} Try.checked os 9 .any (Rows.devicePlaySpec.pre6 enc Try.prog Try.f9 Rows.devicePlayRow.domain false) (Rows.devicePlaySpec.post enc Try.prog Try.f9 false true false false) := by
  refine returnsInHanded_of_change (C := Try.checked) own started (by kernel_rfl) Try.func9
    (ChangeSpec.witness6 (enc := enc) (C := Try.checked) false ⟨#[], #[.int .i64 0, .slice none 0 0], []⟩ 8 (by kernel_rfl) (by kernel_rfl) (by kernel_rfl) (by kernel_rfl)) ?_
  intro W base args ds gs before hval0 hW hcnd _
  have hval : ∀ (j : Nat) t v, Try.f9.params[j]? = some t → args[j]? = some v → Value.okWide Try.prog W .any base t v := hval0
  have hW' := hW
  obtain ⟨p, q, hA0, hV, rfl, hfz, hnd⟩ := hW
  have hA : DataW.TrodAll enc Try.prog W 0 (fun _ => true) true Try.f9.params.toList args.toList ds p := hA0
  rw [Try.params9] at hA hval
  obtain ⟨v0, vs0, d0, ds0, p0, q0, hargs, rfl, rfl, h0, r0⟩ := trodAll_cons hA
  obtain ⟨v1, vs1, d1, ds1, p1, q1, rfl, rfl, rfl, h1, r1⟩ := trodAll_cons r0
  obtain ⟨rfl, rfl, rfl⟩ := trodAll_nil r1
  obtain rfl : args = #[v0, v1] := by cases args; simp_all
  obtain ⟨rfl, rfl⟩ := trodVars_none hV
  obtain ⟨a0, rfl, rfl, rfl, w0⟩ := open_int Try.underlying3 (hval 0 3 v0 rfl rfl) h0
  obtain ⟨a1, len1, cap1, rfl⟩ := okWide_slice Try.underlying48 (hval 1 48 v1 rfl rfl)
  have k1 := h1
  have lt1 : ∀ x ∈ p1, x.block < W.heap.size := by obtain ⟨m, hm⟩ := k1; exact DataW.trod_lt m _ _ _ hm
  obtain ⟨l1, e1, o1, n1⟩ : ∃ l1 : List Ply, Plays W (.slice a1 len1 cap1) l1 ∧ (∀ p ∈ l1, PlyOk p) ∧ l1.length ≤ maxLen := by
    obtain ⟨fuel, hf⟩ := h1
    obtain ⟨v, l, e, hp, ho, hn⟩ := open_plays Try.underlying48 Try.underlying56 (by kernel_rfl) (by kernel_rfl) Try.underlying3 Try.underlying3 Try.underlying3 Try.underlying22 Try.underlying3 (by kernel_rfl) hf
    have e : Value.slice a1 len1 cap1 = v := by simpa [Value.cells] using e
    subst e
    exact ⟨l, hp, ho, hn⟩
  clear hA0 hval0
  refine (walk W a0 w0 _ l1 e1 o1 n1).mono fun e W' ⟨he, bel⟩ => ?_
  subst he
  exact ⟨_, rfl, _, _, _, [], _, [], hW', trodAll_mk1 (shut_bool Try.underlying4 _), (trodAll_cons_mk (shut_int Try.underlying3 w0) (trodAll_cons_mk (Below.trod laidOut (by kernel_rfl) (of_decide_eq_true (by kernel_rfl)) k1 bel lt1) trodAll_mk0)), rfl, bel.frame _, fun h => by cases h⟩

theorem closed : joinedFacts Try.prog 9 Try.f9 Rows.devicePlaySpec Rows.devicePlayRow = true := by
  unfold joinedFacts
  rw [headMayEnter, headLiftsFinal, headMake]
  kernel_rfl

theorem over : Rows.devicePlayRow.holds Try.pinned (OpenSpec.ofChange Rows.devicePlaySpec) :=
  OpenClaim.holds_of_wide 9 Try.f9 rfl rfl rfl rfl rfl rfl rfl ⟨rfl, rfl, rfl, rfl, rfl⟩ rfl rfl rfl rfl rfl (by kernel_rfl) Try.func9 closed
    (of_decide_eq_true (by kernel_rfl)) (by unfold Func.isWrapper; first | (rw [if_pos (by decide +kernel)]; kernel_rfl) | (rw [if_neg (by decide +kernel)]; exact ⟨rfl, rfl⟩))
    (fun os started H enc _ => lifted os started H enc)

theorem proved : Rows.DevicePlaySaid := over
#print axioms proved
end Go.Proofs.Ytkanfpmmgaipnaa.devicePlay
