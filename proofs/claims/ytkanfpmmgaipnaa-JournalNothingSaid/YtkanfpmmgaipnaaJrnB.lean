/-
  tries: what may fail, one behind the other.
-/
import Derived.Test.YtkanfpmmgaipnaaJrnA
namespace Go.Proofs.Ytkanfpmmgaipnaa
set_option linter.unusedVariables false
open Go.ChangeMaps Go.MapKept Go.RowKit

/-- A call of function f enters it. -/
def EntersF (P : Program) (f : FuncId) : Prop := ∀ (args : Array Value) (w : World), (callFunc f args).run P w = .ok (.enter f args) w

theorem entersF_of {P : Program} {f : FuncId} {fn : Func} {c : Code} (hf : P.funcs[f]? = some fn) (hname : (fn.name == "runtime.NumGoroutine") = false) (hb : fn.body = some c) : EntersF P f := by
  intro args w
  have h1 : fn.name ≠ "runtime.NumGoroutine" := by simpa using hname
  simp [callFunc, hf, h1, hb, mark]

theorem upon_callF {P : Program} {o : Oper} {a : Act} {next : Act → World → Prop} {Q : Exit → Act → World → Prop} {w : World} {f : FuncId} {args : Array Value} {R : Ending → World → Prop} (hE : EntersF P f) (h : Calls P f args w R)
    (hR : ∀ e w', R e w' → ∃ v, e = .returned v ∧ next (a.put o.dst v) w') : o.upon P a next Q ((callFunc f args).run P w) := by
  rw [hE args w, Oper.upon_enter]
  refine h.mono ?_
  intro e w' hr
  obtain ⟨v, rfl, hn⟩ := hR e w' hr
  exact hn

set_option maxRecDepth 100000 in
/-- The i-th function is called where T i holds: it answers nought, and leaves T (i + 1); or else it answers x, and leaves Stop x. -/
theorem tries_any (w : World) (blk off len cap : Nat) (T : Nat → World → Prop) (Stop : Int → World → Prop) (g : Nat → FuncId) (fst cp : Nat → Array Value)
    (hT : T 0 w) (hc : ∀ i W, i < len → T i W → W.cell? ⟨blk, off + i, none⟩ = some (.func (.func (g i)) (fst i) (cp i))) (he : ∀ i, i < len → EntersF Try.prog (g i)) (hlen : len ≤ 1000000)
    (hs : ∀ i W, i < len → T i W → Calls Try.prog (g i) (fst i ++ cp i) W fun e w' => ∃ x : Int, e = .returned (.int .i64 x) ∧ (x = 0 → T (i + 1) w') ∧ (x ≠ 0 → Stop x w')) :
    Calls Try.prog 91 #[.slice (some ⟨blk, off, none⟩) len cap] w fun e w' => (e = .returned (.int .i64 0) ∧ T len w') ∨ ∃ x : Int, x ≠ 0 ∧ e = .returned (.int .i64 x) ∧ Stop x w' := by
  have HC := Lib.hid hc
  have HS := Lib.hid hs
  have HT := Lib.hid hT
  have HE := Lib.hid he
  clear hc hs hT he
  go_enter Try.func91, Try.ntmps91
  go_wp2_with fail
  go_loopw [4, 5, 8] (fun _ _ t wr => ∃ i : Nat, i ≤ len ∧ t = .int .i64 i ∧ T i wr) (fun _ _ t _ => len - (intOf t).toNat)
  case atStart => exact ⟨0, Nat.zero_le _, rfl, HT.out⟩
  case round =>
    clear HT
    obtain ⟨i, hi, rfl, hst⟩ := hrel
    have HST := Lib.hid hst
    clear hst
    by_cases hlt : i < len
    · have hi0 : (0 : Int) ≤ (i : Int) := Int.natCast_nonneg _
      have hi1 : (i : Int) < (len : Int) := by omega
      have hcell := HC.out i wr hlt HST.out
      have HCL := Lib.hid (HS.out i wr hlt HST.out)
      have HEN := Lib.hid (HE.out i hlt)
      generalize g i = gi at *
      generalize fst i = fi at *
      generalize cp i = ci at *
      go_wp2_with fail
      refine upon_callF HEN.out HCL.out ?_
      rintro e w2 ⟨x, rfl, h0, h1⟩
      refine ⟨_, rfl, ?_⟩
      by_cases hx : x = 0
      · subst hx
        have H2 := Lib.hid (h0 rfl)
        clear h0 h1
        go_wp2
        exact ⟨⟨i + 1, hlt, by go_num, H2.out⟩, by simp [intOf]; omega⟩
      · have H2 := Lib.hid (h1 hx)
        clear h0 h1
        go_wp2
        go_ret
        exact .inr ⟨x, hx, rfl, H2.out⟩
    · obtain rfl : i = len := by omega
      go_wp2
      go_ret
      exact .inl ⟨rfl, HST.out⟩
end Go.Proofs.Ytkanfpmmgaipnaa
