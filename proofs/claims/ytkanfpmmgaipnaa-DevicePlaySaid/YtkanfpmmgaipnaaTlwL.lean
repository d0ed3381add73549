/-
  A region that draws its order and stores, last of all, into a cell that it loads: S is asked behind every operation but the last.
-/
import Derived.Test.YtkanfpmmgaipnaaTlwC
import Derived.Deep.RegionHeld3
import Derived.Deep.AppendLies
namespace Go.Proofs.Ytkanfpmmgaipnaa
set_option linter.unusedVariables false

section
variable {P : Program} {ops : Array Oper} {Q : Exit → Act → World → Prop} {md : Region.Mode} {S : World → Prop}

/-- Have all n come up? -/
def allB (n : Nat) (listed : Array Bool) : Bool := (List.range n).all fun k => listed.getD k true

/-- Whatever order is picked from here on, and S holds behind every operation but the last. -/
def wpAnyT (P : Program) (md : Region.Mode) (ops : Array Oper) (Q : Exit → Act → World → Prop) (S : World → Prop) : Nat → Array Bool → Act → World → Prop
  | 0, listed, a, w => Region.ready md ops listed = [] ∧ Q .normal a w
  | fuel + 1, listed, a, w =>
    (Region.ready md ops listed = [] → Q .normal a w) ∧
    ∀ i ∈ Region.ready md ops listed, wpOp P ops Q i (fun a' w' => (allB ops.size (listed.setIfInBounds i true) = false → S w') ∧ wpAnyT P md ops Q S fuel (listed.setIfInBounds i true) a' w') a w

theorem wpAny_of_T : ∀ (fuel : Nat) (listed : Array Bool) (a : Act) (w : World), wpAnyT P md ops Q S fuel listed a w → wpAny P md ops Q fuel listed a w
  | 0, _, _, _, h => h
  | fuel + 1, _, _, _, h => ⟨h.1, fun i hi => wpOp_mono (fun a' w' h' => wpAny_of_T fuel _ a' w' h'.2) (h.2 i hi)⟩

/-- What has come up: each behind what it waits for. -/
def ClosedL (md : Region.Mode) (ops : Array Oper) (listed : Array Bool) : Prop :=
  ∀ (k : Nat) (ok : Oper), ops[k]? = some ok → listed.getD k false = true → ∀ e ∈ ok.after, Region.binds md e = true → listed.getD e.on false = true

/-- Another operation waits for i. -/
def Waits (md : Region.Mode) (ops : Array Oper) (i : Nat) : Prop := ∃ (k : Nat) (ok : Oper), ops[k]? = some ok ∧ k ≠ i ∧ ∃ e ∈ ok.after, Region.binds md e = true ∧ e.on = i

theorem ClosedL.set {listed : Array Bool} (h : ClosedL md ops listed) {j : Nat} (hj : j ∈ Region.ready md ops listed) : ClosedL md ops (listed.setIfInBounds j true) := by
  intro k ok hk hl e he hb
  by_cases hkj : k = j
  · subst hkj
    obtain ⟨_, o, ho, hall⟩ := mem_ready.1 hj
    rw [ho] at hk
    cases hk
    exact getD_set_true (hall e he hb)
  · rw [getD_set_ne false (Ne.symm hkj)] at hl
    exact getD_set_true (h k ok hk hl e he hb)

theorem wpAnyT_first {i : Nat} {oi : Oper} {v : Value} (hi : ops[i]? = some oi) (hsel : ∀ (j : Nat) (o : Oper) cs b, ops[j]? = some o → o.op ≠ .select cs b)
    (hQ : ∀ c a w, Q (.panic c) (a.put oi.dst v) w → Q (.panic c) a w) (hdep : Waits md ops i) :
    ∀ (fuel : Nat) (listed : Array Bool) (a : Act) (w : World), listed.size = ops.size → ClosedL md ops listed →
      (∀ j oj, ops[j]? = some oj → j ≠ i → listed.getD j true = false → (∀ e ∈ oj.after, Region.binds md e = true → e.on ≠ i) → oi.apart ops oj = true) →
      i ∈ Region.ready md ops listed → YieldsIf P ops S oi v a → S w →
      wpAnyT P md ops Q S fuel (listed.setIfInBounds i true) (a.put oi.dst v) w → wpAnyT P md ops Q S (fuel + 1) listed a w := by
  intro fuel
  induction fuel with
  | zero =>
    intro listed a w _ _ _ hr hy hS H
    refine ⟨fun h => (by rw [h] at hr; cases hr), fun j hj => ?_⟩
    by_cases hji : j = i
    · subst hji; exact hy.wpOp hi hS ⟨fun _ => hS, H⟩
    · have := ready_mono hj hji
      rw [H.1] at this
      cases this
  | succ fuel ih =>
    intro listed a w hsz hcl hfree hr hy hS H
    refine ⟨fun h => (by rw [h] at hr; cases hr), fun j hj => ?_⟩
    by_cases hji : j = i
    · subst hji; exact hy.wpOp hi hS ⟨fun _ => hS, H⟩
    · have h1 := H.2 j (ready_mono hj hji)
      obtain ⟨hjun, oj, hoj, hall⟩ := mem_ready.1 hj
      have hi0 := (mem_ready.1 hr).1
      have hif : listed.getD i false = false := by
        rcases Nat.lt_or_ge i listed.size with h' | h'
        · simp [h'] at hi0 ⊢; exact hi0
        · simp [Array.getElem?_eq_none h'] at hi0
      have hnot : ∀ e ∈ oj.after, Region.binds md e = true → e.on ≠ i := fun e he hb heq => by
        have h1 := hall e he hb
        rw [heq, hif] at h1
        cases h1
      have h2 := wpOp_putIf hoj (hfree j oj hoj hji hjun hnot) (fun cs b => hsel i oi cs b hi) (fun cs b => hsel j oj cs b hoj) hQ hy h1
      have hfree' : ∀ k ok, ops[k]? = some ok → k ≠ i → (listed.setIfInBounds j true).getD k true = false →
          (∀ e ∈ ok.after, Region.binds md e = true → e.on ≠ i) → oi.apart ops ok = true := fun k ok hk hki hun hno => by
        refine hfree k ok hk hki ?_ hno
        by_cases hjk : j = k
        · subst hjk; exact hjun
        · rw [getD_set_ne true hjk] at hun; exact hun
      have hsome : allB ops.size ((listed.setIfInBounds i true).setIfInBounds j true) = false := by
        obtain ⟨k, ok, hk, hki, e, he, hb, hei⟩ := hdep
        have hkj : k ≠ j := fun e2 => by
          subst e2
          rw [hoj] at hk
          cases hk
          exact hnot e he hb hei
        have hks : k < ops.size := (Array.getElem?_eq_some_iff.1 hk).1
        have hkun : listed.getD k true = false := by
          cases hx : listed.getD k true with
          | false => rfl
          | true =>
            have hx2 : listed.getD k false = true := by
              have h' : k < listed.size := by omega
              simp [h'] at hx ⊢; exact hx
            have := hcl k ok hk hx2 e he hb
            rw [hei, hif] at this
            cases this
        unfold allB
        rw [List.all_eq_false]
        refine ⟨k, List.mem_range.2 hks, ?_⟩
        rw [getD_set_ne true (Ne.symm hkj), getD_set_ne true (Ne.symm hki), hkun]
        simp
      refine wpOp_mono (fun a' w' h3 => ?_) h2
      have hSw := h3.2.1 hsome
      refine ⟨fun _ => hSw, ih (listed.setIfInBounds j true) a' w' (by simpa using hsz) (hcl.set hj) hfree' (ready_mono hr (Ne.symm hji)) h3.1 hSw ?_⟩
      rw [Array.setIfInBounds_comm _ _ hji]
      exact h3.2.2

/-! The moves, with the side conditions as Bools. -/
def closedB (md : Region.Mode) (ops : Array Oper) (listed : Array Bool) : Bool :=
  (List.range ops.size).all fun k => !listed.getD k false || (match ops[k]? with | some ok => ok.after.all fun e => !Region.binds md e || listed.getD e.on false | none => true)
def waitsB (md : Region.Mode) (ops : Array Oper) (i : Nat) : Bool :=
  (List.range ops.size).any fun k => !(k == i) && (match ops[k]? with | some ok => ok.after.any fun e => Region.binds md e && e.on == i | none => false)

theorem closedB_spec {listed : Array Bool} (h : closedB md ops listed = true) : ClosedL md ops listed := fun k ok hk hl e he hb => by
  unfold closedB at h
  have h1 := List.all_eq_true.1 h k (List.mem_range.2 (Array.getElem?_eq_some_iff.1 hk).1)
  rw [hk] at h1
  simp only [hl, Bool.not_true, Bool.false_or] at h1
  have h2 := Array.all_eq_true_iff_forall_mem.1 h1 e he
  rw [hb] at h2
  simpa using h2
theorem waitsB_spec {i : Nat} (h : waitsB md ops i = true) : Waits md ops i := by
  unfold waitsB at h
  obtain ⟨k, _, h1⟩ := List.any_eq_true.1 h
  cases hk : ops[k]? with
  | none => rw [hk] at h1; simp at h1
  | some ok =>
    rw [hk] at h1
    simp only [Bool.and_eq_true, Bool.not_eq_true', beq_eq_false_iff_ne] at h1
    obtain ⟨e, he, h2⟩ := Array.any_eq_true'.1 h1.2
    simp only [Bool.and_eq_true, beq_iff_eq] at h2
    exact ⟨k, ok, hk, h1.1, e, he, h2.1, h2.2⟩

theorem wpAnyT_take {i : Nat} {oi : Oper} {v : Value} {fuel : Nat} {listed : Array Bool} {a : Act} {w : World} (hi : ops[i]? = some oi)
    (hb : (Region.noSelect ops && Region.free md ops listed i && (Region.ready md ops listed).contains i && closedB md ops listed && waitsB md ops i && (listed.size == ops.size)) = true)
    (hQ : ∀ c a w, Q (.panic c) (a.put oi.dst v) w → Q (.panic c) a w) (hy : YieldsIf P ops S oi v a) (hS : S w)
    (h : wpAnyT P md ops Q S fuel (listed.setIfInBounds i true) (a.put oi.dst v) w) : wpAnyT P md ops Q S (fuel + 1) listed a w := by
  simp only [Bool.and_eq_true, beq_iff_eq] at hb
  obtain ⟨⟨⟨⟨⟨h1, h2⟩, h3⟩, h4⟩, h5⟩, h6⟩ := hb
  exact wpAnyT_first hi (Region.noSelect_spec h1) hQ (waitsB_spec h5) fuel listed a w h6 (closedB_spec h4) (Region.free_spec hi h2) (by simpa using h3) hy hS h

/-- One alone may come up. -/
theorem wpAnyT_one {i : Nat} {o : Oper} {fuel : Nat} {listed : Array Bool} {a : Act} {w : World} (ho : ops[i]? = some o) (hr : Region.ready md ops listed = [i])
    (h : ∀ K' : Act → World → Prop, Shut (∀ a w, (allB ops.size (listed.setIfInBounds i true) = false → S w) → wpAnyT P md ops Q S fuel (listed.setIfInBounds i true) a w → K' a w) → if Region.wanted o (yielded ops a.tmps) = true then Oper.wp P o a w K' Q else K' (a.put o.dst undef) w) :
    wpAnyT P md ops Q S (fuel + 1) listed a w := by
  refine ⟨fun h0 => (by rw [hr] at h0; cases h0), fun j hj => ?_⟩
  rw [hr] at hj
  obtain rfl : j = i := by simpa using hj
  exact wpOp_step ho (fun K' hK => h K' (fun a w hS hW => hK a w ⟨hS, hW⟩))

theorem wpAnyT_done {fuel : Nat} {listed : Array Bool} {a : Act} {w : World} (hr : Region.ready md ops listed = []) (h : Q .normal a w) : wpAnyT P md ops Q S fuel listed a w := by
  cases fuel with
  | zero => exact ⟨hr, h⟩
  | succ n => exact ⟨fun _ => h, by rw [hr]; simp⟩

theorem wp_region_T {id : Nat} {a : Act} {w : World} (hm : P.follows .mixedOrders = true)
    (h : wpAnyT P .any ops Q S ops.size (Array.replicate ops.size false) a w.drew) : (Code.region id ops true).wp P Q a w :=
  wp_region_any hm (wpAny_of_T _ _ _ _ h)
end
end Go.Proofs.Ytkanfpmmgaipnaa
