/-
  Ops of a device, one behind the other, and what a crash may leave of them: plain data.
-/
import Derived.Test.YtkanfpmmgaipnaaJrnH
namespace Go.Proofs.Ytkanfpmmgaipnaa
set_option linter.unusedVariables false

/-- An op that may be done: a write of a block, or a flush. -/
inductive DOp where
  | wr (k : Nat) (b : Blk)
  | fl

def DOp.did : DOp → DSt → DSt
  | .wr k b, D => D.op.put k b
  | .fl, D => D.op.flushed

def DOp.ok (n : Nat) : DOp → Prop
  | .wr k b => k < n ∧ b.length = 512
  | .fl => True

/-- Ops, one behind the other, until the power goes. -/
def runD : List DOp → DSt → DSt
  | [], D => D
  | o :: r, D => if D.off then D.op else runD r (o.did D)

/-- What the last one that was tried answers. -/
def endD : List DOp → DSt → Int
  | [], _ => 0
  | o :: r, D => if D.off then 9 else endD r (o.did D)

theorem runD_yes {o : DOp} {r : List DOp} {D : DSt} (h : D.off = true) : runD (o :: r) D = D.op := by unfold runD; rw [if_pos h]
theorem runD_no {o : DOp} {r : List DOp} {D : DSt} (h : ¬ D.off = true) : runD (o :: r) D = runD r (o.did D) := by conv => lhs; unfold runD; rw [if_neg h]
theorem endD_yes {o : DOp} {r : List DOp} {D : DSt} (h : D.off = true) : endD (o :: r) D = 9 := by unfold endD; rw [if_pos h]
theorem endD_no {o : DOp} {r : List DOp} {D : DSt} (h : ¬ D.off = true) : endD (o :: r) D = endD r (o.did D) := by conv => lhs; unfold endD; rw [if_neg h]

theorem did_n (o : DOp) (D : DSt) : (o.did D).n = D.n := by cases o <;> rfl
theorem did_ops (o : DOp) (D : DSt) : (o.did D).ops = D.ops + 1 := by cases o <;> rfl
theorem did_lim (o : DOp) (D : DSt) : (o.did D).lim = D.lim.map (· - 1) := by cases o <;> rfl
theorem did_wf {o : DOp} {D : DSt} (h : D.Wf) (ho : o.ok D.n) : (o.did D).Wf := by
  cases o with
  | wr k b => exact DSt.put_wf (DSt.op_wf h) ho.1 ho.2 (Nat.succ_le_succ (h.few _))
  | fl => exact DSt.flushed_wf (DSt.op_wf h)

theorem runD_n : ∀ (l : List DOp) (D : DSt), (runD l D).n = D.n
  | [], _ => rfl
  | o :: r, D => by
    unfold runD
    split
    · rfl
    · rw [runD_n r, did_n]

theorem runD_ops : ∀ (l : List DOp) (D : DSt), (runD l D).ops ≤ D.ops + l.length
  | [], _ => Nat.le_refl _
  | o :: r, D => by
    unfold runD
    split
    · show D.ops + 1 ≤ _; simp
    · have := runD_ops r (o.did D)
      rw [did_ops] at this
      simp only [List.length_cons]; omega

theorem runD_wf : ∀ (l : List DOp) (D : DSt), D.Wf → (∀ o ∈ l, o.ok D.n) → (runD l D).Wf
  | [], _, h, _ => h
  | o :: r, D, h, hl => by
    unfold runD
    split
    · exact DSt.op_wf h
    · exact runD_wf r _ (did_wf h (hl o (by simp))) (fun p hp => by rw [did_n]; exact hl p (by simp [hp]))

theorem endD_cases : ∀ (l : List DOp) (D : DSt), endD l D = 0 ∨ endD l D = 9
  | [], _ => .inl rfl
  | o :: r, D => by
    unfold endD
    split
    · exact .inr rfl
    · exact endD_cases r _

theorem runD_append : ∀ (a b : List DOp) (D : DSt), endD a D = 0 → runD (a ++ b) D = runD b (runD a D) ∧ endD (a ++ b) D = endD b (runD a D)
  | [], _, _, _ => ⟨rfl, rfl⟩
  | o :: r, b, D, h => by
    by_cases ho : D.off = true
    · rw [endD_yes ho] at h; cases h
    · rw [endD_no ho] at h
      rw [List.cons_append, runD_no ho, endD_no ho, runD_no ho]
      exact runD_append r b _ h

theorem runD_stop : ∀ (a b : List DOp) (D : DSt), endD a D = 9 → runD (a ++ b) D = runD a D ∧ endD (a ++ b) D = 9
  | [], _, _, h => by cases h
  | o :: r, b, D, h => by
    by_cases ho : D.off = true
    · rw [List.cons_append, runD_yes ho, endD_yes ho, runD_yes ho]; exact ⟨rfl, rfl⟩
    · rw [endD_no ho] at h
      rw [List.cons_append, runD_no ho, endD_no ho, runD_no ho]
      exact runD_stop r b _ h

theorem endD_none : ∀ (l : List DOp) (D : DSt), D.lim = none → endD l D = 0 ∧ (runD l D).lim = none
  | [], _, h => ⟨rfl, h⟩
  | o :: r, D, h => by
    have ho : D.off = false := off_of_lim h
    unfold endD runD
    rw [if_neg (by simp [ho]), if_neg (by simp [ho])]
    exact endD_none r _ (by rw [did_lim, h]; rfl)

theorem endD_off : ∀ (l : List DOp) (D : DSt), endD l D = 9 → (runD l D).off = true
  | [], _, h => by cases h
  | o :: r, D, h => by
    unfold endD at h
    unfold runD
    split
    · rename_i ho
      have hl : D.lim = some 0 := by simpa [DSt.off] using ho
      show (D.lim.map (· - 1) == some 0) = true
      rw [hl]; rfl
    · rename_i ho
      rw [if_neg ho] at h
      exact endD_off r _ h

/-! ### What a crash may leave -/

def Img (D : DSt) (C : Nat → Blk) : Prop := ∀ k, C k = D.base k ∨ C k ∈ D.pend k

theorem img_crash (D : DSt) (picks : List Int) : Img D (D.crash picks).base := fun k => by
  show (if (D.pend k).isEmpty then D.base k else D.crashBlk picks k) = D.base k ∨ (if (D.pend k).isEmpty then D.base k else D.crashBlk picks k) ∈ D.pend k
  split
  · exact .inl rfl
  · unfold DSt.crashBlk
    split
    · exact .inl rfl
    · rw [List.getD_eq_getElem?_getD]
      cases hx : (D.pend k)[D.pick picks k - 1]? with
      | none => exact .inl rfl
      | some b => exact .inr (List.mem_of_getElem? hx)

def setB (C : Nat → Blk) (k : Nat) (b : Blk) : Nat → Blk := fun x => if x = k then b else C x

theorem img_last (D : DSt) : Img D D.last := fun k => by
  unfold DSt.last
  cases hp : D.pend k with
  | nil => exact .inl rfl
  | cons a l => exact .inr (List.getLast_mem (l := a :: l) (by simp))

theorem img_put {D : DSt} {k : Nat} {b : Blk} {C : Nat → Blk} (h : Img (D.put k b) C) : ∃ C', Img D C' ∧ (C = C' ∨ C = setB C' k b) := by
  by_cases hk : C k = D.base k ∨ C k ∈ D.pend k
  · refine ⟨C, fun x => ?_, .inl rfl⟩
    by_cases hx : x = k
    · subst hx; exact hk
    · have := h x
      simp only [DSt.put, if_neg hx] at this
      exact this
  · refine ⟨setB C k (D.base k), fun x => ?_, .inr ?_⟩
    · unfold setB
      by_cases hx : x = k
      · subst hx; rw [if_pos rfl]; exact .inl rfl
      · rw [if_neg hx]
        have := h x
        simp only [DSt.put, if_neg hx] at this
        exact this
    · have hb : C k = b := by
        have := h k
        simp only [DSt.put, if_true] at this
        rcases this with h1 | h1
        · exact absurd (.inl h1) hk
        · rcases List.mem_append.1 h1 with h2 | h2
          · exact absurd (.inr h2) hk
          · simpa using h2
      funext x
      unfold setB
      by_cases hx : x = k
      · subst hx; rw [if_pos rfl]; exact hb
      · rw [if_neg hx, if_neg hx]

/-- Whatever a crash leaves, P holds of it. -/
def Safe (D : DSt) (P : (Nat → Blk) → Prop) : Prop := ∀ C, Img D C → P C

theorem Safe.mono {D : DSt} {P Q : (Nat → Blk) → Prop} (h : Safe D P) (hq : ∀ C, P C → Q C) : Safe D Q := fun C hC => hq C (h C hC)

theorem Safe.op {D : DSt} {P : (Nat → Blk) → Prop} (h : Safe D P) : Safe D.op P := h

theorem Safe.put {D : DSt} {P : (Nat → Blk) → Prop} (h : Safe D P) (k : Nat) (b : Blk) (hk : ∀ C, P C → P (setB C k b)) : Safe (D.op.put k b) P := fun C hC => by
  obtain ⟨C', h1, h2 | h2⟩ := img_put hC
  · subst h2; exact h _ h1
  · subst h2; exact hk _ (h _ h1)

theorem Safe.fl {D : DSt} {P : (Nat → Blk) → Prop} (h : Safe D P) : Safe D.op.flushed P := fun C hC => by
  have : C = D.last := funext fun k => by
    rcases hC k with h1 | h1
    · exact h1
    · simp [DSt.flushed] at h1
  subst this
  exact h _ (img_last D)

theorem Safe.run {P : (Nat → Blk) → Prop} : ∀ (l : List DOp) {D : DSt}, Safe D P → (∀ k b, .wr k b ∈ l → ∀ C, P C → P (setB C k b)) → Safe (runD l D) P
  | [], _, h, _ => h
  | o :: r, D, h, hl => by
    unfold runD
    split
    · exact h
    · refine Safe.run r ?_ (fun k b hm => hl k b (by simp [hm]))
      cases o with
      | wr k b => exact h.put k b (hl k b (by simp))
      | fl => exact h.fl

theorem Safe.clean {D : DSt} {P : (Nat → Blk) → Prop} (hp : ∀ k, D.pend k = []) (h : P D.base) : Safe D P := fun C hC => by
  have : C = D.base := funext fun k => by
    rcases hC k with h1 | h1
    · exact h1
    · rw [hp] at h1; cases h1
  rw [this]; exact h

theorem Safe.base {D : DSt} {P : (Nat → Blk) → Prop} (h : Safe D P) : P D.base := h _ (fun k => .inl rfl)

theorem last_fun_clean {D : DSt} (hp : ∀ k, D.pend k = []) : D.last = D.base := funext fun k => last_of_clean D k (hp k)

/-- The writes of a row of ops, on what is there. -/
def laysOn : List DOp → (Nat → Blk) → (Nat → Blk)
  | [], C => C
  | .wr k b :: r, C => laysOn r (setB C k b)
  | .fl :: r, C => laysOn r C

theorem last_put_fun (D : DSt) (k : Nat) (b : Blk) : (D.op.put k b).last = setB D.last k b := funext fun x => by
  unfold setB
  by_cases hx : x = k
  · subst hx; rw [if_pos rfl]; exact last_put_same _ _ _
  · rw [if_neg hx]; exact last_put_other _ _ hx

theorem runD_last : ∀ (l : List DOp) (D : DSt), endD l D = 0 → (runD l D).last = laysOn l D.last
  | [], _, _ => rfl
  | o :: r, D, h => by
    unfold endD at h
    unfold runD
    split
    · rename_i ho; rw [if_pos ho] at h; cases h
    · rename_i ho
      rw [if_neg ho] at h
      rw [runD_last r _ h]
      cases o with
      | wr k b => show laysOn r (D.op.put k b).last = _; rw [last_put_fun]; rfl
      | fl => rfl

theorem runD_fl (l : List DOp) (D : DSt) (h : endD (l ++ [.fl]) D = 0) : (∀ k, (runD (l ++ [.fl]) D).pend k = []) ∧ (runD (l ++ [.fl]) D).base = laysOn l D.last := by
  rcases endD_cases l D with h0 | h9
  · obtain ⟨e1, e2⟩ := runD_append l [.fl] D h0
    rw [e2] at h
    rw [e1]
    unfold endD at h
    unfold runD
    split
    · rename_i ho; rw [if_pos ho] at h; cases h
    · exact ⟨fun k => rfl, by show (runD l D).last = _; exact runD_last l D h0⟩
  · rw [(runD_stop l [.fl] D h9).2] at h; cases h

theorem laysOn_append : ∀ (a b : List DOp) (C : Nat → Blk), laysOn (a ++ b) C = laysOn b (laysOn a C)
  | [], _, _ => rfl
  | .wr k x :: r, b, C => laysOn_append r b _
  | .fl :: r, b, C => laysOn_append r b _
end Go.Proofs.Ytkanfpmmgaipnaa
