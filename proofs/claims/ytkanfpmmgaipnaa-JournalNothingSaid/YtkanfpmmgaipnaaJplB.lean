/-
  The journal on a device, as plain data: its headers, what opening picks, and why a crash takes nothing.
-/
import Derived.Test.YtkanfpmmgaipnaaJplA
namespace Go.Proofs.Ytkanfpmmgaipnaa
set_option linter.unusedVariables false

def markL : List UInt8 := [66, 79, 76, 76, 65, 82, 68, 72]

/-- A header of generation g: its number and its blocks. -/
def hdrOk (g : Nat) (b : Blk) : Bool := b.take 8 == markL && getLE b 8 8 == g
def hdrN (b : Blk) : Nat := getLE b 16 8
def hdrCnt (b : Blk) : Nat := getLE b 24 8
def hdrAt (b : Blk) (i : Nat) : Nat := getLE b (32 + 4 * i) 4
def hdrL (b : Blk) : List Nat := (List.range (hdrCnt b)).map (hdrAt b)

def slotB (i : Nat) : Nat := 1 + 61 * i

/-- What stands in a place of a slot. -/
def slotD (C : Nat → Blk) (s m : Nat) : List Blk := (List.range m).map fun i => C (slotB s + 1 + i)

theorem slotD_length (C : Nat → Blk) (s m : Nat) : (slotD C s m).length = m := by simp [slotD]
theorem slotD_get (C : Nat → Blk) (s m i : Nat) (h : i < m) : (slotD C s m)[i]? = some (C (slotB s + 1 + i)) := by simp [slotD, h]

/-- A journal of generation g lies in the blocks C, of n: its last commit is number last, which changed the blocks o, and what it made of them is dt. -/
structure JDisk (n g : Nat) (C : Nat → Blk) (last : Nat) (o : List Nat) (dt : List Blk) : Prop where
  magic : isMagic (C 0) = true
  gen : getLE (C 0) 8 8 = g
  slots : ∀ i, i < 4 → hdrOk g (C (slotB i)) = true → hdrCnt (C (slotB i)) ≤ 60 ∧ hdrN (C (slotB i)) % 4 = i ∧ hdrN (C (slotB i)) ≤ last
  chosen : (last = 0 ∧ o = [] ∧ dt = []) ∨ (0 < last ∧ hdrOk g (C (slotB (last % 4))) = true ∧ hdrN (C (slotB (last % 4))) = last ∧ o = hdrL (C (slotB (last % 4))) ∧ dt = slotD C (last % 4) o.length)
  homes : ∀ k ∈ o, 245 ≤ k ∧ k < n
  nodup : o.Nodup

theorem JDisk.len {n g last : Nat} {C : Nat → Blk} {o : List Nat} {dt : List Blk} (h : JDisk n g C last o dt) : dt.length = o.length := by
  rcases h.chosen with ⟨_, rfl, rfl⟩ | ⟨_, _, _, _, h5⟩
  · rfl
  · rw [h5, slotD_length]

theorem JDisk.few {n g last : Nat} {C : Nat → Blk} {o : List Nat} {dt : List Blk} (h : JDisk n g C last o dt) : o.length ≤ 60 := by
  rcases h.chosen with ⟨_, rfl, rfl⟩ | ⟨h0, h1, h2, h3, h5⟩
  · exact Nat.zero_le _
  · rw [h3]
    have := (h.slots (last % 4) (by omega) h1).1
    simpa [hdrL] using this

/-- What opening has picked behind i slots. -/
def pickTo (g : Nat) (C : Nat → Blk) : Nat → Nat × List Nat
  | 0 => (0, [])
  | i + 1 => if hdrOk g (C (slotB i)) = true ∧ (pickTo g C i).1 < hdrN (C (slotB i)) then (hdrN (C (slotB i)), hdrL (C (slotB i))) else pickTo g C i

theorem pickTo_le {n g last : Nat} {C : Nat → Blk} {o : List Nat} {dt : List Blk} (h : JDisk n g C last o dt) : ∀ i, i ≤ 4 → (pickTo g C i).1 ≤ last
  | 0, _ => Nat.zero_le _
  | i + 1, hi => by
    unfold pickTo
    split
    · rename_i hc; exact (h.slots i (by omega) hc.1).2.2
    · exact pickTo_le h i (by omega)

theorem pickTo_lt {n g last : Nat} {C : Nat → Blk} {o : List Nat} {dt : List Blk} (h : JDisk n g C last o dt) (hl : 0 < last) : ∀ i, i ≤ last % 4 → (pickTo g C i).1 < last
  | 0, _ => hl
  | i + 1, hi => by
    unfold pickTo
    split
    · rename_i hc
      obtain ⟨_, h2, h3⟩ := h.slots i (by omega) hc.1
      show hdrN (C (slotB i)) < last
      rcases Nat.lt_or_eq_of_le h3 with h4 | h4
      · exact h4
      · rw [h4] at h2; omega
    · exact pickTo_lt h hl i (by omega)

theorem pickTo_stay {n g last : Nat} {C : Nat → Blk} {o : List Nat} {dt : List Blk} (h : JDisk n g C last o dt) (hl : 0 < last) : ∀ d, last % 4 + 1 + d ≤ 4 → pickTo g C (last % 4 + 1 + d) = (last, o)
  | 0, _ => by
    rcases h.chosen with ⟨h0, _⟩ | ⟨_, h1, h2, h3, _⟩
    · omega
    · show pickTo g C (last % 4 + 1) = _
      unfold pickTo
      rw [if_pos ⟨h1, by rw [h2]; exact pickTo_lt h hl _ (Nat.le_refl _)⟩, h2, h3]
  | d + 1, hd => by
    show pickTo g C (last % 4 + 1 + d + 1) = _
    have ih := pickTo_stay h hl d (by omega)
    unfold pickTo
    rw [ih]
    split
    · rename_i hc
      have := (h.slots (last % 4 + 1 + d) (by omega) hc.1).2.2
      have h2 : last < hdrN (C (slotB (last % 4 + 1 + d))) := hc.2
      omega
    · rfl

theorem JDisk.pick {n g last : Nat} {C : Nat → Blk} {o : List Nat} {dt : List Blk} (h : JDisk n g C last o dt) : pickTo g C 4 = (last, o) := by
  rcases Nat.eq_zero_or_pos last with h0 | h0
  · subst h0
    have ho : o = [] := by
      rcases h.chosen with ⟨_, h1, _⟩ | ⟨h1, _⟩
      · exact h1
      · omega
    subst ho
    have : ∀ i, i ≤ 4 → pickTo g C i = (0, []) := by
      intro i
      induction i with
      | zero => intro _; rfl
      | succ i ih =>
        intro hi
        unfold pickTo
        rw [ih (by omega)]
        split
        · rename_i hc
          have := (h.slots i (by omega) hc.1).2.2
          have h2 : 0 < hdrN (C (slotB i)) := hc.2
          omega
        · rfl
    exact this 4 (Nat.le_refl _)
  · have := pickTo_stay h h0 (3 - last % 4) (by omega)
    rwa [show last % 4 + 1 + (3 - last % 4) = 4 from by omega] at this

/-- The homes, as the journal tells them. -/
def over (o : List Nat) (dt : List Blk) (C : Nat → Blk) (k : Nat) : Blk :=
  match o, dt with
  | x :: o', b :: dt' => if x = k then b else over o' dt' C k
  | _, _ => C k

theorem over_not : ∀ (o : List Nat) (dt : List Blk) (C : Nat → Blk) (k : Nat), k ∉ o → over o dt C k = C k
  | [], _, _, _, _ => by unfold over; rfl
  | x :: o, [], _, _, _ => by unfold over; rfl
  | x :: o, b :: dt, C, k, h => by
    unfold over
    rw [if_neg (fun e => h (by simp [e]))]
    exact over_not o dt C k (fun e => h (by simp [e]))

theorem over_at : ∀ (o : List Nat) (dt : List Blk) (C : Nat → Blk) (i k : Nat) (b : Blk), o.Nodup → o[i]? = some k → dt[i]? = some b → over o dt C k = b
  | [], _, _, _, _, _, _, h, _ => by simp at h
  | x :: o, [], _, _, _, _, _, _, h => by simp at h
  | x :: o, c :: dt, C, 0, k, b, _, h1, h2 => by
    simp at h1 h2; subst h1 h2; unfold over; rw [if_pos rfl]
  | x :: o, c :: dt, C, i + 1, k, b, hn, h1, h2 => by
    simp only [List.getElem?_cons_succ] at h1 h2
    have hm : k ∈ o := List.mem_of_getElem? h1
    unfold over
    have hne : ¬ x = k := fun e => (List.nodup_cons.1 hn).1 (by rw [e]; exact hm)
    rw [if_neg hne]
    exact over_at o dt C i k b (List.nodup_cons.1 hn).2 h1 h2

theorem over_congr : ∀ (o : List Nat) (dt : List Blk) (C C' : Nat → Blk) (k : Nat), dt.length = o.length → (k ∉ o → C k = C' k) → over o dt C k = over o dt C' k
  | [], _, C, C', k, _, h => by unfold over; exact h (by simp)
  | x :: o, [], _, _, _, hl, _ => by simp at hl
  | x :: o, b :: dt, C, C', k, hl, h => by
    unfold over
    split
    · rfl
    · rename_i hx
      exact over_congr o dt C C' k (by simpa using hl) (fun hk => h (by simp [hk]; exact fun e => hx e.symm))

/-- The journal's own view of a state s of the homes. -/
def Tells (n g m : Nat) (s : Nat → Blk) (C : Nat → Blk) : Prop := ∃ last o dt, last ≤ m ∧ JDisk n g C last o dt ∧ ∀ k, 245 ≤ k → k < n → over o dt C k = s k

/-- The same with the last commit named. -/
def TellsAt (n g last : Nat) (o : List Nat) (dt : List Blk) (s : Nat → Blk) (C : Nat → Blk) : Prop := JDisk n g C last o dt ∧ ∀ k, 245 ≤ k → k < n → over o dt C k = s k

theorem slotB_lt {i : Nat} (h : i < 4) : slotB i < 245 := by unfold slotB; omega

theorem JDisk.congr {n g last : Nat} {C C' : Nat → Blk} {o : List Nat} {dt : List Blk} (h : JDisk n g C last o dt) (h0 : C' 0 = C 0) (hh : ∀ i, i < 4 → C' (slotB i) = C (slotB i))
    (hd : ∀ i, i < o.length → C' (slotB (last % 4) + 1 + i) = C (slotB (last % 4) + 1 + i)) : JDisk n g C' last o dt := by
  refine ⟨by rw [h0]; exact h.magic, by rw [h0]; exact h.gen, fun i hi => by rw [hh i hi]; exact h.slots i hi, ?_, h.homes, h.nodup⟩
  rcases h.chosen with hc | ⟨h1, h2, h3, h4, h5⟩
  · exact .inl hc
  · refine .inr ⟨h1, ?_, ?_, ?_, ?_⟩
    · rw [hh _ (by omega)]; exact h2
    · rw [hh _ (by omega)]; exact h3
    · rw [hh _ (by omega)]; exact h4
    · rw [h5]
      unfold slotD
      apply List.map_congr_left
      intro i hi
      exact (hd i (by simpa using hi)).symm

/-- A home of the last commit is laid. -/
theorem TellsAt.lay {n g last : Nat} {o : List Nat} {dt : List Blk} {s : Nat → Blk} {C : Nat → Blk} (h : TellsAt n g last o dt s C) {i k : Nat} {b : Blk} (hk : o[i]? = some k) (hb : dt[i]? = some b) :
    TellsAt n g last o dt s (setB C k b) := by
  have hkm := List.mem_of_getElem? hk
  have hk2 := h.1.homes k hkm
  have hf := h.1.few
  refine ⟨h.1.congr ?_ ?_ ?_, fun x h1 h2 => ?_⟩
  · unfold setB; rw [if_neg (by omega)]
  · intro j hj; unfold setB; rw [if_neg (by unfold slotB; omega)]
  · intro j hj; unfold setB; rw [if_neg (by unfold slotB; omega)]
  · rw [← h.2 x h1 h2]
    refine over_congr o dt _ _ x h.1.len (fun hx => ?_)
    have hne : ¬ x = k := fun e => hx (by rw [e]; exact hkm)
    unfold setB; rw [if_neg hne]

/-- A block of another slot is laid. -/
theorem TellsAt.data {n g last : Nat} {o : List Nat} {dt : List Blk} {s : Nat → Blk} {C : Nat → Blk} (h : TellsAt n g last o dt s C) {t i : Nat} (b : Blk) (ht : t < 4) (hne : t ≠ last % 4) (hi : i < 60) :
    TellsAt n g last o dt s (setB C (slotB t + 1 + i) b) := by
  have hf := h.1.few
  refine ⟨h.1.congr ?_ ?_ ?_, fun x h1 h2 => ?_⟩
  · unfold setB; rw [if_neg (by omega)]
  · intro j hj; unfold setB; rw [if_neg (by unfold slotB; omega)]
  · intro j hj; unfold setB; rw [if_neg (by unfold slotB; omega)]
  · rw [← h.2 x h1 h2]
    refine over_congr o dt _ _ x h.1.len (fun hx => ?_)
    unfold setB; rw [if_neg (by unfold slotB; omega)]

/-- Another home is written (by others). -/
theorem TellsAt.home {n g last : Nat} {s : Nat → Blk} {C : Nat → Blk} (h : TellsAt n g last [] [] s C) {k : Nat} (b : Blk) (hk : 245 ≤ k) :
    TellsAt n g last [] [] (setB s k b) (setB C k b) := by
  refine ⟨h.1.congr ?_ ?_ ?_, fun x h1 h2 => ?_⟩
  · unfold setB; rw [if_neg (by omega)]
  · intro j hj; unfold setB; rw [if_neg (by unfold slotB; omega)]
  · intro j hj; simp at hj
  · have := h.2 x h1 h2
    unfold over at this ⊢
    unfold setB
    rw [this]

/-- What the writes of the last commit's homes are. -/
def settleOps : List Nat → List Blk → List DOp
  | k :: o, b :: dt => .wr k b :: settleOps o dt
  | _, _ => []

theorem settleOps_mem : ∀ (o : List Nat) (dt : List Blk) (k : Nat) (b : Blk), DOp.wr k b ∈ settleOps o dt → ∃ i : Nat, o[i]? = some k ∧ dt[i]? = some b
  | [], _, _, _, h => by unfold settleOps at h; cases h
  | x :: o, [], _, _, h => by unfold settleOps at h; cases h
  | x :: o, c :: dt, k, b, h => by
    unfold settleOps at h
    rcases List.mem_cons.1 h with e | h
    · injection e with e1 e2
      exact ⟨0, by simp [e1], by simp [e2]⟩
    · obtain ⟨i, h1, h2⟩ := settleOps_mem o dt k b h
      exact ⟨i + 1, by simpa using h1, by simpa using h2⟩

theorem settleOps_length : ∀ (o : List Nat) (dt : List Blk), dt.length = o.length → (settleOps o dt).length = o.length
  | [], _, _ => by unfold settleOps; rfl
  | x :: o, [], h => by simp at h
  | x :: o, c :: dt, h => by unfold settleOps; simp [settleOps_length o dt (by simpa using h)]

theorem settleOps_fl : ∀ (o : List Nat) (dt : List Blk), DOp.fl ∉ settleOps o dt
  | [], _ => by unfold settleOps; simp
  | x :: o, [] => by unfold settleOps; simp
  | x :: o, c :: dt => by unfold settleOps; simp [settleOps_fl o dt]

theorem settleOps_take : ∀ (o : List Nat) (dt : List Blk) (i k : Nat) (b : Blk), o[i]? = some k → dt[i]? = some b → settleOps (o.take (i + 1)) (dt.take (i + 1)) = settleOps (o.take i) (dt.take i) ++ [.wr k b]
  | [], _, _, _, _, h, _ => by simp at h
  | x :: o, [], _, _, _, _, h => by simp at h
  | x :: o, c :: dt, 0, k, b, h1, h2 => by
    simp at h1 h2; subst h1 h2
    simp [settleOps]
  | x :: o, c :: dt, i + 1, k, b, h1, h2 => by
    simp only [List.getElem?_cons_succ] at h1 h2
    simp only [List.take_succ_cons, settleOps, List.cons_append]
    rw [settleOps_take o dt i k b h1 h2]

theorem settleOps_split : ∀ (o : List Nat) (dt : List Blk) (n : Nat), settleOps (o.take n) (dt.take n) ++ settleOps (o.drop n) (dt.drop n) = settleOps o dt
  | [], _, n => by simp [settleOps]
  | x :: o, [], n => by
    cases n with
    | zero => simp [settleOps]
    | succ n => simp only [List.take_nil, List.drop_nil]; cases (o.drop n) <;> simp [settleOps]
  | x :: o, c :: dt, 0 => by simp [settleOps]
  | x :: o, c :: dt, n + 1 => by
    simp only [List.take_succ_cons, List.drop_succ_cons, settleOps, List.cons_append]
    rw [settleOps_split o dt n]

theorem lays_settle : ∀ (o : List Nat) (dt : List Blk) (C : Nat → Blk), dt.length = o.length → o.Nodup → laysOn (settleOps o dt) C = over o dt C
  | [], _, C, _, _ => by funext k; unfold settleOps over laysOn; rfl
  | x :: o, [], _, h, _ => by simp at h
  | x :: o, c :: dt, C, h, hn => by
    unfold settleOps laysOn
    rw [lays_settle o dt _ (by simpa using h) (List.nodup_cons.1 hn).2]
    funext k
    conv => rhs; unfold over
    split
    · rename_i e; subst e
      rw [over_not o dt _ _ (List.nodup_cons.1 hn).1]
      unfold setB; rw [if_pos rfl]
    · rename_i e
      refine over_congr o dt _ _ k (by simpa using h) (fun _ => ?_)
      unfold setB; rw [if_neg (fun e' => e e'.symm)]

/-- What opening does. -/
def openOps (o : List Nat) (dt : List Blk) : List DOp := settleOps o dt ++ [.fl]

theorem openOps_safe {n g last : Nat} {o : List Nat} {dt : List Blk} {s : Nat → Blk} {D : DSt} (h : Safe D (TellsAt n g last o dt s)) : Safe (runD (openOps o dt) D) (TellsAt n g last o dt s) := by
  refine h.run _ (fun k b hm C hC => ?_)
  rcases List.mem_append.1 hm with hm | hm
  · obtain ⟨i, h1, h2⟩ := settleOps_mem o dt k b hm
    exact hC.lay h1 h2
  · simp at hm

/-- The homes of the last commit are laid. -/
def Settled (o : List Nat) (dt : List Blk) (C : Nat → Blk) : Prop := ∀ (i k : Nat), o[i]? = some k → dt[i]? = some (C k)

theorem over_settled {o : List Nat} {dt : List Blk} {C : Nat → Blk} (hl : dt.length = o.length) (hn : o.Nodup) (h : Settled o dt C) (k : Nat) : over o dt C k = C k := by
  by_cases hk : k ∈ o
  · obtain ⟨i, hi⟩ := List.getElem?_of_mem hk
    exact over_at o dt C i k _ hn hi (h i k hi)
  · exact over_not o dt C k hk

theorem settled_over {o : List Nat} {dt : List Blk} {C : Nat → Blk} (hl : dt.length = o.length) (hn : o.Nodup) : Settled o dt (over o dt C) := fun i k hk => by
  obtain ⟨h1, _⟩ := List.getElem?_eq_some_iff.1 hk
  have hb : dt[i]? = some (dt[i]'(by omega)) := List.getElem?_eq_getElem (by omega)
  rw [over_at o dt C i k _ hn hk hb]
  exact hb

/-- Behind an opening all is settled. -/
theorem openOps_done {n g last : Nat} {o : List Nat} {dt : List Blk} {s : Nat → Blk} {D : DSt} (h : TellsAt n g last o dt s D.last) (hs : Safe D (TellsAt n g last o dt s)) (he : endD (openOps o dt) D = 0) :
    (∀ k, (runD (openOps o dt) D).pend k = []) ∧ TellsAt n g last o dt s (runD (openOps o dt) D).base ∧ Settled o dt (runD (openOps o dt) D).base := by
  obtain ⟨h1, h2⟩ := runD_fl _ _ he
  refine ⟨h1, (openOps_safe hs).base, ?_⟩
  unfold openOps
  rw [h2, lays_settle o dt _ h.1.len h.1.nodup]
  exact settled_over h.1.len h.1.nodup
end Go.Proofs.Ytkanfpmmgaipnaa
