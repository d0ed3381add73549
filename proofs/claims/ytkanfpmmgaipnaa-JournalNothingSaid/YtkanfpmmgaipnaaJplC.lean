/-
  A commit, as plain data: its header, its ops, and why a crash leaves it wholly or not at all.
-/
import Derived.Test.YtkanfpmmgaipnaaJplB
namespace Go.Proofs.Ytkanfpmmgaipnaa
set_option linter.unusedVariables false

/-- The blocks of a header, one behind the other. -/
def headPut : Blk → Nat → List Nat → Blk
  | b, _, [] => b
  | b, i, k :: r => headPut (putLE b (32 + 4 * i) 4 k) (i + 1) r

def headB (g n : Nat) (ks : List Nat) : Blk := headPut (laidB markL [g, n, ks.length]) 0 ks

theorem headPut_snoc : ∀ (l : List Nat) (b : Blk) (i k : Nat), headPut b i (l ++ [k]) = putLE (headPut b i l) (32 + 4 * (i + l.length)) 4 k
  | [], b, i, k => rfl
  | m :: r, b, i, k => by
    have := headPut_snoc r (putLE b (32 + 4 * i) 4 m) (i + 1) k
    rw [show i + (m :: r).length = i + 1 + r.length from by simp; omega]
    exact this

theorem headPut_take (b : Blk) (ks : List Nat) (i k : Nat) (h : ks[i]? = some k) : headPut b 0 (ks.take (i + 1)) = putLE (headPut b 0 (ks.take i)) (32 + 4 * i) 4 k := by
  obtain ⟨h1, h2⟩ := List.getElem?_eq_some_iff.1 h
  rw [List.take_succ_eq_append_getElem h1, h2, headPut_snoc, List.length_take, Nat.min_eq_left (by omega), Nat.zero_add]

theorem headPut_length : ∀ (l : List Nat) (b : Blk) (i : Nat), b.length = 512 → i + l.length ≤ 120 → (headPut b i l).length = 512
  | [], b, i, h, _ => h
  | m :: r, b, i, h, hl => by
    simp at hl
    exact headPut_length r _ _ ((putLE_length _ _ _ _ (by omega)).trans h) (by omega)

/-- What lies ahead of the i-th number stays. -/
theorem headPut_below : ∀ (l : List Nat) (b : Blk) (i x : Nat), b.length = 512 → i + l.length ≤ 120 → x < 32 + 4 * i → (headPut b i l)[x]? = b[x]?
  | [], b, i, x, _, _, _ => rfl
  | m :: r, b, i, x, h, hl, hx => by
    simp at hl
    have h1 := headPut_below r (putLE b (32 + 4 * i) 4 m) (i + 1) x ((putLE_length _ _ _ _ (by omega)).trans h) (by omega) (by omega)
    show (headPut (putLE b (32 + 4 * i) 4 m) (i + 1) r)[x]? = _
    rw [h1, putLE_get _ _ _ _ _ (by omega), if_neg (by omega)]

theorem headPut_at : ∀ (l : List Nat) (b : Blk) (i j k : Nat), b.length = 512 → i + l.length ≤ 120 → l[j]? = some k → k < 4294967296 → getLE (headPut b i l) (32 + 4 * (i + j)) 4 = k
  | [], b, i, j, k, _, _, h, _ => by simp at h
  | m :: r, b, i, 0, k, h, hl, hj, hk => by
    simp at hj; subst hj
    simp at hl
    have hlen : (putLE b (32 + 4 * i) 4 m).length = 512 := (putLE_length _ _ _ _ (by omega)).trans h
    show getLE (headPut (putLE b (32 + 4 * i) 4 m) (i + 1) r) _ 4 = m
    rw [getLE_congr (bs := putLE b (32 + 4 * i) 4 m) (fun x h1 h2 => headPut_below r _ (i + 1) x hlen (by omega) (by omega))]
    exact getLE_putLE_same _ _ _ _ (by omega) (by omega)
  | m :: r, b, i, j + 1, k, h, hl, hj, hk => by
    simp at hl
    have hlen : (putLE b (32 + 4 * i) 4 m).length = 512 := (putLE_length _ _ _ _ (by omega)).trans h
    have := headPut_at r (putLE b (32 + 4 * i) 4 m) (i + 1) j k hlen (by omega) (by simpa using hj) hk
    rwa [show i + 1 + j = i + (j + 1) from by omega] at this

theorem mark3_length (g n m : Nat) : (laidB markL [g, n, m]).length = 512 := laidFrom_length _ _ _ (textBlk_length _ (by decide)) (by simp)

theorem headB_length (g n : Nat) (ks : List Nat) (h : ks.length ≤ 60) : (headB g n ks).length = 512 := headPut_length _ _ _ (mark3_length _ _ _) (by omega)

theorem mark3_below (g n m x : Nat) (hx : x < 8) : (laidB markL [g, n, m])[x]? = (textBlk markL)[x]? := by
  have h0 : (textBlk markL).length = 512 := textBlk_length _ (by decide)
  have h1 : (putLE (textBlk markL) 8 8 g).length = 512 := (putLE_length _ _ _ _ (by omega)).trans h0
  have h2 : (putLE (putLE (textBlk markL) 8 8 g) 16 8 n).length = 512 := (putLE_length _ _ _ _ (by omega)).trans h1
  show (putLE (putLE (putLE (textBlk markL) 8 8 g) 16 8 n) 24 8 m)[x]? = _
  rw [putLE_get _ _ _ _ _ (by omega), if_neg (by omega), putLE_get _ _ _ _ _ (by omega), if_neg (by omega), putLE_get _ _ _ _ _ (by omega), if_neg (by omega)]

theorem mark3_get (g n m : Nat) (hg : g < 18446744073709551616) (hn : n < 18446744073709551616) (hm : m < 18446744073709551616) :
    getLE (laidB markL [g, n, m]) 8 8 = g ∧ getLE (laidB markL [g, n, m]) 16 8 = n ∧ getLE (laidB markL [g, n, m]) 24 8 = m := by
  have h0 : (textBlk markL).length = 512 := textBlk_length _ (by decide)
  have h1 : (putLE (textBlk markL) 8 8 g).length = 512 := (putLE_length _ _ _ _ (by omega)).trans h0
  have h2 : (putLE (putLE (textBlk markL) 8 8 g) 16 8 n).length = 512 := (putLE_length _ _ _ _ (by omega)).trans h1
  show getLE (putLE (putLE (putLE (textBlk markL) 8 8 g) 16 8 n) 24 8 m) 8 8 = g ∧ getLE (putLE (putLE (putLE (textBlk markL) 8 8 g) 16 8 n) 24 8 m) 16 8 = n ∧ getLE (putLE (putLE (putLE (textBlk markL) 8 8 g) 16 8 n) 24 8 m) 24 8 = m
  refine ⟨?_, ?_, getLE_putLE_same _ _ _ _ (by omega) (by omega)⟩
  · rw [getLE_putLE_other _ _ _ _ _ _ (by omega) (by omega), getLE_putLE_other _ _ _ _ _ _ (by omega) (by omega)]
    exact getLE_putLE_same _ _ _ _ (by omega) (by omega)
  · rw [getLE_putLE_other _ _ _ _ _ _ (by omega) (by omega)]
    exact getLE_putLE_same _ _ _ _ (by omega) (by omega)

theorem headB_ok (g n : Nat) (ks : List Nat) (h : ks.length ≤ 60) (hg : g < 18446744073709551616) (hn : n < 18446744073709551616) (hk : ∀ k ∈ ks, k < 4294967296) :
    hdrOk g (headB g n ks) = true ∧ hdrN (headB g n ks) = n ∧ hdrCnt (headB g n ks) = ks.length ∧ hdrL (headB g n ks) = ks := by
  obtain ⟨a1, a2, a3⟩ := mark3_get g n ks.length hg hn (by omega)
  have hl := mark3_length g n ks.length
  have e1 : getLE (headB g n ks) 8 8 = g := (getLE_congr (fun x h1 h2 => headPut_below ks _ 0 x hl (by omega) (by omega))).trans a1
  have e2 : getLE (headB g n ks) 16 8 = n := (getLE_congr (fun x h1 h2 => headPut_below ks _ 0 x hl (by omega) (by omega))).trans a2
  have e3 : getLE (headB g n ks) 24 8 = ks.length := (getLE_congr (fun x h1 h2 => headPut_below ks _ 0 x hl (by omega) (by omega))).trans a3
  have e4 : (headB g n ks).take 8 = markL := by
    have : (headB g n ks).take 8 = (textBlk markL).take 8 := by
      apply List.ext_getElem?
      intro x
      rw [List.getElem?_take, List.getElem?_take]
      split
      · rename_i hx
        exact (headPut_below ks _ 0 x hl (by omega) (by omega)).trans (mark3_below _ _ _ _ hx)
      · rfl
    rw [this]; rfl
  refine ⟨?_, e2, e3, ?_⟩
  · unfold hdrOk; rw [e1, e4]; simp
  · unfold hdrL
    have e3' : hdrCnt (headB g n ks) = ks.length := e3
    rw [e3']
    apply List.ext_getElem?
    intro i
    rw [List.getElem?_map]
    rcases Nat.lt_or_ge i ks.length with hi | hi
    · have hki : ks[i]? = some ks[i] := List.getElem?_eq_getElem hi
      rw [List.getElem?_range hi, hki]
      have := headPut_at ks (laidB markL [g, n, ks.length]) 0 i ks[i] hl (by omega) hki (hk _ (List.getElem_mem hi))
      rw [Nat.zero_add] at this
      show some (getLE (headB g n ks) (32 + 4 * i) 4) = _
      exact congrArg some this
    · rw [List.getElem?_eq_none (by simpa using hi), List.getElem?_eq_none hi]; rfl

/-- The blocks of a slot, laid. -/
def dataFrom (t : Nat) : Nat → List Blk → List DOp
  | _, [] => []
  | i, b :: r => .wr (slotB t + 1 + i) b :: dataFrom t (i + 1) r

theorem dataFrom_mem (t : Nat) : ∀ (l : List Blk) (i k : Nat) (b : Blk), DOp.wr k b ∈ dataFrom t i l → ∃ j, k = slotB t + 1 + (i + j) ∧ l[j]? = some b
  | [], _, _, _, h => by simp [dataFrom] at h
  | c :: r, i, k, b, h => by
    unfold dataFrom at h
    rcases List.mem_cons.1 h with e | h
    · injection e with e1 e2
      exact ⟨0, by omega, by simp [e2]⟩
    · obtain ⟨j, h1, h2⟩ := dataFrom_mem t r (i + 1) k b h
      exact ⟨j + 1, by omega, by simpa using h2⟩

theorem dataFrom_fl (t : Nat) : ∀ (l : List Blk) (i : Nat), DOp.fl ∉ dataFrom t i l
  | [], _ => by simp [dataFrom]
  | c :: r, i => by unfold dataFrom; simp [dataFrom_fl t r]

theorem dataFrom_length (t : Nat) : ∀ (l : List Blk) (i : Nat), (dataFrom t i l).length = l.length
  | [], _ => rfl
  | c :: r, i => by unfold dataFrom; simp [dataFrom_length t r]

theorem dataFrom_snoc (t : Nat) : ∀ (l : List Blk) (i : Nat) (b : Blk), dataFrom t i (l ++ [b]) = dataFrom t i l ++ [.wr (slotB t + 1 + (i + l.length)) b]
  | [], i, b => rfl
  | c :: r, i, b => by
    have := dataFrom_snoc t r (i + 1) b
    simp only [List.cons_append, dataFrom]
    rw [this, List.length_cons, show i + 1 + r.length = i + (r.length + 1) from by omega]

theorem dataFrom_take (t : Nat) (l : List Blk) (i : Nat) (b : Blk) (h : l[i]? = some b) : dataFrom t 0 (l.take (i + 1)) = dataFrom t 0 (l.take i) ++ [.wr (slotB t + 1 + i) b] := by
  obtain ⟨h1, h2⟩ := List.getElem?_eq_some_iff.1 h
  rw [List.take_succ_eq_append_getElem h1, h2, dataFrom_snoc, List.length_take, Nat.min_eq_left (by omega), Nat.zero_add]

theorem lays_data (t : Nat) : ∀ (l : List Blk) (i : Nat) (C : Nat → Blk) (x : Nat), laysOn (dataFrom t i l) C x = if slotB t + 1 + i ≤ x then (l[x - (slotB t + 1 + i)]?).getD (C x) else C x
  | [], i, C, x => by simp [dataFrom, laysOn]
  | b :: r, i, C, x => by
    unfold dataFrom laysOn
    rw [lays_data t r (i + 1) _ x]
    unfold setB
    rcases Nat.lt_trichotomy x (slotB t + 1 + i) with h | h | h
    · rw [if_neg (by omega), if_neg (by omega), if_neg (by omega)]
    · subst h
      rw [if_neg (by omega), if_pos rfl, if_pos (Nat.le_refl _), Nat.sub_self]; rfl
    · rw [if_pos (by omega), if_neg (by omega), if_pos (by omega), show x - (slotB t + 1 + i) = (x - (slotB t + 1 + (i + 1))) + 1 from by omega, List.getElem?_cons_succ]

/-- What a commit does: om, dm are what the last one changed, as far as it is not in its homes yet. -/
def writeOps (g last : Nat) (om : List Nat) (dm : List Blk) (ks : List Nat) (ds : List Blk) : List DOp :=
  (settleOps om dm ++ dataFrom ((last + 1) % 4) 0 ds) ++ [.fl] ++ [.wr (slotB ((last + 1) % 4)) (headB g (last + 1) ks), .fl]

/-- What the journal in memory knows of the one on the device. -/
def Knows (o : List Nat) (dt : List Blk) (C : Nat → Blk) (om : List Nat) (dm : List Blk) : Prop := (om = o ∧ dm = dt) ∨ (om = [] ∧ dm = [] ∧ Settled o dt C)

/-- What may be committed. -/
structure MayL (n : Nat) (ks : List Nat) (ds : List Blk) : Prop where
  home : ∀ k ∈ ks, 245 ≤ k ∧ k < n
  nodup : ks.Nodup
  few : ks.length ≤ 60
  len : ds.length = ks.length

theorem headed {n g last : Nat} {o ks : List Nat} {dt ds : List Blk} {s : Nat → Blk} {C : Nat → Blk} (h : TellsAt n g last o dt s C) (hs : Settled o dt C) (hl : MayL n ks ds) (hd : ∀ (i : Nat) (b : Blk), ds[i]? = some b → C (slotB ((last + 1) % 4) + 1 + i) = b)
    (hn : n ≤ 65536) (hg : g < 18446744073709551616) (hla : last + 1 < 18446744073709551616) :
    TellsAt n g (last + 1) ks ds (over ks ds s) (setB C (slotB ((last + 1) % 4)) (headB g (last + 1) ks)) := by
  obtain ⟨b1, b2, b3, b4⟩ := headB_ok g (last + 1) ks hl.few hg hla (fun k hk => by have := hl.home k hk; omega)
  have hset : ∀ i, i < 4 → i ≠ (last + 1) % 4 → setB C (slotB ((last + 1) % 4)) (headB g (last + 1) ks) (slotB i) = C (slotB i) := fun i hi hne => by
    unfold setB; rw [if_neg (by unfold slotB; omega)]
  have hself : setB C (slotB ((last + 1) % 4)) (headB g (last + 1) ks) (slotB ((last + 1) % 4)) = headB g (last + 1) ks := by unfold setB; rw [if_pos rfl]
  have h0 : setB C (slotB ((last + 1) % 4)) (headB g (last + 1) ks) 0 = C 0 := by unfold setB; rw [if_neg (by unfold slotB; omega)]
  refine ⟨⟨by rw [h0]; exact h.1.magic, by rw [h0]; exact h.1.gen, fun i hi => ?_, .inr ⟨by omega, by rw [hself]; exact b1, by rw [hself]; exact b2, by rw [hself]; exact b4.symm, ?_⟩, hl.home, hl.nodup⟩, fun k h1 h2 => ?_⟩
  · by_cases hi2 : i = (last + 1) % 4
    · subst hi2
      rw [hself]
      exact fun _ => ⟨by rw [b3]; exact hl.few, by rw [b2], by rw [b2]; exact Nat.le_refl _⟩
    · rw [hset i hi hi2]
      exact fun hok => by obtain ⟨c1, c2, c3⟩ := h.1.slots i hi hok; exact ⟨c1, c2, by omega⟩
  · apply List.ext_getElem?
    intro i
    rcases Nat.lt_or_ge i ks.length with hi | hi
    · rw [slotD_get _ _ _ _ hi]
      have hb : ds[i]? = some (ds[i]'(by rw [hl.len]; exact hi)) := List.getElem?_eq_getElem _
      have := hd i _ hb
      unfold setB
      rw [if_neg (by unfold slotB; omega), this]
      exact hb
    · rw [List.getElem?_eq_none (by rw [hl.len]; exact hi), List.getElem?_eq_none (by rw [slotD_length]; exact hi)]
  · refine over_congr ks ds _ _ k hl.len (fun hk => ?_)
    rw [← h.2 k h1 h2, over_settled h.1.len h.1.nodup hs]
    unfold setB; rw [if_neg (by unfold slotB; omega)]

theorem commit_safe {n g last : Nat} {o om ks : List Nat} {dt dm ds : List Blk} {s : Nat → Blk} {D : DSt} (hp : ∀ k, D.pend k = []) (h : TellsAt n g last o dt s D.base) (hk : Knows o dt D.base om dm) (hl : MayL n ks ds)
    (hn : n ≤ 65536) (hg : g < 18446744073709551616) (hla : last + 1 < 18446744073709551616) :
    Safe (runD (writeOps g last om dm ks ds) D) (fun C => TellsAt n g last o dt s C ∨ TellsAt n g (last + 1) ks ds (over ks ds s) C) ∧
    (endD (writeOps g last om dm ks ds) D = 0 → (∀ k, (runD (writeOps g last om dm ks ds) D).pend k = []) ∧ TellsAt n g (last + 1) ks ds (over ks ds s) (runD (writeOps g last om dm ks ds) D).base) := by
  obtain ⟨l1, hl1⟩ : ∃ l1, settleOps om dm ++ dataFrom ((last + 1) % 4) 0 ds = l1 := ⟨_, rfl⟩
  have hS1 : Safe (runD (l1 ++ [.fl]) D) (TellsAt n g last o dt s) := by
    refine (Safe.clean hp h).run _ (fun k b hm C hC => ?_)
    rw [← hl1] at hm
    rcases List.mem_append.1 hm with hm | hm
    · rcases List.mem_append.1 hm with hm | hm
      · obtain ⟨i, h1, h2⟩ := settleOps_mem om dm k b hm
        rcases hk with ⟨rfl, rfl⟩ | ⟨rfl, rfl, _⟩
        · exact hC.lay h1 h2
        · simp at h1
      · obtain ⟨j, h1, h2⟩ := dataFrom_mem _ ds 0 k b hm
        have hj := (List.getElem?_eq_some_iff.1 h2).1
        subst h1
        have := hl.few
        have := hl.len
        exact hC.data b (by omega) (by omega) (by omega)
    · simp at hm
  unfold writeOps
  rw [hl1]
  rcases endD_cases (l1 ++ [.fl]) D with h0 | h9
  · obtain ⟨e1, e2⟩ := runD_append (l1 ++ [.fl]) [.wr (slotB ((last + 1) % 4)) (headB g (last + 1) ks), .fl] D h0
    rw [e1, e2]
    obtain ⟨p1, p2⟩ := runD_fl l1 D h0
    have hT := hS1.base
    have p2 : (runD (l1 ++ [.fl]) D).base = laysOn (dataFrom ((last + 1) % 4) 0 ds) (laysOn (settleOps om dm) D.base) := by rw [p2, last_fun_clean hp, ← laysOn_append, hl1]
    obtain ⟨C1, hC1⟩ : ∃ C1, laysOn (settleOps om dm) D.base = C1 := ⟨_, rfl⟩
    rw [hC1] at p2
    have hset1 : Settled o dt C1 := by
      rcases hk with ⟨rfl, rfl⟩ | ⟨rfl, rfl, hs⟩
      · rw [← hC1, lays_settle _ _ _ h.1.len h.1.nodup]; exact settled_over h.1.len h.1.nodup
      · rw [← hC1]; exact hs
    have hset : Settled o dt (runD (l1 ++ [.fl]) D).base := fun i k hik => by
      have := h.1.homes k (List.mem_of_getElem? hik)
      have h60 := hl.few
      have h61 := hl.len
      rw [p2, lays_data]
      split
      · have hno : ds[k - (slotB ((last + 1) % 4) + 1 + 0)]? = none := List.getElem?_eq_none (by unfold slotB; omega)
        rw [hno]
        exact hset1 i k hik
      · exact hset1 i k hik
    have hdat : ∀ (i : Nat) (b : Blk), ds[i]? = some b → (runD (l1 ++ [.fl]) D).base (slotB ((last + 1) % 4) + 1 + i) = b := fun i b hb => by
      rw [p2, lays_data, if_pos (by omega), show slotB ((last + 1) % 4) + 1 + i - (slotB ((last + 1) % 4) + 1 + 0) = i from by omega, hb]; rfl
    have hH := headed hT hset hl hdat hn hg hla
    obtain ⟨D1, hD1⟩ : ∃ D1, runD (l1 ++ [.fl]) D = D1 := ⟨_, rfl⟩
    rw [hD1] at p1 hT hH ⊢
    clear p2 hset hdat hC1 hset1
    have hbase : Safe D1 (fun C => C = D1.base) := Safe.clean p1 rfl
    by_cases hoff : D1.off = true
    · rw [runD_yes hoff, endD_yes hoff]
      exact ⟨Safe.clean (D := D1.op) p1 (.inl hT), fun h => by cases h⟩
    · rw [runD_no hoff, endD_no hoff]
      have hS2 : Safe (DOp.did (.wr (slotB ((last + 1) % 4)) (headB g (last + 1) ks)) D1) (fun C => TellsAt n g last o dt s C ∨ TellsAt n g (last + 1) ks ds (over ks ds s) C) := fun C hC => by
        obtain ⟨C', h1, h2⟩ := img_put (D := D1.op) hC
        have : C' = D1.base := hbase _ h1
        subst this
        rcases h2 with rfl | rfl
        · exact .inl hT
        · exact .inr hH
      have hlast : (DOp.did (.wr (slotB ((last + 1) % 4)) (headB g (last + 1) ks)) D1).last = setB D1.base (slotB ((last + 1) % 4)) (headB g (last + 1) ks) := by
        show (D1.op.put _ _).last = _
        rw [last_put_fun, last_fun_clean p1]
      obtain ⟨D2, hD2⟩ : ∃ D2, DOp.did (.wr (slotB ((last + 1) % 4)) (headB g (last + 1) ks)) D1 = D2 := ⟨_, rfl⟩
      rw [hD2] at hS2 hlast ⊢
      by_cases hoff2 : D2.off = true
      · rw [runD_yes hoff2, endD_yes hoff2]
        exact ⟨hS2, fun h => by cases h⟩
      · rw [runD_no hoff2, endD_no hoff2]
        refine ⟨hS2.fl, fun _ => ⟨fun k => rfl, ?_⟩⟩
        show TellsAt _ _ _ _ _ _ D2.last
        rw [hlast]; exact hH
  · obtain ⟨e1, e2⟩ := runD_stop (l1 ++ [.fl]) [.wr (slotB ((last + 1) % 4)) (headB g (last + 1) ks), .fl] D h9
    rw [e1, e2]
    exact ⟨hS1.mono (fun C hC => .inl hC), fun h => by cases h⟩
end Go.Proofs.Ytkanfpmmgaipnaa
