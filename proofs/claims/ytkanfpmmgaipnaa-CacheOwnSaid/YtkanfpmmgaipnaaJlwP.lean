/-
  JournalRefuses.
-/
import Derived.Test.YtkanfpmmgaipnaaJlwO
namespace Go.Proofs.Ytkanfpmmgaipnaa
set_option linter.unusedVariables false
open Go.ChangeMaps Go.MapKept Go.RowKit

/-- The homes of the first changes. -/
def refK (m : Nat) : List Int := (List.range m).map fun i : Nat => (245 : Int) + (i : Int)
def refD (m : Nat) : List Blk := (List.range m).map fun _ => blockOf 1
theorem refK_length (m : Nat) : (refK m).length = m := by simp [refK]
theorem refD_length (m : Nat) : (refD m).length = m := by simp [refD]
theorem refK_succ (m : Nat) : refK (m + 1) = refK m ++ [(245 : Int) + (m : Int)] := by unfold refK; rw [List.range_succ, List.map_append]; rfl
theorem refD_succ (m : Nat) : refD (m + 1) = refD m ++ [blockOf 1] := by unfold refD; rw [List.range_succ, List.map_append]; rfl
theorem refK_has (m : Nat) (x : Int) : (refK m).contains x = decide (245 ≤ x ∧ x < 245 + (m : Int)) := by
  rw [Bool.eq_iff_iff, List.contains_iff_mem, decide_eq_true_iff]
  unfold refK
  rw [List.mem_map]
  constructor
  · rintro ⟨i, hi, rfl⟩
    have := List.mem_range.1 hi
    omega
  · intro h
    exact ⟨(x - 245).toNat, List.mem_range.2 (by omega), by omega⟩

/-- May all of it be? -/
def mayB (n : Nat) (ks : List Int) (ds : List Blk) : Bool := mayTo n ks ds ks.length

theorem goodAt_append (n : Nat) (ks ks' : List Int) (ds ds' : List Blk) (hl : ds.length = ks.length) (i : Nat) (hi : i < ks.length) : goodAt n (ks ++ ks') (ds ++ ds') i = goodAt n ks ds i := by
  have e1 : (ks ++ ks').getD i 0 = ks.getD i 0 := by rw [List.getD_eq_getElem?_getD, List.getD_eq_getElem?_getD, List.getElem?_append_left hi]
  have e2 : (ds ++ ds').getD i [] = ds.getD i [] := by rw [List.getD_eq_getElem?_getD, List.getD_eq_getElem?_getD, List.getElem?_append_left (by omega)]
  unfold goodAt
  rw [List.take_append_of_le_length (by omega), e1, e2]

theorem mayTo_append (n : Nat) (ks ks' : List Int) (ds ds' : List Blk) (hl : ds.length = ks.length) : ∀ i, i ≤ ks.length → mayTo n (ks ++ ks') (ds ++ ds') i = mayTo n ks ds i
  | 0, _ => rfl
  | i + 1, h => by
    unfold mayTo
    rw [mayTo_append n ks ks' ds ds' hl i (by omega), goodAt_append n ks ks' ds ds' hl i (by omega)]

theorem mayB_snoc (n : Nat) (ks : List Int) (ds : List Blk) (hl : ds.length = ks.length) (k : Int) (d : Blk) : mayB n (ks ++ [k]) (ds ++ [d]) = (mayB n ks ds && (decide (245 ≤ k ∧ k < (n : Int)) && !ks.contains k && d.length == 512)) := by
  have e1 : (ks ++ [k]).getD ks.length 0 = k := by rw [List.getD_eq_getElem?_getD, List.getElem?_append_right (Nat.le_refl _), Nat.sub_self]; rfl
  have e2 : (ds ++ [d]).getD ks.length [] = d := by rw [List.getD_eq_getElem?_getD, ← hl, List.getElem?_append_right (Nat.le_refl _), Nat.sub_self]; rfl
  unfold mayB
  rw [List.length_append]
  show (mayTo n (ks ++ [k]) (ds ++ [d]) ks.length && goodAt n (ks ++ [k]) (ds ++ [d]) ks.length) = _
  rw [mayTo_append n ks [k] ds [d] hl _ (Nat.le_refl _)]
  unfold goodAt
  rw [e1, e2, List.take_left']
  rfl

theorem mayB_ref : ∀ m, mayB 275 (refK m) (refD m) = decide (m ≤ 30)
  | 0 => rfl
  | m + 1 => by
    rw [refK_succ, refD_succ, mayB_snoc _ _ _ (by rw [refK_length, refD_length]), mayB_ref m, refK_has, blockOf_length]
    rw [Bool.eq_iff_iff]
    simp only [Bool.and_eq_true, decide_eq_true_iff, Bool.not_eq_true', decide_eq_false_iff_not, beq_self_eq_true, and_true]
    omega

theorem mayE_of (ks : List Int) (ds : List Blk) (h : mayB 275 ks ds = true → ks.length ≤ 60) : mayE 275 ks ds = if mayB 275 ks ds then 0 else 1 := by
  unfold mayE
  cases hb : mayB 275 ks ds with
  | true =>
    have h1 : mayTo 275 ks ds ks.length = true := hb
    rw [if_pos h1, if_neg (by have := h hb; omega)]
    rfl
  | false =>
    have h1 : mayTo 275 ks ds ks.length = false := hb
    rw [h1]
    rfl

/-- What holds of the changes, c of them behind the first m. -/
def RefOk (m c : Nat) (ks : List Int) (ds : List Blk) : Prop :=
  ds.length = ks.length ∧ ks.length ≤ 70 + c ∧ (∀ k ∈ ks, okI k) ∧ (∀ d ∈ ds, d.length ≤ 600) ∧ (mayB 275 ks ds = true → ks.length ≤ 30 + c) ∧ (0 < m → ks[0]? = some 245)

theorem RefOk.start (m : Nat) (hm : m ≤ 70) : RefOk m 0 (refK m) (refD m) := by
  refine ⟨by rw [refK_length, refD_length], by rw [refK_length]; omega, fun k hk => ?_, fun d hd => ?_, fun h => ?_, fun h => ?_⟩
  · obtain ⟨i, hi, rfl⟩ := List.mem_map.1 hk
    have := List.mem_range.1 hi
    exact (okI_iff _).2 (by omega)
  · obtain ⟨i, hi, rfl⟩ := List.mem_map.1 hd
    rw [blockOf_length]; omega
  · rw [mayB_ref, decide_eq_true_iff] at h
    rw [refK_length]; omega
  · unfold refK
    rw [List.getElem?_map, List.getElem?_range h]; rfl

theorem RefOk.mono {m c : Nat} {ks : List Int} {ds : List Blk} (h : RefOk m c ks ds) : RefOk m (c + 1) ks ds :=
  ⟨h.1, by have := h.2.1; omega, h.2.2.1, h.2.2.2.1, fun hb => by have := h.2.2.2.2.1 hb; omega, h.2.2.2.2.2⟩

theorem RefOk.snoc {m c : Nat} {ks : List Int} {ds : List Blk} (h : RefOk m c ks ds) (k : Int) (hk : okI k) (d : Blk) (hd : d.length ≤ 600) : RefOk m (c + 1) (ks ++ [k]) (ds ++ [d]) := by
  obtain ⟨h1, h2, h3, h4, h5, h6⟩ := h
  refine ⟨by rw [List.length_append, List.length_append, h1]; rfl, by rw [List.length_append]; show ks.length + 1 ≤ _; omega, fun x hx => ?_, fun x hx => ?_, fun hb => ?_, fun hm => ?_⟩
  · rcases List.mem_append.1 hx with hx | hx
    · exact h3 x hx
    · rw [List.mem_singleton.1 hx]; exact hk
  · rcases List.mem_append.1 hx with hx | hx
    · exact h4 x hx
    · rw [List.mem_singleton.1 hx]; exact hd
  · rw [mayB_snoc _ _ _ h1, Bool.and_eq_true] at hb
    have := h5 hb.1
    rw [List.length_append]; show ks.length + 1 ≤ _; omega
  · rw [List.getElem?_append_left (List.getElem?_eq_some_iff.1 (h6 hm)).1]; exact h6 hm

/-- Bytes of nought. -/
def noughts (y : Nat) : Blk := List.replicate y 0
theorem noughts_length (y : Nat) : (noughts y).length = y := by simp [noughts]

theorem noughts_at (w : World) (y : Nat) : BytesAt (w.alloc (.cells (madeCells #[.int .u8 0] y) 5 (0, 0))) (.slice (some ⟨w.heap.size, 0, none⟩) y y) (noughts y) (Fresh w) := by
  refine ⟨w.heap.size, 0, y, madeCells #[.int .u8 0] y, by rw [noughts_length], by rw [noughts_length]; exact Nat.le_refl _, IsC.of8 (block_alloc_new _ _), fun i hi => ?_, Nat.le_refl _⟩
  rw [noughts_length] at hi
  rw [Nat.zero_add, ← Array.getElem?_toList, madeCells_one, List.getElem?_replicate, if_pos hi]
  unfold noughts
  rw [List.getD_eq_getElem?_getD, List.getElem?_replicate, if_pos hi]
  rfl

/-- A row of bytes of nought, made. -/
theorem run_makeU8 (y : Nat) (hy : y ≤ 600) (W : World) : (Instr.makeSlice 31 (.int .i64 (y : Int)) (.int .i64 (y : Int))).run Try.prog W = .ok (.slice (some ⟨W.heap.size, 0, none⟩) y y) (W.alloc (.cells (madeCells #[.int .u8 0] y) 5 (0, 0))) := by
  obtain ⟨i0, hi0, hz0, hz1, hz2⟩ := info_parts infoU8
  have := run_make (P := Try.prog) W 31 5 i0 _ Try.underlying31 hi0 hz0 .i64 .i64 y y (by omega) (by omega) (by rw [hz2]; omega) (by omega)
  rw [hz1, Nat.mul_one, Int.toNat_natCast] at this
  exact this

set_option maxHeartbeats 1000000 in
set_option maxRecDepth 100000 in
theorem journalRefuses_any (w : World) (n blk bytes : Int) (tw : Bool) (k : Int) (hn : okI n) (hblk : okI blk) (hby : okI bytes) (hk : okI k) :
    Calls Try.prog 11 #[.int .i64 n, .int .i64 blk, .int .i64 bytes, .bool tw, .int .i64 k] w fun e w' => e = .returned (.bool true) ∧ Frm NoB w w' := by
  obtain ⟨w1, hw1⟩ : ∃ w1, w = w1 := ⟨_, rfl⟩
  rw [hw1]
  clear hw1
  have HOKB := Lib.hid hblk
  clear hn hblk hby hk
  go_enter Try.func11, Try.ntmps11
  by_cases hg : n < 0 ∨ 70 < n ∨ bytes < 0 ∨ 600 < bytes
  · have hF : Hid (St w1 w1 []) := Lib.hid (St.start w1)
    by_cases h0 : n < 0
    · clear hg
      go_wp2_with fail
      refine (awake4_any hF.out).mono ?_
      rintro e w5 ⟨rfl, h5⟩
      have HF5 := Lib.hid h5.base
      clear h5
      go_wp2
      go_ret
      exact ⟨rfl, HF5.out⟩
    by_cases h1 : 70 < n
    · clear hg
      go_wp2_with fail
      refine (awake4_any hF.out).mono ?_
      rintro e w5 ⟨rfl, h5⟩
      have HF5 := Lib.hid h5.base
      clear h5
      go_wp2
      go_ret
      exact ⟨rfl, HF5.out⟩
    by_cases h2 : bytes < 0
    · clear hg
      go_wp2_with fail
      refine (awake4_any hF.out).mono ?_
      rintro e w5 ⟨rfl, h5⟩
      have HF5 := Lib.hid h5.base
      clear h5
      go_wp2
      go_ret
      exact ⟨rfl, HF5.out⟩
    have h3 : 600 < bytes := by omega
    clear hg
    go_wp2_with fail
    refine (awake4_any hF.out).mono ?_
    rintro e w5 ⟨rfl, h5⟩
    have HF5 := Lib.hid h5.base
    clear h5
    go_wp2
    go_ret
    exact ⟨rfl, HF5.out⟩
  have h0 : ¬ n < 0 := fun h => hg (.inl h)
  have h1 : ¬ 70 < n := fun h => hg (.inr (.inl h))
  have h2 : ¬ bytes < 0 := fun h => hg (.inr (.inr (.inl h)))
  have h3 : ¬ 600 < bytes := fun h => hg (.inr (.inr (.inr h)))
  clear hg
  obtain ⟨m, rfl⟩ : ∃ m : Nat, n = m := ⟨n.toNat, by omega⟩
  obtain ⟨y, rfl⟩ : ∃ y : Nat, bytes = y := ⟨bytes.toNat, by omega⟩
  have hm0 : (0 : Int) ≤ (m : Int) := Int.natCast_nonneg _
  have hm1 : (m : Int) ≤ 70 := by omega
  have hy0 : (0 : Int) ≤ (y : Int) := Int.natCast_nonneg _
  have hy1 : (y : Int) ≤ 600 := by omega
  have HF := Lib.hid (S_fresh (St.start w1))
  go_wp2_with fail
  refine HF.out.mono ?_
  clear HF h0 h1 h2 h3
  rintro e w2 ⟨H, jh, J, D, rfl, h1, hl1, hlim1, hops1⟩
  have HR1 := Lib.hid (LRel.start hl1 hlim1 hops1)
  have HDN := Lib.hid hl1.dn
  have H3 := Lib.hid (St.noChgs (show St w1 w2 (jrn H jh J :: dev H D :: []) from h1))
  clear h1 hl1 hlim1 hops1
  go_wp2_with fail
  go_loopw [14, 15] (fun v t wr => ∃ (i : Nat) (vs : List Value), i ≤ m ∧ t = .int .i64 i ∧ St w1 wr (chgs v (refK i) vs (refD i) :: jrn H jh J :: dev H D :: [])) (fun _ t _ => m - (intOf t).toNat)
  case atStart => exact ⟨0, [], Nat.zero_le _, rfl, H3.out⟩
  case round =>
    clear H3
    obtain ⟨i, vs, hi, rfl, hst⟩ := hrel
    have HST := Lib.hid hst
    clear hst
    by_cases hlt : i < m
    · have hi0 : (0 : Int) ≤ (i : Int) := Int.natCast_nonneg _
      have hi1 : (i : Int) < (m : Int) := by omega
      go_wp2_with fail
      refine (S_Block HST.out 1).mono ?_
      rintro e w4 ⟨u, rfl, h4⟩
      obtain ⟨ub, uo, uc, rfl, _⟩ := (h4.get (i := 0) rfl).cells
      rw [blockOf_length] at h4 ⊢
      have H4 := Lib.hid h4
      clear h4 HST
      have HLK : Hid ((refK i).length = i ∧ i ≤ 70) := Lib.hid ⟨refK_length i, by omega⟩
      have HO := Lib.hid (World.ownsRow.alloc (H4.out.get (i := 1) rfl).1 (.cells #[.int .i64 (245 + (i : Int)), .slice (some ⟨ub, uo, none⟩) 512 uc] 64 (0, 0)))
      have HNW : Hid (∀ (j : Nat) x, ([.int .i64 (245 + (i : Int)), .slice (some ⟨ub, uo, none⟩) 512 uc] : List Value)[j]? = some x → (w4.alloc (.cells #[.int .i64 (245 + (i : Int)), .slice (some ⟨ub, uo, none⟩) 512 uc] 64 (0, 0))).cell? ((⟨w4.heap.size, 0, none⟩ : Addr).add j) = some x) := Lib.hid (new_two w4 _ _ _)
      obtain ⟨ii, hi0i, hz0, hz1, hz2⟩ := info_parts infoChg
      go_wp2_with (at_builtin; refine wpList_append_own_at _ rfl _ _ 62 rfl 0 64 ii (.agg #[.int .i64 0, .slice none 0 0]) 2 32 Try.underlying62 hi0i hz0 hz1 hz2 rfl (by decide) _ _ _ rfl HO.out ⟨w4.heap.size, 0, none⟩ 1 1 [.int .i64 (245 + (i : Int)), .slice (some ⟨ub, uo, none⟩) 512 uc] rfl rfl HNW.out ?q1z0 ?q1z1 ?q1z2 ?q1z3 ?_)
      case q1z0 => first | exact ⟨rfl, rfl⟩ | (intro x hx; simp at hx; rcases hx with rfl | rfl <;> rfl)
      case q1z1 => have := HLK.out; simp only [maxLen]; omega
      case q1z2 => have := HLK.out; omega
      try case q1z3 => omega
      intro v' w5 ho hg2 hnn hat
      have h7 := H4.out.chgsAppend 1 0 rfl rfl (245 + (i : Int)) (.cells #[.int .i64 (245 + (i : Int)), .slice (some ⟨ub, uo, none⟩) 512 uc] 64 (0, 0)) rfl ho hg2 (by first | exact hat | (simp only [size_alloc] at hat ⊢; exact hat))
      have H7 := Lib.hid (h7.drop 1)
      clear ho hg2 hnn hat h7 HO HNW H4
      rw [← refK_succ, ← refD_succ] at H7
      go_wp2
      first | exact ⟨⟨i + 1, _, hlt, by go_num, H7.out⟩, by simp [intOf]; omega⟩ | (go_roundw; case rel => first | exact ⟨i + 1, _, hlt, by go_num, H7.out⟩ | ((repeat apply Exists.intro); exact ⟨⟨i + 1, _, hlt, by go_num, H7.out⟩, rfl⟩); case measure => simp [intOf]; omega)
    · have hi1 : ¬ (i : Int) < (m : Int) := by omega
      obtain rfl : i = m := by omega
      have HRF := Lib.hid (RefOk.start i (by omega))
      have HMB := Lib.hid (mayB_ref i)
      go_upto_if 66 with (fail)
      go_cut [16] from 65 (fun t16 wx => t16 = .int .i64 (if 60 < i then 2 else 0) ∧ St w1 wx (chgs u14 (refK i) vs (refD i) :: jrn H jh J :: dev H D :: []))
      case first =>
        by_cases h60 : 60 < i
        · have h61 : (60 : Int) < (i : Int) := by omega
          have HV := Lib.hid h60
          clear h60
          go_wp2_with fail
          go_meet
          first | exact ⟨by rw [if_pos HV.out], HST.out⟩ | (case rel => exact ⟨by rw [if_pos HV.out], HST.out⟩)
        · have h61 : ¬ (60 : Int) < (i : Int) := by omega
          have HV := Lib.hid h60
          clear h60
          go_wp2_with fail
          go_meet
          first | exact ⟨by rw [if_neg HV.out], HST.out⟩ | (case rel => exact ⟨by rw [if_neg HV.out], HST.out⟩)
      case rest =>
      obtain ⟨rfl, hst⟩ := hcut
      have HST := Lib.hid hst
      clear hst
      go_upto_if 68 with (fail)
      go_cut [16] from 67 (fun t16 wx => t16 = .int .i64 (if mayB 275 (refK i) (refD i) then 0 else 1) ∧ St w1 wx (chgs u14 (refK i) vs (refD i) :: jrn H jh J :: dev H D :: []))
      case first =>
        by_cases h30 : 30 < i
        · have h31 : (30 : Int) < (i : Int) := by omega
          have HV : Hid (mayB 275 (refK i) (refD i) = false) := Lib.hid (by rw [HMB.out, decide_eq_false (show ¬ i ≤ 30 by omega)])
          clear h30
          go_wp2_with fail
          go_meet
          first | exact ⟨by rw [HV.out]; rfl, HST.out⟩ | (case rel => exact ⟨by rw [HV.out]; rfl, HST.out⟩)
        · have h31 : ¬ (30 : Int) < (i : Int) := by omega
          have HV : Hid (mayB 275 (refK i) (refD i) = true) := Lib.hid (by rw [HMB.out, decide_eq_true (show i ≤ 30 by omega)])
          have h60 : ¬ 60 < i := by omega
          rw [if_neg h60]
          clear h30 h60
          go_wp2_with fail
          go_meet
          first | exact ⟨by rw [HV.out]; rfl, HST.out⟩ | (case rel => exact ⟨by rw [HV.out]; rfl, HST.out⟩)
      case rest =>
      obtain ⟨rfl, hst⟩ := hcut
      have HST := Lib.hid hst
      clear hst
      obtain ⟨x0, hx0⟩ : ∃ x0, (if mayB 275 (refK i) (refD i) then (0 : Int) else 1) = x0 := ⟨_, rfl⟩
      rw [hx0]
      have HX0 := Lib.hid hx0
      clear hx0
      go_upto_if 70 with (fail)
      go_cut [14, 16] from 69 (fun t14 t16 wx => ∃ ks vs ds, Hid (RefOk i 1 ks ds) ∧ t16 = .int .i64 (if mayB 275 ks ds then 0 else 1) ∧ St w1 wx (chgs t14 ks vs ds :: jrn H jh J :: dev H D :: []))
      case first =>
        by_cases hk1 : (k == 1) = true
        · have hmk := run_makeU8 y (by omega)
          have H4 := Lib.hid ((show St w1 wc (chgs u14 (refK i) vs (refD i) :: jrn H jh J :: dev H D :: []) from HST.out).mkByt ((Frm.refl NoB wc).alloc (.cells (madeCells #[.int .u8 0] y) 5 (0, 0))) (noughts_at wc y))
          have HLK : Hid ((refK i).length = i ∧ i ≤ 70) := Lib.hid ⟨refK_length i, by omega⟩
          have HRF2 := Lib.hid (HRF.out.snoc blk HOKB.out (noughts y) (by rw [noughts_length]; omega))
          have HMB2 := Lib.hid (mayB_snoc 275 (refK i) (refD i) HRF.out.1 blk (noughts y))
          rw [noughts_length, refK_has] at HMB2
          have HO := Lib.hid (World.ownsRow.alloc (H4.out.get (i := 1) rfl).1 (.cells #[.int .i64 (blk), .slice (some ⟨wc.heap.size, 0, none⟩) y y] 64 (0, 0)))
          have HNW : Hid (∀ (j : Nat) x, ([.int .i64 (blk), .slice (some ⟨wc.heap.size, 0, none⟩) y y] : List Value)[j]? = some x → ((wc.alloc (.cells (madeCells #[.int .u8 0] y) 5 (0, 0))).alloc (.cells #[.int .i64 (blk), .slice (some ⟨wc.heap.size, 0, none⟩) y y] 64 (0, 0))).cell? ((⟨wc.heap.size + 1, 0, none⟩ : Addr).add j) = some x) := Lib.hid (by have := new_two (wc.alloc (.cells (madeCells #[.int .u8 0] y) 5 (0, 0))) (.int .i64 (blk)) (.slice (some ⟨wc.heap.size, 0, none⟩) y y) 64; rw [size_alloc] at this; exact this)
          obtain ⟨ii, hi0i, hz0, hz1, hz2⟩ := info_parts infoChg
          go_wp2_with (at_builtin; refine wpList_append_own_at _ rfl _ _ 62 rfl 0 64 ii (.agg #[.int .i64 0, .slice none 0 0]) 2 32 Try.underlying62 hi0i hz0 hz1 hz2 rfl (by decide) _ _ _ rfl HO.out ⟨wc.heap.size + 1, 0, none⟩ 1 1 [.int .i64 (blk), .slice (some ⟨wc.heap.size, 0, none⟩) y y] rfl rfl HNW.out ?q2z0 ?q2z1 ?q2z2 ?q2z3 ?_)
          case q2z0 => first | exact ⟨rfl, rfl⟩ | (intro x hx; simp at hx; rcases hx with rfl | rfl <;> rfl)
          case q2z1 => have := HLK.out; simp only [maxLen]; omega
          case q2z2 => have := HLK.out; omega
          try case q2z3 => omega
          intro v' w5 ho hg2 hnn hat
          have h7 := H4.out.chgsAppend 1 0 rfl rfl (blk) (.cells #[.int .i64 (blk), .slice (some ⟨wc.heap.size, 0, none⟩) y y] 64 (0, 0)) rfl ho hg2 (by first | exact hat | (simp only [size_alloc] at hat ⊢; exact hat))
          have H7 := Lib.hid (h7.drop 1)
          clear ho hg2 hnn hat h7 HO HNW H4
          clear hmk
          have HBAD : Hid ((blk < 245 ∨ 275 ≤ blk ∨ (y : Int) ≠ 512 ∨ blk < 245 + (i : Int)) → mayB 275 (refK i ++ [blk]) (refD i ++ [noughts y]) = false) := Lib.hid fun h => by
            rw [HMB2.out, Bool.eq_false_iff]
            simp only [ne_eq, Bool.and_eq_true, decide_eq_true_iff, Bool.not_eq_true', decide_eq_false_iff_not, beq_iff_eq]
            omega
          have HGOOD : Hid (¬ blk < 245 → ¬ 275 ≤ blk → (y : Int) = 512 → ¬ blk < 245 + (i : Int) → mayB 275 (refK i ++ [blk]) (refD i ++ [noughts y]) = mayB 275 (refK i) (refD i)) := Lib.hid fun a b c d => by
            rw [HMB2.out, Bool.eq_iff_iff]
            simp only [Bool.and_eq_true, decide_eq_true_iff, Bool.not_eq_true', decide_eq_false_iff_not, beq_iff_eq]
            constructor
            · exact fun h => h.1
            · exact fun h => ⟨h, by omega⟩
          by_cases hb1 : blk < 245
          · have HV := Lib.hid (HBAD.out (.inl hb1))
            go_wp2_with fail
            go_meet
            first | exact ⟨_, _, _, HRF2, by rw [HV.out]; rfl, H7.out⟩ | (case rel => exact ⟨_, _, _, HRF2, by rw [HV.out]; rfl, H7.out⟩)
          by_cases hb2 : 275 ≤ blk
          · have HV := Lib.hid (HBAD.out (.inr (.inl hb2)))
            go_wp2_with fail
            go_meet
            first | exact ⟨_, _, _, HRF2, by rw [HV.out]; rfl, H7.out⟩ | (case rel => exact ⟨_, _, _, HRF2, by rw [HV.out]; rfl, H7.out⟩)
          by_cases hb3 : ((y : Int) != 512) = true
          · have HV := Lib.hid (HBAD.out (.inr (.inr (.inl (by rw [bne_iff_ne] at hb3; exact hb3)))))
            go_wp2_with fail
            go_meet
            first | exact ⟨_, _, _, HRF2, by rw [HV.out]; rfl, H7.out⟩ | (case rel => exact ⟨_, _, _, HRF2, by rw [HV.out]; rfl, H7.out⟩)
          have hb3 : ((y : Int) != 512) = false := by simpa using hb3
          by_cases hb4 : blk < 245 + (i : Int)
          · have HV := Lib.hid (HBAD.out (.inr (.inr (.inr hb4))))
            go_wp2_with fail
            go_meet
            first | exact ⟨_, _, _, HRF2, by rw [HV.out]; rfl, H7.out⟩ | (case rel => exact ⟨_, _, _, HRF2, by rw [HV.out]; rfl, H7.out⟩)
          have HV := Lib.hid (HGOOD.out hb1 hb2 (by rw [bne_eq_false_iff_eq] at hb3; exact hb3) hb4)
          go_wp2_with fail
          go_meet
          first | exact ⟨_, _, _, HRF2, by rw [HV.out, HX0.out], H7.out⟩ | (case rel => exact ⟨_, _, _, HRF2, by rw [HV.out, HX0.out], H7.out⟩)
        · have hk1 : (k == 1) = false := by simpa using hk1
          go_wp2_with fail
          go_meet
          first | exact ⟨_, _, _, Lib.hid HRF.out.mono, by rw [HX0.out], HST.out⟩ | (case rel => exact ⟨_, _, _, Lib.hid HRF.out.mono, by rw [HX0.out], HST.out⟩)
      case rest =>
      obtain ⟨ks, vs2, ds, HRF2, rfl, hst⟩ := hcut
      have HS2 := Lib.hid hst
      clear hst HRF HMB HX0 HST
      obtain ⟨x1, hx1⟩ : ∃ x1, (if mayB 275 ks ds then (0 : Int) else 1) = x1 := ⟨_, rfl⟩
      rw [hx1]
      have HX1 := Lib.hid hx1
      clear hx1
      obtain ⟨bb, hbb⟩ : ∃ bb, (tw && decide ((0 : Int) < (i : Int))) = bb := ⟨_, rfl⟩
      have HBB := Lib.hid hbb
      clear hbb
      go_upto_region 20 with (fail)
      go_cut [98] from 94 (fun t98 wx => t98 = .bool bb ∧ St w1 wx (chgs u14 ks vs2 ds :: jrn H jh J :: dev H D :: []))
      case first =>
        cases tw with
        | true =>
          go_wp2_with fail
          go_meet
          first | exact ⟨by rw [← HBB.out]; simp, HS2.out⟩ | (case rel => exact ⟨by rw [← HBB.out]; simp, HS2.out⟩)
        | false =>
          go_wp2_with fail
          go_meet
          first | exact ⟨by rw [← HBB.out]; simp, HS2.out⟩ | (case rel => exact ⟨by rw [← HBB.out]; simp, HS2.out⟩)
      case rest =>
      obtain ⟨rfl, hst⟩ := hcut
      have HS2 := Lib.hid hst
      clear hst
      go_upto_if 98 with (fail)
      go_cut [14, 16] from 94 (fun t14 t16 wx => ∃ ks vs ds, Hid (RefOk i 2 ks ds) ∧ t16 = .int .i64 (if mayB 275 ks ds then 0 else 1) ∧ St w1 wx (chgs t14 ks vs ds :: jrn H jh J :: dev H D :: []))
      case first =>
        cases bb with
        | true =>
            have hi3 : (0 : Int) < (i : Int) := by
              have := HBB.out
              rw [Bool.and_eq_true, decide_eq_true_iff] at this
              exact this.2
            obtain ⟨va, vc, rfl⟩ := HS2.out.chgsLen (i := 0) rfl
            have hks0 := HRF2.out.2.2.2.2.2 (by omega)
            have hkl := (List.getElem?_eq_some_iff.1 hks0).1
            have hkl2 : (0 : Int) < (ks.length : Int) := by omega
            obtain ⟨gb, u, d, rfl, hgb, hu, hd, c1, c2, hbu⟩ := HS2.out.chgsCell (i := 0) rfl hks0
            obtain ⟨ub, uo, uc, rfl, huc, _, _⟩ := hbu.cells
            have c1 : wc.cell? ⟨gb, 0, none⟩ = some (.int .i64 245) := c1
            have c2 : wc.cell? ⟨gb, 1, none⟩ = some (.slice (some ⟨ub, uo, none⟩) d.length uc) := c2
            have HDL := Lib.hid (HRF2.out.2.2.2.1 d (List.mem_of_getElem? hd))
            have H4 := Lib.hid ((show St w1 wc (chgs (.slice (some ⟨gb, 0, none⟩) ks.length vc) ks vs2 ds :: jrn H jh J :: dev H D :: []) from HS2.out).make (Frm.refl NoB wc) (byt (.slice (some ⟨ub, uo, none⟩) d.length uc) d) hbu (fun _ h => h.elim))
            have HLK := Lib.hid HRF2.out.2.1
            have HRF3 := Lib.hid (HRF2.out.snoc 245 ((okI_iff _).2 (by omega)) d HDL.out)
            have HV : Hid (mayB 275 (ks ++ [245]) (ds ++ [d]) = false) := Lib.hid (by
              rw [mayB_snoc _ _ _ HRF2.out.1, show ks.contains 245 = true from List.contains_iff_mem.2 (List.mem_of_getElem? hks0)]
              simp)
            clear hks0 hu hd hbu hgb
            have HO := Lib.hid (World.ownsRow.alloc (H4.out.get (i := 1) rfl).1 (.cells #[.int .i64 (245), .slice (some ⟨ub, uo, none⟩) d.length uc] 64 (0, 0)))
            have HNW : Hid (∀ (j : Nat) x, ([.int .i64 (245), .slice (some ⟨ub, uo, none⟩) d.length uc] : List Value)[j]? = some x → (wc.alloc (.cells #[.int .i64 (245), .slice (some ⟨ub, uo, none⟩) d.length uc] 64 (0, 0))).cell? ((⟨wc.heap.size, 0, none⟩ : Addr).add j) = some x) := Lib.hid (new_two wc _ _ _)
            obtain ⟨ii, hi0i, hz0, hz1, hz2⟩ := info_parts infoChg
            go_wp2_with (at_builtin; refine wpList_append_own_at _ rfl _ _ 62 rfl 0 64 ii (.agg #[.int .i64 0, .slice none 0 0]) 2 32 Try.underlying62 hi0i hz0 hz1 hz2 rfl (by decide) _ _ _ rfl HO.out ⟨wc.heap.size, 0, none⟩ 1 1 [.int .i64 (245), .slice (some ⟨ub, uo, none⟩) d.length uc] rfl rfl HNW.out ?q3z0 ?q3z1 ?q3z2 ?q3z3 ?_)
            case q3z0 => first | exact ⟨rfl, rfl⟩ | (intro x hx; simp at hx; rcases hx with rfl | rfl <;> rfl)
            case q3z1 => have := HLK.out; simp only [maxLen]; omega
            case q3z2 => have := HLK.out; omega
            try case q3z3 => omega
            intro v' w5 ho hg2 hnn hat
            have h7 := H4.out.chgsAppend 1 0 rfl rfl (245) (.cells #[.int .i64 (245), .slice (some ⟨ub, uo, none⟩) d.length uc] 64 (0, 0)) rfl ho hg2 (by first | exact hat | (simp only [size_alloc] at hat ⊢; exact hat))
            have H7 := Lib.hid (h7.drop 1)
            clear ho hg2 hnn hat h7 HO HNW H4
            go_wp2_with fail
            go_meet
            first | exact ⟨_, _, _, HRF3, by rw [HV.out]; rfl, H7.out⟩ | (case rel => exact ⟨_, _, _, HRF3, by rw [HV.out]; rfl, H7.out⟩)
        | false =>
          go_wp2_with fail
          go_meet
          first | exact ⟨_, _, _, Lib.hid HRF2.out.mono, by rw [HX1.out], HS2.out⟩ | (case rel => exact ⟨_, _, _, Lib.hid HRF2.out.mono, by rw [HX1.out], HS2.out⟩)
      case rest =>
      clear HRF2 HX1 HS2
      obtain ⟨ks, vs3, ds, HRF3, rfl, hst⟩ := hcut
      have HS3 := Lib.hid hst.swap
      clear hst
      have HME := Lib.hid (mayE_of ks ds (fun h => by have := HRF3.out.2.2.2.2.1 h; omega))
      have HLD : Hid (D.ops ≤ 100) := Lib.hid HR1.out.opsLe
      cases hb : mayB 275 ks ds with
      | true =>
        rw [hb, if_pos rfl] at HME
        have HCM : Hid (Calls Try.prog 47 #[.pointer (some ⟨jh.jb, 0, none⟩), u14] wc fun e w' => ∃ jh' J' D', jh'.jb = jh.jb ∧ e = .returned (.int .i64 0) ∧ St w1 w' (jrn H jh' J' :: chgs u14 ks vs3 ds :: dev H D' :: []) ∧ D'.n = 275) := Lib.hid (by
          obtain ⟨ks', rfl, hml, h512⟩ := may_of 275 ks ds HRF3.out.1 HME.out
          obtain ⟨s, hl1, hlim, hops, hto⟩ := HR1.out
          refine (S_CommitL HS3.out 1 0 rfl rfl hl1 hml h512 (by omega) (by omega) (by omega) (by omega) (by omega) hlim (by omega)).mono ?_
          rintro e w' ⟨jh', J', D', hjb, he, hst, hl2, _, _⟩
          exact ⟨jh', J', D', hjb, he, hst, hl2.dn⟩)
        clear hb HME HR1 HS3
        go_wp2_with fail
        refine HCM.out.mono ?_
        clear HCM
        rintro e w4 ⟨jh4, J4, D4, hjb, rfl, h4, HN4⟩
        have H4 := Lib.hid h4
        have HJ4 : Hid (jh4.jb = jh.jb) := Lib.hid hjb
        clear h4 hjb
        have HN := Lib.hid HN4
        clear HN4
        have HA := Lib.hid (S_New H4.out 245 (by omega) (by omega))
        clear H4
        go_wp2_with fail
        refine HA.out.mono ?_
        clear HA
        rintro e w5 ⟨HT, rfl, h5⟩
        have HB := Lib.hid (S_New h5 275 (by omega) (by omega))
        clear h5
        go_wp2_with fail
        refine HB.out.mono ?_
        clear HB
        rintro e w6 ⟨HE, rfl, h6⟩
        have H6 := Lib.hid (show St w1 w6 (dev HE (DSt.new 275) :: dev HT (DSt.new 245) :: jrn H jh4 J4 :: dev H D4 :: []) from h6.sub (List.Sublist.cons_cons _ (List.Sublist.cons_cons _ (List.Sublist.cons_cons _ (List.Sublist.cons _ (List.Sublist.refl _))))))
        clear h6
        go_wp2_with fail
        refine (S_OpenTiny H6.out 1 rfl (by decide)).mono ?_
        rintro e w7 ⟨rfl, rfl⟩
        go_wp2_with fail
        refine (S_OpenBad H6.out 0 rfl (by decide) (by decide) (by rfl)).mono ?_
        rintro e w7 ⟨rfl, h7⟩
        have H7 := Lib.hid (show St w1 w7 (jrn H jh4 J4 :: dev H D4 :: dev HE (DSt.new 275) :: dev HT (DSt.new 245) :: []) from (show St w1 w7 (dev HE (DSt.new 275) :: dev HT (DSt.new 245) :: jrn H jh4 J4 :: dev H D4 :: []) from h7).perm (List.perm_append_comm (l₁ := [_, _]) (l₂ := [_, _])))
        clear h7 H6
        have HJA := Lib.hid (S_JRFar H7.out 0 rfl 244 (.inl (by omega)))
        have HJC := Lib.hid (S_JRFar H7.out 0 rfl 275 (.inr (by rw [HN.out]; omega)))
        have HFT := Lib.hid (S_FormatTiny H7.out 3 rfl (by decide))
        rw [HJ4.out] at HJA HJC
        go_wp2_with fail
        refine HJA.out.mono ?_
        rintro e w8 ⟨rfl, rfl⟩
        go_wp2_with fail
        refine HJC.out.mono ?_
        rintro e w8 ⟨rfl, rfl⟩
        clear HJA HJC H7
        go_wp2_with fail
        refine HFT.out.mono ?_
        clear HFT
        rintro e w8 ⟨rfl, h8⟩
        have H8 := Lib.hid h8
        clear h8
        have HBK := Lib.hid (S_Blocks H8.out 1 rfl)
        rw [HN.out] at HBK
        go_wp2_with fail
        refine HBK.out.mono ?_
        rintro e w9 ⟨rfl, rfl⟩
        clear HBK
        have hF := Lib.hid H8.out
        go_wp2_with fail
        refine (awake4_any hF.out).mono ?_
        rintro e w5 ⟨rfl, h5⟩
        have HF5 := Lib.hid h5.base
        clear h5
        go_wp2
        go_ret
        exact ⟨rfl, HF5.out⟩
      | false =>
        rw [hb, if_neg (by simp)] at HME
        have HCM := Lib.hid (S_CommitNo HS3.out 1 0 rfl rfl HRF3.out.2.2.1 (by have := HRF3.out.2.1; omega) (fun d hd => by have := HRF3.out.2.2.2.1 d hd; omega) (by rw [HDN.out, HME.out]; decide))
        rw [HDN.out, HME.out] at HCM
        clear hb HME
        go_wp2_with fail
        refine HCM.out.mono ?_
        clear HCM HS3
        rintro e w4 ⟨rfl, h4⟩
        have H1 := Lib.hid h4
        clear h4
        go_upto_region 28 with (fail)
        have H2 := Lib.hid (H1.out.newArr #[.int .i64 0, .int .i64 0, .int .i64 0, .int .i64 0, .int .i64 0, .int .i64 0, .int .i64 0, .int .i64 0, .int .i64 0, .int .i64 0, .int .i64 0, .int .i64 0, .int .i64 0, .int .i64 0, .int .i64 0, .int .i64 0, .int .i64 0, .int .i64 0, .int .i64 0, .int .i64 0, .int .i64 0, .int .i64 0, .int .i64 0, .int .i64 0, .int .i64 0, .int .i64 0, .int .i64 0, .int .i64 0, .int .i64 0, .int .i64 0] 67 neSt)
        obtain ⟨w3, hw3⟩ : ∃ w3, w3 = w4.alloc (.cells #[.int .i64 0, .int .i64 0, .int .i64 0, .int .i64 0, .int .i64 0, .int .i64 0, .int .i64 0, .int .i64 0, .int .i64 0, .int .i64 0, .int .i64 0, .int .i64 0, .int .i64 0, .int .i64 0, .int .i64 0, .int .i64 0, .int .i64 0, .int .i64 0, .int .i64 0, .int .i64 0, .int .i64 0, .int .i64 0, .int .i64 0, .int .i64 0, .int .i64 0, .int .i64 0, .int .i64 0, .int .i64 0, .int .i64 0, .int .i64 0] 67 (0, 0)) := ⟨_, rfl⟩
        rw [← hw3] at H2 ⊢
        rw [show (#[.int .i64 0, .int .i64 0, .int .i64 0, .int .i64 0, .int .i64 0, .int .i64 0, .int .i64 0, .int .i64 0, .int .i64 0, .int .i64 0, .int .i64 0, .int .i64 0, .int .i64 0, .int .i64 0, .int .i64 0, .int .i64 0, .int .i64 0, .int .i64 0, .int .i64 0, .int .i64 0, .int .i64 0, .int .i64 0, .int .i64 0, .int .i64 0, .int .i64 0, .int .i64 0, .int .i64 0, .int .i64 0, .int .i64 0, .int .i64 0] : Array Value) = stC 30 zeroS from rfl] at H2
        clear hw3 H1
        generalize w4.heap.size = sb at *
        have H2 := Lib.hid (H2.out.swap)
        have HG2 := Lib.hid (show w3.heap[sb]? = some (.cells (stC 30 zeroS) 67 (0, 0)) from H2.out.get (i := 1) rfl)
        have HIS := Lib.hid (S_isS H2.out 2 rfl HR1.out (by omega))
        clear HR1
        go_wp2_with (first | refine loadSt rfl _ rfl sb rfl zeroS HG2.out ?_)
        refine HIS.out.mono ?_
        clear HIS HG2 H2
        rintro e w4 ⟨rfl, h4⟩
        obtain ⟨jh4, ej⟩ : ∃ jh4, jh4 = jh := ⟨_, rfl⟩
        obtain ⟨J4, eJ⟩ : ∃ J4, J4 = J := ⟨_, rfl⟩
        obtain ⟨D4, eD⟩ : ∃ D4, D4 = D := ⟨_, rfl⟩
        rw [← ej, ← eJ, ← eD] at h4
        have HJ4 : Hid (jh4.jb = jh.jb) := Lib.hid (by rw [ej])
        have HN4 : D4.n = 275 := by rw [eD]; exact HDN.out
        have H4 := Lib.hid h4
        clear h4 ej eJ eD
        have HN := Lib.hid HN4
        clear HN4
        have HA := Lib.hid (S_New H4.out 245 (by omega) (by omega))
        clear H4
        go_wp2_with fail
        refine HA.out.mono ?_
        clear HA
        rintro e w5 ⟨HT, rfl, h5⟩
        have HB := Lib.hid (S_New h5 275 (by omega) (by omega))
        clear h5
        go_wp2_with fail
        refine HB.out.mono ?_
        clear HB
        rintro e w6 ⟨HE, rfl, h6⟩
        have H6 := Lib.hid (show St w1 w6 (dev HE (DSt.new 275) :: dev HT (DSt.new 245) :: jrn H jh4 J4 :: dev H D4 :: []) from h6.sub (List.Sublist.cons_cons _ (List.Sublist.cons_cons _ (List.Sublist.cons_cons _ (List.Sublist.cons _ (List.Sublist.cons _ (List.Sublist.refl _)))))))
        clear h6
        go_wp2_with fail
        refine (S_OpenTiny H6.out 1 rfl (by decide)).mono ?_
        rintro e w7 ⟨rfl, rfl⟩
        go_wp2_with fail
        refine (S_OpenBad H6.out 0 rfl (by decide) (by decide) (by rfl)).mono ?_
        rintro e w7 ⟨rfl, h7⟩
        have H7 := Lib.hid (show St w1 w7 (jrn H jh4 J4 :: dev H D4 :: dev HE (DSt.new 275) :: dev HT (DSt.new 245) :: []) from (show St w1 w7 (dev HE (DSt.new 275) :: dev HT (DSt.new 245) :: jrn H jh4 J4 :: dev H D4 :: []) from h7).perm (List.perm_append_comm (l₁ := [_, _]) (l₂ := [_, _])))
        clear h7 H6
        have HJA := Lib.hid (S_JRFar H7.out 0 rfl 244 (.inl (by omega)))
        have HJC := Lib.hid (S_JRFar H7.out 0 rfl 275 (.inr (by rw [HN.out]; omega)))
        have HFT := Lib.hid (S_FormatTiny H7.out 3 rfl (by decide))
        rw [HJ4.out] at HJA HJC
        go_wp2_with fail
        refine HJA.out.mono ?_
        rintro e w8 ⟨rfl, rfl⟩
        go_wp2_with fail
        refine HJC.out.mono ?_
        rintro e w8 ⟨rfl, rfl⟩
        clear HJA HJC H7
        go_wp2_with fail
        refine HFT.out.mono ?_
        clear HFT
        rintro e w8 ⟨rfl, h8⟩
        have H8 := Lib.hid h8
        clear h8
        have HBK := Lib.hid (S_Blocks H8.out 1 rfl)
        rw [HN.out] at HBK
        go_wp2_with fail
        refine HBK.out.mono ?_
        rintro e w9 ⟨rfl, rfl⟩
        clear HBK
        have hF := Lib.hid H8.out
        go_wp2_with fail
        refine (awake4_any hF.out).mono ?_
        rintro e w5 ⟨rfl, h5⟩
        have HF5 := Lib.hid h5.base
        clear h5
        go_wp2
        go_ret
        exact ⟨rfl, HF5.out⟩
end Go.Proofs.Ytkanfpmmgaipnaa
