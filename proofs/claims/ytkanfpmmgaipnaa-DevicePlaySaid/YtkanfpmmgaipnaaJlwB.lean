/-
  Rows of changes that grow; JournalBig.
-/
import Derived.Test.YtkanfpmmgaipnaaM4
namespace Go.Proofs.Ytkanfpmmgaipnaa
set_option linter.unusedVariables false
open Go.ChangeMaps Go.MapKept Go.RowKit

theorem infoChg : (Try.prog.info? 64).map (fun i => (i.zero, i.size, i.bytes)) = some (some (.agg #[.int .i64 0, .slice none 0 0]), 2, 32) := by kernel_rfl

/-- Behind an append of one change. -/
theorem St.chgsAppend {w0 : Gnd} {w : World} {rs : List Res} (h : St w0 w rs) (i j : Nat) {v : Value} {ks : List Int} {vs : List Value} {ds : List Blk} (hr : rs[i]? = some (chgs v ks vs ds)) {u : Value} {d : Blk} (hv : rs[j]? = some (byt u d)) (k : Int) (o : Obj) {v' : Value} {w' : World} {news : List Value}
    (hnews : news = [.int .i64 k, u]) (ho : w'.ownsRow 0 64 2 v' (ks.length + 1) (flat ks vs ++ news)) (hg : (w.alloc o).grownBy w' v.ownBlock) (hat : v'.ownBlock = v.ownBlock ∨ v'.ownBlock = some (w.alloc o).heap.size) :
    St w0 w' (rs.set i (chgs v' (ks ++ [k]) (vs ++ [u]) (ds ++ [d]))) := by
  subst hnews
  obtain ⟨I1, I2, I3, I4⟩ := h.get hr
  have hb := h.get hv
  have hf : Frm (chgs v ks vs ds).M w w' := ((Frm.refl _ w).alloc o).trans (Frm.ofGrown hg) (fun y _ e => e)
  have hdry := (chgs v ks vs ds).dry _ w (h.get hr)
  have hkeep : ∀ u' b', BytesAt w u' b' AnyB → BytesAt w' u' b' AnyB := fun u' b' hu' => hu'.frmZ hf (fun x _ hx => hdry x hx)
  refine h.write i hr hf (chgs v' (ks ++ [k]) (vs ++ [u]) (ds ++ [d])) ⟨?_, by simp [I2], by simp [I3], fun q x b hx hb' => ?_⟩ (fun x hx => ?_)
  · rw [List.length_append, List.length_singleton, flat_snoc _ _ _ _ I2]
    exact ho
  · rcases Nat.lt_trichotomy q vs.length with hq | hq | hq
    · rw [List.getElem?_append_left hq] at hx
      rw [List.getElem?_append_left (by omega)] at hb'
      exact hkeep _ _ (I4 q x b hx hb')
    · subst hq
      rw [List.getElem?_append_right (Nat.le_refl _), Nat.sub_self] at hx
      rw [show vs.length = ds.length from by omega, List.getElem?_append_right (Nat.le_refl _), Nat.sub_self] at hb'
      simp at hx hb'
      subst hx hb'
      exact hkeep _ _ hb
    · rw [List.getElem?_eq_none (by simp; omega)] at hx; cases hx
  · rcases hat with e | e
    · exact .inl (show v.ownBlock = some x from e ▸ (show v'.ownBlock = some x from hx))
    · have hx : v'.ownBlock = some x := hx
      rw [e] at hx
      have e' : (w.alloc o).heap.size = x := by injection hx
      have := ((Frm.refl NoB w).alloc o).size
      exact .inr (by omega)

/-- The cells of a change that was just made. -/
theorem new_two (w : World) (x y : Value) (t : TypeId) (j : Nat) (u : Value) (h : ([x, y] : List Value)[j]? = some u) : (w.alloc (.cells #[x, y] t (0, 0))).cell? ((⟨w.heap.size, 0, none⟩ : Addr).add j) = some u := by
  have e : ((⟨w.heap.size, 0, none⟩ : Addr).add j) = ⟨w.heap.size, j, none⟩ := by unfold Addr.add; split <;> simp_all
  rw [e, cell_of_block (block_alloc_new _ _), ← Array.getElem?_toList]
  exact h

/-- The homes from the first on. -/
def bigK (n : Nat) : List Nat := (List.range n).map (245 + ·)
def bigD (n : Nat) : List Blk := (List.range n).map fun i : Nat => blockOf ((i : Int) + 1)

theorem bigK_length (n : Nat) : (bigK n).length = n := by simp [bigK]
theorem bigD_length (n : Nat) : (bigD n).length = n := by simp [bigD]
theorem bigK_succ (n : Nat) : (bigK (n + 1)).map (fun k : Nat => (k : Int)) = (bigK n).map (fun k : Nat => (k : Int)) ++ [245 + (n : Int)] := by
  unfold bigK
  rw [List.range_succ, List.map_append, List.map_append]
  simp
theorem bigD_succ (n : Nat) : bigD (n + 1) = bigD n ++ [blockOf ((n : Int) + 1)] := by
  unfold bigD
  rw [List.range_succ, List.map_append]; rfl
theorem bigD_512 (n : Nat) : ∀ d ∈ bigD n, d.length = 512 := fun d hd => by
  obtain ⟨i, _, rfl⟩ := List.mem_map.1 hd
  exact blockOf_length _
theorem bigMay (n : Nat) (h : n ≤ 60) : MayL 325 (bigK n) (bigD n) := by
  refine ⟨fun k hk => ?_, ?_, by rw [bigK_length]; exact h, by rw [bigK_length, bigD_length]⟩
  · obtain ⟨i, hi, rfl⟩ := List.mem_map.1 hk
    have := List.mem_range.1 hi
    omega
  · unfold bigK
    rw [List.nodup_iff_pairwise_ne, List.pairwise_map]
    refine (List.nodup_iff_pairwise_ne.1 List.nodup_range).imp (fun h => ?_)
    omega

theorem bigE (n : Nat) (h : 60 < n) (h2 : n ≤ 80) : mayE 325 ((bigK n).map fun k : Nat => (k : Int)) (bigD n) = 2 := by
  have hgood : mayTo 325 ((bigK n).map fun k : Nat => (k : Int)) (bigD n) ((bigK n).map fun k : Nat => (k : Int)).length = true := (mayTo_iff _ _ _ _).2 fun i hi => by
    rw [List.length_map, bigK_length] at hi
    unfold goodAt
    have e1 : ((bigK n).map fun k : Nat => (k : Int)).getD i 0 = 245 + (i : Int) := by
      rw [List.getD_eq_getElem?_getD, List.getElem?_map, bigK, List.getElem?_map, List.getElem?_range hi]; simp
    have e2 : (bigD n).getD i [] = blockOf ((i : Int) + 1) := by
      rw [List.getD_eq_getElem?_getD, bigD, List.getElem?_map, List.getElem?_range hi]; simp
    rw [e1, e2, blockOf_length]
    simp only [Bool.and_eq_true, decide_eq_true_eq]
    refine ⟨⟨⟨by omega, by omega⟩, ?_⟩, by decide⟩
    rw [Bool.not_eq_true', ← Bool.not_eq_true, List.contains_iff_mem]
    intro hm
    obtain ⟨j, hj⟩ := List.getElem?_of_mem hm
    rw [List.getElem?_take] at hj
    split at hj
    · rename_i hji
      rw [List.getElem?_map, bigK, List.getElem?_map, List.getElem?_range (by omega)] at hj
      simp at hj
      omega
    · cases hj
  unfold mayE
  rw [if_pos hgood, if_pos (by rw [List.length_map, bigK_length]; exact h)]

theorem bigOver (n i : Nat) (s : Nat → Blk) (hi : i < n) : over (bigK n) (bigD n) s (245 + i) = blockOf ((i : Int) + 1) := by
  refine over_at _ _ _ i _ _ ?_ ?_ ?_
  · unfold bigK
    rw [List.nodup_iff_pairwise_ne, List.pairwise_map]
    exact (List.nodup_iff_pairwise_ne.1 List.nodup_range).imp (fun h => by omega)
  · unfold bigK; rw [List.getElem?_map, List.getElem?_range hi]; rfl
  · unfold bigD; rw [List.getElem?_map, List.getElem?_range hi]; rfl

set_option maxHeartbeats 1000000 in
set_option maxRecDepth 100000 in
theorem journalBig_any (w : World) (n : Int) (hok : okI n) :
    Calls Try.prog 12 #[.int .i64 n] w fun e w' => e = .returned (.bool true) ∧ Frm NoB w w' := by
  by_cases h0 : n < 0
  · clear hok
    go_enter Try.func12, Try.ntmps12
    go_wp2_with fail
    refine (awake4_any (St.start w)).mono ?_
    rintro e w5 ⟨rfl, h5⟩
    have HF5 := Lib.hid h5.base
    clear h5
    go_wp2
    go_ret
    exact ⟨rfl, HF5.out⟩
  by_cases h80 : 80 < n
  · clear hok
    go_enter Try.func12, Try.ntmps12
    go_wp2_with fail
    refine (awake4_any (St.start w)).mono ?_
    rintro e w5 ⟨rfl, h5⟩
    have HF5 := Lib.hid h5.base
    clear h5
    go_wp2
    go_ret
    exact ⟨rfl, HF5.out⟩
  clear hok
  obtain ⟨m, rfl⟩ : ∃ m : Nat, n = m := ⟨n.toNat, by omega⟩
  have HNN := Lib.hid (And.intro h0 h80)
  have hm80 : (m : Int) ≤ 80 := by omega
  have hm0 : (0 : Int) ≤ (m : Int) := by omega
  have HN := Lib.hid (S_New (St.start w) 325 (by omega) (by omega))
  go_enter Try.func12, Try.ntmps12
  go_wp2_with fail
  clear h0 h80
  refine HN.out.mono ?_
  clear HN
  rintro e w1 ⟨H, rfl, h1⟩
  have H1 := Lib.hid h1
  clear h1
  go_wp2_with fail
  refine (S_Format H1.out 0 rfl (by decide) (by decide) rfl (by rfl) (by decide)).mono ?_
  rintro e w2 ⟨rfl, h2⟩
  obtain ⟨f1, f2, f3⟩ := fmt_tells 325 (by omega) (by omega)
  have h2 : St w w2 (dev H (fmtD (DSt.new 325) 0 7) :: []) := h2
  obtain ⟨g1, g2, g3⟩ := fmtD_ok (DSt.new 325) 0 rfl 7
  have HO := Lib.hid (S_OpenL h2 0 rfl f3 (g1.trans (show (DSt.new 325).n = 325 from rfl)) f2 f1 (by omega) (by omega) (by omega) (by rw [g2]; decide) g3)
  have HG : Hid ((fmtD (DSt.new 325) 0 7).ops = 7) := Lib.hid g2
  clear h2 f1 f2 f3 g1 g2 g3 H1
  go_wp2_with fail
  refine HO.out.mono ?_
  clear HO
  rintro e w3 ⟨jh, J, D, rfl, h3, hl, hlim, hops⟩
  have HL := Lib.hid hl
  have HLI := Lib.hid hlim
  have HOP : Hid (D.ops ≤ 100) := Lib.hid (by have := HG.out; omega)
  have H3 := Lib.hid (St.noChgs (show St w w3 (jrn H jh J :: dev H D :: []) from h3))
  clear h3 hl hlim hops HG
  go_wp2_with fail
  go_loopw [7, 8] (fun v t wr => ∃ (i : Nat) (vs : List Value), i ≤ m ∧ t = .int .i64 i ∧ St w wr (chgs v ((bigK i).map fun k : Nat => (k : Int)) vs (bigD i) :: jrn H jh J :: dev H D :: [])) (fun _ t _ => m - (intOf t).toNat)
  case atStart => exact ⟨0, [], Nat.zero_le _, rfl, H3.out⟩
  case round =>
    clear H3
    obtain ⟨i, vs, hi, rfl, hst⟩ := hrel
    have HST := Lib.hid hst
    clear hst
    by_cases hlt : i < m
    · have hi0 : (0 : Int) ≤ (i : Int) := Int.natCast_nonneg _
      have hi1 : (i : Int) < (m : Int) := by omega
      go_wp2_with fail
      refine (S_Block HST.out ((i : Int) + 1)).mono ?_
      rintro e w4 ⟨u, rfl, h4⟩
      obtain ⟨ub, uo, uc, rfl, _⟩ := (h4.get (i := 0) rfl).cells
      rw [blockOf_length] at h4 ⊢
      have H4 := Lib.hid h4
      clear h4 HST
      have HLK : Hid (((bigK i).map fun k : Nat => (k : Int)).length = i) := Lib.hid (by rw [List.length_map, bigK_length])
      have HO := Lib.hid (World.ownsRow.alloc (H4.out.get (i := 1) rfl).1 (.cells #[.int .i64 (245 + (i : Int)), .slice (some ⟨ub, uo, none⟩) 512 uc] 64 (0, 0)))
      have HNW : Hid (∀ (j : Nat) x, ([.int .i64 (245 + (i : Int)), .slice (some ⟨ub, uo, none⟩) 512 uc] : List Value)[j]? = some x → (w4.alloc (.cells #[.int .i64 (245 + (i : Int)), .slice (some ⟨ub, uo, none⟩) 512 uc] 64 (0, 0))).cell? ((⟨w4.heap.size, 0, none⟩ : Addr).add j) = some x) := Lib.hid (new_two w4 _ _ _)
      obtain ⟨ii, hi0i, hz0, hz1, hz2⟩ := info_parts infoChg
      go_wp2_with (at_builtin; refine wpList_append_own_at _ rfl _ _ 62 rfl 0 64 ii (.agg #[.int .i64 0, .slice none 0 0]) 2 32 Try.underlying62 hi0i hz0 hz1 hz2 rfl (by decide) _ _ _ rfl HO.out ⟨w4.heap.size, 0, none⟩ 1 1 [.int .i64 (245 + (i : Int)), .slice (some ⟨ub, uo, none⟩) 512 uc] rfl rfl HNW.out ?c0 ?c1 ?c2 ?c3 ?_)
      case c0 => intro x hx; simp at hx; rcases hx with rfl | rfl <;> rfl
      case c1 => rw [HLK.out]; simp only [maxLen]; omega
      case c2 => rw [HLK.out]; omega
      try case c3 => omega
      intro v' w5 ho hg2 hnn hat
      have h7 := H4.out.chgsAppend 1 0 rfl rfl (245 + (i : Int)) (.cells #[.int .i64 (245 + (i : Int)), .slice (some ⟨ub, uo, none⟩) 512 uc] 64 (0, 0)) rfl (by first | exact ho | (rw [List.length_map]; exact ho)) hg2 (by rw [size_alloc]; first | exact hat | (rw [size_alloc] at hat; exact hat))
      have H7 : Hid (St w w5 (chgs v' ((bigK (i + 1)).map fun k : Nat => (k : Int)) (vs ++ [.slice (some ⟨ub, uo, none⟩) 512 uc]) (bigD (i + 1)) :: jrn H jh J :: dev H D :: [])) := Lib.hid (by
        rw [bigK_succ, bigD_succ]
        exact h7.drop 1)
      clear ho hg2 hnn hat h7 HO HNW
      go_wp2
      first | exact ⟨⟨i + 1, _, hlt, by go_num, H7.out⟩, by simp [intOf]; omega⟩ | (go_roundw; case rel => first | exact ⟨i + 1, _, hlt, by go_num, H7.out⟩ | ((repeat apply Exists.intro); exact ⟨⟨i + 1, _, hlt, by go_num, H7.out⟩, rfl⟩); case measure => simp [intOf]; omega)
    · have hi1 : ¬ (i : Int) < (m : Int) := by omega
      obtain rfl : i = m := by omega
      by_cases h60 : 60 < i
      · have h61 : (60 : Int) < (i : Int) := by omega
        have HC := Lib.hid (S_CommitNo HST.out.swap 1 0 rfl rfl (fun k hk => by
          obtain ⟨x, hx, rfl⟩ := List.mem_map.1 hk
          obtain ⟨y, hy, rfl⟩ := List.mem_map.1 hx
          have := List.mem_range.1 hy
          exact okI_small _ (by omega)) (by rw [List.length_map, bigK_length]; omega) (fun d hd => by rw [bigD_512 _ d hd]; omega) (by rw [HL.out.dn, bigE i h60 (by omega)]; decide))
        rw [HL.out.dn, bigE i h60 (by omega)] at HC
        clear h60
        go_wp2_with fail
        refine HC.out.mono ?_
        clear HC
        rintro e w4 ⟨rfl, h4⟩
        have H4 := Lib.hid h4
        clear h4
        go_wp2_with fail
        refine (awake4_any H4.out).mono ?_
        rintro e w5 ⟨rfl, h5⟩
        have HF5 := Lib.hid h5.base
        clear h5
        go_wp2
        go_ret
        exact ⟨rfl, HF5.out⟩
      · have h61 : ¬ (60 : Int) < (i : Int) := by omega
        have HC := Lib.hid (S_CommitL HST.out.swap 1 0 rfl (ks := bigK i) rfl HL.out (bigMay i (by omega)) (bigD_512 i) (by omega) (by omega) (by omega) (by omega) (by have := HOP.out; omega) HLI.out (by omega))
        clear h60
        go_wp2_with fail
        refine HC.out.mono ?_
        clear HC
        rintro e w4 ⟨jh', J', D', hjb, rfl, h4, hl4, hlim4, hops4⟩
        have H4 := Lib.hid h4
        have HL4 := Lib.hid hl4
        have HOP4 : Hid (D'.ops ≤ 300) := Lib.hid (by have := HOP.out; omega)
        clear h4 hl4 hlim4 hops4 hjb HL HLI HOP HST
        go_wp2_with fail
        refine (S_Crash H4.out 2 rfl (by have := HOP4.out; omega) _ [] ⟨none, 0, rfl, fun i x hx => by simp at hx⟩ (fun _ h => by cases h) (by decide)).mono ?_
        rintro e w5 ⟨H2, rfl, h5⟩
        obtain ⟨p1, p2, p3, p4, p5, p6⟩ := HL4.out.wf' []
        have HO := Lib.hid (S_OpenL h5 0 rfl p1 p2 p3 p4 (by omega) (by omega) (by omega) (by omega) p5)
        clear h5 p1 p2 p3 p4 p5 p6 H4
        go_wp2_with fail
        refine HO.out.mono ?_
        clear HO
        rintro e w6 ⟨jh2, J2, D2, rfl, h6, hl6, hlim6, hops6⟩
        have H6 := Lib.hid ((show St w w6 (jrn H2 jh2 J2 :: dev H2 D2 :: _) from h6).sub ((((List.nil_sublist _).cons_cons _).cons_cons _)))
        have HL6 := Lib.hid hl6
        have HOP6 : Hid (D2.ops ≤ 61) := Lib.hid (by have h0 : (D'.crash []).ops = 0 := rfl; omega)
        clear h6 hl6 hlim6 hops6
        go_wp2_with fail
        go_loopw [12, 13, 14] (fun t _ _ wr => ∃ j : Nat, j ≤ i ∧ t = .int .i64 j ∧ St w wr (jrn H2 jh2 J2 :: dev H2 D2 :: [])) (fun t _ _ _ => i - (intOf t).toNat)
        case atStart => exact ⟨0, Nat.zero_le _, rfl, H6.out⟩
        case round =>
          clear H6
          obtain ⟨j, hj, rfl, hst⟩ := hrel
          have HST := Lib.hid hst
          clear hst
          by_cases hlt2 : j < i
          · have hj0 : (0 : Int) ≤ (j : Int) := Int.natCast_nonneg _
            have hj1 : (j : Int) < (i : Int) := by omega
            have HR := Lib.hid (S_JR HST.out 0 rfl (HL6.out.ok (by omega) (by omega)) (by have := HOP6.out; omega) (245 + (j : Int)) (by omega) (by rw [HL6.out.dn]; omega))
            have HV : Hid (jview J2 D2 (245 + (j : Int)).toNat = blockOf ((j : Int) + 1)) := Lib.hid (by
              rw [show (245 + (j : Int)).toNat = 245 + j from by omega]
              exact (HL6.out.view (245 + j) (by omega) (by omega)).trans (bigOver i j _ hlt2))
            go_wp2_with fail
            refine HR.out.mono ?_
            clear HR
            rintro e w7 ⟨v7, rfl, h7⟩
            rw [HV.out] at h7
            have H7 := Lib.hid h7
            clear h7 HV HST
            go_wp2_with fail
            refine (S_Block H7.out ((j : Int) + 1)).mono ?_
            rintro e w8 ⟨v8, rfl, h8⟩
            have H8 := Lib.hid h8
            clear h8 H7
            go_wp2_with fail
            refine (S_Bytes H8.out 1 0 rfl rfl (by rw [blockOf_length]; omega)).mono ?_
            rintro e w9 ⟨rfl, h9⟩
            rw [show (blockOf ((j : Int) + 1) == blockOf ((j : Int) + 1)) = true from beq_self_eq_true _]
            have H9 := Lib.hid (h9.drop 2)
            clear h9 H8
            go_wp2
            first | exact ⟨⟨j + 1, hlt2, by go_num, H9.out⟩, by simp [intOf]; omega⟩ | (go_roundw; case rel => first | exact ⟨j + 1, hlt2, by go_num, H9.out⟩ | ((repeat apply Exists.intro); exact ⟨⟨j + 1, hlt2, by go_num, H9.out⟩, rfl⟩); case measure => simp [intOf]; omega)
          · have hj1 : ¬ (j : Int) < (i : Int) := by omega
            go_wp2_with fail
            refine (awake4_any HST.out).mono ?_
            rintro e w7 ⟨rfl, h7⟩
            have HF7 := Lib.hid h7.base
            clear h7
            go_wp2
            go_ret
            exact ⟨rfl, HF7.out⟩
end Go.Proofs.Ytkanfpmmgaipnaa
