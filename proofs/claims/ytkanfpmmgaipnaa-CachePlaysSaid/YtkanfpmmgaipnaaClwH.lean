/-
  CacheOver: behind an aborted transaction all is as it was; behind a committed one as its writes made it.
-/
import Derived.Test.YtkanfpmmgaipnaaClwG
namespace Go.Proofs.Ytkanfpmmgaipnaa
set_option linter.unusedVariables false
open Go.ChangeMaps Go.MapKept Go.RowKit

/-- What was written, over a state: is it the state f? -/
def TOk (wl : WrL) (s : Nat → Blk) (f : Nat → Int) : Prop := ∀ k, k < 80 → cvw wl s (245 + k) = blockOf (f k)

theorem TOk.put {wl : WrL} {s : Nat → Blk} {f : Nat → Int} (h : TOk wl s f) (m : Nat) (hm : m < 80) (v : Int) : TOk (putW wl (245 + (m : Int)) (blockOf v)) s (setF f m v) := fun k hk => by
  unfold cvw setF
  by_cases e : k = m
  · subst e
    rw [if_pos rfl, show ((245 + k : Nat) : Int) = 245 + (k : Int) from by omega, look_put_same]; rfl
  · rw [if_neg e, look_put_other _ _ (by omega)]
    exact h k hk

theorem TOk.isTo {wl : WrL} {s : Nat → Blk} {f : Nat → Int} (h : TOk wl s f) : isTo (cvw wl s) f 80 = true := (isTo_iff _ _ _).2 h

theorem cvw_nil (s : Nat → Blk) : cvw [] s = s := rfl

set_option maxHeartbeats 1000000 in
set_option maxRecDepth 100000 in
theorem cacheOver_any (w : World) (v : Value) (l : List (Int × Int × Int)) (keep : Bool) (hv : Trips w v l) (hk : ∀ p ∈ l, okI p.1 ∧ okI p.2.1 ∧ okI p.2.2) :
    Calls Try.prog 24 #[v, .bool keep] w fun e w' => e = .returned (.bool true) ∧ Frm NoB w w' := by
  obtain ⟨w1, hw1⟩ : ∃ w1, w = w1 := ⟨_, rfl⟩
  rw [hw1] at hv ⊢
  clear hw1
  obtain ⟨a, cap, rfl, hcell⟩ := hv
  have HC := Lib.hid hcell
  have HOK := Lib.hid hk
  have hl0 : (0 : Int) ≤ ((l.length : Nat) : Int) := Int.natCast_nonneg _
  clear hcell hk
  go_enter Try.func24, Try.ntmps24
  by_cases hg : (60 : Int) < ((l.length : Nat) : Int)
  · go_wp2_with fail
    refine (awake5_any (St.start w1)).mono ?_
    rintro e w5 ⟨rfl, h5⟩
    have HF5 := Lib.hid h5.base
    clear h5
    go_wp2
    go_ret
    exact ⟨rfl, HF5.out⟩
  have hl60 : ((l.length : Nat) : Int) ≤ 60 := by omega
  have HF := Lib.hid (S_fresh5 (St.start w1))
  go_wp2_with fail
  refine HF.out.mono ?_
  clear HF hg
  rintro e w2 ⟨H, jh, J, D, cb, wb, rfl, h2, hl, hlim, hops⟩
  have H2 := Lib.hid h2
  have HL := Lib.hid hl
  have HLI := Lib.hid hlim
  have HOP := Lib.hid hops
  clear h2 hl hlim hops
  go_wp2_with fail
  refine (S_cBegin H2.out).mono ?_
  rintro e w3 ⟨rfl, h3⟩
  have H3 := Lib.hid (show St w1 w3 (cst cb jh.jb true false wb :: wrt wb [] :: jrn H jh J :: dev H D :: []) from h3)
  clear h3 H2
  have hmk : ∀ W, (Instr.makeMap 96 none).run Try.prog W = .ok (.map (some W.heap.size)) (W.alloc (.map #[] 0)) := fun W => rfl
  go_upto_region 9 with (refine allocRow rfl _ (stC 80 zeroS) zeroS5 rfl ?_)
  have H4 := Lib.hid (((H3.out.newArr (stC 80 zeroS) 95 neS5).newArr (stC 80 zeroS) 95 neS5).mtNew)
  rw [size_alloc, size_alloc] at H4
  obtain ⟨w4, hw4⟩ : ∃ w4, w4 = ((w3.alloc (.cells (stC 80 zeroS) 95 (0, 0))).alloc (.cells (stC 80 zeroS) 95 (0, 0))).alloc (.map #[] 0) := ⟨_, rfl⟩
  rw [← hw4] at H4 ⊢
  clear hw4 H3 hmk
  generalize w3.heap.size + 1 + 1 = mb at *
  generalize w3.heap.size + 1 = tb at *
  generalize w3.heap.size = sb at *
  have H4 := Lib.hid (show St w1 w4 (cst cb jh.jb true false wb :: wrt wb [] :: jrn H jh J :: mtR mb [] :: arr tb (stC 80 zeroS) 95 neS5 :: arr sb (stC 80 zeroS) 95 neS5 :: dev H D :: []) from H4.out.perm (List.perm_append_comm (l₁ := [_, _, _]) (l₂ := [_, _, _]) |>.append_right _))
  go_wp2_with fail
  go_loopw [10, 12] (fun t10 t12 wr => ∃ (i : Nat) (wl : WrL) (f : Nat → Int), i ≤ l.length ∧ t10 = .int .i64 (wl.length : Nat) ∧ t12 = .int .i64 i ∧ Hid (COk 325 wl ∧ TOk wl (fun _ => zeros) f) ∧ St w1 wr (cst cb jh.jb true false wb :: wrt wb wl :: jrn H jh J :: mtR mb wl :: arr tb (stC 80 f) 95 neS5 :: arr sb (stC 80 zeroS) 95 neS5 :: dev H D :: [])) (fun _ t _ => l.length - (intOf t).toNat)
  case atStart => exact ⟨0, [], zeroS, Nat.zero_le _, rfl, rfl, Lib.hid ⟨COk.nil 325, fun k hk => rfl⟩, H4.out⟩
  case round =>
    clear H4
    obtain ⟨i, wl, f, hi, rfl, rfl, HR, hst⟩ := hrel
    have HST := Lib.hid hst
    clear hst
    by_cases hlt : i < l.length
    · have hi0 : (0 : Int) ≤ (i : Int) := Int.natCast_nonneg _
      have hi1 : (i : Int) < (l.length : Int) := by omega
      obtain ⟨p, hp⟩ : ∃ p, l[i]? = some p := ⟨_, List.getElem?_eq_getElem hlt⟩
      obtain ⟨gb, go, rfl, hgb, _, c1, c2⟩ := HC.out i p hp
      obtain ⟨p0, x, y⟩ := p
      have HC2 : Hid (∀ W rs', St w1 W rs' → W.cell? ⟨gb, go + i * 3 + 2, none⟩ = some (.int .i64 y)) := Lib.hid fun W rs' hW => (hW.base.cell hgb (fun e => e)).trans c2
      have c1' : wr.cell? ⟨gb, go + i * 3 + 1, none⟩ = some (.int .i64 x) := (HST.out.base.cell hgb (fun e => e)).trans c1
      have HOX := Lib.hid (HOK.out _ (List.mem_of_getElem? hp))
      clear c1 c2 hgb hp
      go_wp2_with fail
      refine (Round_any _ x 80 HOX.out.2.1 (by omega) (by omega)).mono ?_
      rintro e w2 ⟨rfl, rfl⟩
      clear c1'
      obtain ⟨m, hm⟩ : ∃ m : Nat, x % 80 = m := ⟨(x % 80).toNat, by omega⟩
      rw [hm]
      have hm0 : (0 : Int) ≤ (m : Int) := Int.natCast_nonneg _
      have hm1 : (m : Int) < 80 := by omega
      have HM : Hid (m < 80) := Lib.hid (by omega)
      have HMO : Hid (okI (m : Int)) := Lib.hid ((okI_iff _).2 (by omega))
      clear hm
      obtain ⟨s, hs⟩ : ∃ s, (look wl (245 + (m : Int))).isSome = s := ⟨_, rfl⟩
      have HS := Lib.hid hs
      have hlk := HST.out.mtLook (i := 3) rfl HMO.out hs wr rfl
      obtain ⟨N, hN⟩ : ∃ N, wl.length = N := ⟨_, rfl⟩
      have HNN := Lib.hid hN
      rw [hN]
      have hN0 : (0 : Int) ≤ (N : Int) := Int.natCast_nonneg _
      have hN1 : (N : Int) ≤ 60 := by have := HR.out.1.few; omega
      clear hs hN
      by_cases hfull : s = false ∧ (60 : Int) ≤ (N : Int)
      · obtain ⟨rfl, h60⟩ := hfull
        go_wp2
        first | exact ⟨⟨i + 1, wl, f, hlt, by rw [HNN.out], by go_num, HR, HST.out⟩, by simp [intOf]; omega⟩ | (go_roundw; case rel => first | exact ⟨i + 1, wl, f, hlt, by rw [HNN.out], by go_num, HR, HST.out⟩ | ((repeat apply Exists.intro); exact ⟨⟨i + 1, wl, f, hlt, by rw [HNN.out], by go_num, HR, HST.out⟩, rfl⟩); case measure => simp [intOf]; omega)
      · have HRM : Hid ((look wl (245 + (m : Int))).isSome = true ∨ wl.length < 60) := Lib.hid (by
          rw [HS.out, HNN.out]
          cases s with
          | true => exact .inl rfl
          | false => exact .inr (by
              have : ¬ (60 : Int) ≤ (N : Int) := fun h => hfull ⟨rfl, h⟩
              omega))
        have HPL : Hid ((putW wl (245 + (m : Int)) (blockOf (y % 250))).length = if s then N else N + 1) := Lib.hid (by rw [put_length, HS.out, HNN.out])
        have HM2 := Lib.hid (And.intro (HR.out.1.put (245 + (m : Int)) (blockOf (y % 250)) (by omega) (blockOf_length _) HRM.out) (HR.out.2.put m HM.out (y % 250)))
        have c2 := HC2.out wr _ HST.out
        cases s with
        | true =>
          go_wp2_with fail
          refine (Round_any _ y 250 HOX.out.2.2 (by omega) (by omega)).mono ?_
          rintro e w2 ⟨rfl, rfl⟩
          have hv0 : 0 ≤ y % 250 := Int.emod_nonneg _ (by omega)
          have hv1 : y % 250 < 250 := Int.emod_lt_of_pos _ (by omega)
          have HYV : Hid (y % 250 = y % 250) := Lib.hid rfl
          generalize hyv : y % 250 = yv at *
          clear c2 hlk
          go_wp2_with fail
          refine (S_Block HST.out yv).mono ?_
          rintro e w3 ⟨u, rfl, h3⟩
          have H3 := Lib.hid (show St w1 w3 (cst cb jh.jb true false wb :: wrt wb wl :: jrn H jh J :: byt u (blockOf yv) :: mtR mb wl :: arr tb (stC 80 f) 95 neS5 :: arr sb (stC 80 zeroS) 95 neS5 :: dev H D :: []) from h3.perm (List.perm_append_comm (l₁ := [_]) (l₂ := [_, _, _]) |>.append_right _))
          clear h3 HST
          have HW := Lib.hid (S_cWriteIn H3.out 4 0 rfl rfl (blockOf_length _) (HL.out.ok (by omega) (by omega)) (by have := HOP.out; omega) (245 + (m : Int)) (by omega) (by rw [HL.out.dn]; omega) (by rw [HL.out.dn]; decide) (by have := HR.out.1.few; omega) HR.out.1.b512)
          go_wp2_with fail
          refine HW.out.mono ?_
          clear HW
          rintro e w5 (⟨_, rfl, h5⟩ | ⟨hno, hful, _⟩)
          case inr =>
            exfalso
            rcases HRM.out with h | h
            · rw [hno] at h; cases h
            · omega
          have h5 := (show St w1 w5 (cst cb jh.jb true false wb :: wrt wb (putW wl (245 + (m : Int)) (blockOf yv)) :: jrn H jh J :: mtR mb wl :: arr tb (stC 80 f) 95 neS5 :: arr sb (stC 80 zeroS) 95 neS5 :: dev H D :: []) from h5.sub (List.Sublist.cons_cons _ (List.Sublist.cons_cons _ (List.Sublist.cons_cons _ (List.Sublist.cons _ (List.Sublist.refl _))))))
          obtain ⟨o, q, h6⟩ := h5.mtPut 3 rfl HMO.out (blockOf yv)
          have c2 := HC2.out _ _ h6
          have h6 := (show St w1 (setBlock w5 mb o) (cst cb jh.jb true false wb :: wrt wb (putW wl (245 + (m : Int)) (blockOf yv)) :: jrn H jh J :: mtR mb (putW wl (245 + (m : Int)) (blockOf yv)) :: arr tb (stC 80 f) 95 neS5 :: arr sb (stC 80 zeroS) 95 neS5 :: dev H D :: []) from h6)
          have H6 := Lib.hid h6
          clear h5 h6 H3
          go_wp2_with fail
          refine (Round_any _ y 250 HOX.out.2.2 (by omega) (by omega)).mono ?_
          rintro e w2 ⟨rfl, rfl⟩
          rw [hyv]
          obtain ⟨w7, hw7⟩ : ∃ w7, w7 = setBlock w5 mb o := ⟨_, rfl⟩
          rw [← hw7] at H6 ⊢
          clear hw7 q c2
          have ct : ∃ u, w7.cell? ⟨tb, m, none⟩ = some u := ⟨_, (H6.out.arrCell (i := 4) rfl m).trans (stC_get 80 f m HM.out)⟩
          obtain ⟨ut, ct⟩ := ct
          have ft : w7.frozen? ⟨tb, m, none⟩ = false := H6.out.arrFree (i := 4) rfl m
          have h7 := H6.out.setArr 4 rfl m (.int .i64 yv)
          rw [stC_setF 80 f m yv HM.out] at h7
          have H7 := Lib.hid (show St w1 (w7.setCell ⟨tb, m, none⟩ (.int .i64 yv)) (cst cb jh.jb true false wb :: wrt wb (putW wl (245 + (m : Int)) (blockOf yv)) :: jrn H jh J :: mtR mb (putW wl (245 + (m : Int)) (blockOf yv)) :: arr tb (stC 80 (setF f m yv)) 95 neS5 :: arr sb (stC 80 zeroS) 95 neS5 :: dev H D :: []) from h7)
          clear h7 H6
          go_wp2
          first | exact ⟨⟨i + 1, _, _, hlt, (by rw [HPL.out]; first | rfl | go_num), by go_num, HM2, H7.out⟩, by simp [intOf]; omega⟩ | (go_roundw; case rel => first | exact ⟨i + 1, _, _, hlt, (by rw [HPL.out]; first | rfl | go_num), by go_num, HM2, H7.out⟩ | ((repeat apply Exists.intro); exact ⟨⟨i + 1, _, _, hlt, (by rw [HPL.out]; first | rfl | go_num), by go_num, HM2, H7.out⟩, rfl⟩); case measure => simp [intOf]; omega)
        | false =>
          have h60 : ¬ (60 : Int) ≤ (N : Int) := fun h => hfull ⟨rfl, h⟩
          go_wp2_with fail
          refine (Round_any _ y 250 HOX.out.2.2 (by omega) (by omega)).mono ?_
          rintro e w2 ⟨rfl, rfl⟩
          have hv0 : 0 ≤ y % 250 := Int.emod_nonneg _ (by omega)
          have hv1 : y % 250 < 250 := Int.emod_lt_of_pos _ (by omega)
          have HYV : Hid (y % 250 = y % 250) := Lib.hid rfl
          generalize hyv : y % 250 = yv at *
          clear c2 hlk
          go_wp2_with fail
          refine (S_Block HST.out yv).mono ?_
          rintro e w3 ⟨u, rfl, h3⟩
          have H3 := Lib.hid (show St w1 w3 (cst cb jh.jb true false wb :: wrt wb wl :: jrn H jh J :: byt u (blockOf yv) :: mtR mb wl :: arr tb (stC 80 f) 95 neS5 :: arr sb (stC 80 zeroS) 95 neS5 :: dev H D :: []) from h3.perm (List.perm_append_comm (l₁ := [_]) (l₂ := [_, _, _]) |>.append_right _))
          clear h3 HST
          have HW := Lib.hid (S_cWriteIn H3.out 4 0 rfl rfl (blockOf_length _) (HL.out.ok (by omega) (by omega)) (by have := HOP.out; omega) (245 + (m : Int)) (by omega) (by rw [HL.out.dn]; omega) (by rw [HL.out.dn]; decide) (by have := HR.out.1.few; omega) HR.out.1.b512)
          go_wp2_with fail
          refine HW.out.mono ?_
          clear HW
          rintro e w5 (⟨_, rfl, h5⟩ | ⟨hno, hful, _⟩)
          case inr =>
            exfalso
            rcases HRM.out with h | h
            · rw [hno] at h; cases h
            · omega
          have h5 := (show St w1 w5 (cst cb jh.jb true false wb :: wrt wb (putW wl (245 + (m : Int)) (blockOf yv)) :: jrn H jh J :: mtR mb wl :: arr tb (stC 80 f) 95 neS5 :: arr sb (stC 80 zeroS) 95 neS5 :: dev H D :: []) from h5.sub (List.Sublist.cons_cons _ (List.Sublist.cons_cons _ (List.Sublist.cons_cons _ (List.Sublist.cons _ (List.Sublist.refl _))))))
          obtain ⟨o, q, h6⟩ := h5.mtPut 3 rfl HMO.out (blockOf yv)
          have c2 := HC2.out _ _ h6
          have h6 := (show St w1 (setBlock w5 mb o) (cst cb jh.jb true false wb :: wrt wb (putW wl (245 + (m : Int)) (blockOf yv)) :: jrn H jh J :: mtR mb (putW wl (245 + (m : Int)) (blockOf yv)) :: arr tb (stC 80 f) 95 neS5 :: arr sb (stC 80 zeroS) 95 neS5 :: dev H D :: []) from h6)
          have H6 := Lib.hid h6
          clear h5 h6 H3
          go_wp2_with fail
          refine (Round_any _ y 250 HOX.out.2.2 (by omega) (by omega)).mono ?_
          rintro e w2 ⟨rfl, rfl⟩
          rw [hyv]
          obtain ⟨w7, hw7⟩ : ∃ w7, w7 = setBlock w5 mb o := ⟨_, rfl⟩
          rw [← hw7] at H6 ⊢
          clear hw7 q c2
          have ct : ∃ u, w7.cell? ⟨tb, m, none⟩ = some u := ⟨_, (H6.out.arrCell (i := 4) rfl m).trans (stC_get 80 f m HM.out)⟩
          obtain ⟨ut, ct⟩ := ct
          have ft : w7.frozen? ⟨tb, m, none⟩ = false := H6.out.arrFree (i := 4) rfl m
          have h7 := H6.out.setArr 4 rfl m (.int .i64 yv)
          rw [stC_setF 80 f m yv HM.out] at h7
          have H7 := Lib.hid (show St w1 (w7.setCell ⟨tb, m, none⟩ (.int .i64 yv)) (cst cb jh.jb true false wb :: wrt wb (putW wl (245 + (m : Int)) (blockOf yv)) :: jrn H jh J :: mtR mb (putW wl (245 + (m : Int)) (blockOf yv)) :: arr tb (stC 80 (setF f m yv)) 95 neS5 :: arr sb (stC 80 zeroS) 95 neS5 :: dev H D :: []) from h7)
          clear h7 H6
          go_wp2
          first | exact ⟨⟨i + 1, _, _, hlt, (by rw [HPL.out]; first | rfl | go_num), by go_num, HM2, H7.out⟩, by simp [intOf]; omega⟩ | (go_roundw; case rel => first | exact ⟨i + 1, _, _, hlt, (by rw [HPL.out]; first | rfl | go_num), by go_num, HM2, H7.out⟩ | ((repeat apply Exists.intro); exact ⟨⟨i + 1, _, _, hlt, (by rw [HPL.out]; first | rfl | go_num), by go_num, HM2, H7.out⟩, rfl⟩); case measure => simp [intOf]; omega)
    · have hi1 : ¬ (i : Int) < (l.length : Int) := by omega
      cases keep with
      | true =>
        have HCM := Lib.hid (S_cCommitL HST.out 3 rfl HL.out HR.out.1 (by omega) (by omega) (by omega) (by omega) (by have := HOP.out; omega) HLI.out)
        clear HST
        go_wp2_with fail
        refine HCM.out.mono ?_
        clear HCM
        rintro e w4 ⟨jh4, J4, D4, hjb, rfl, h4, hl4, _, hops4⟩
        rw [← hjb] at h4
        have H4 := Lib.hid (show St w1 w4 (cst cb jh4.jb false false wb :: wrt wb [] :: jrn H jh4 J4 :: mtR mb wl :: arr tb (stC 80 f) 95 neS5 :: arr sb (stC 80 zeroS) 95 neS5 :: dev H D4 :: []) from h4)
        have HIS := Lib.hid (S_is5 H4.out 3 rfl hl4 (by omega) (by omega) (by have := HOP.out; omega) (fun _ h => by cases h) f)
        rw [cvw_nil, HR.out.2.isTo] at HIS
        have HGT := Lib.hid (show w4.heap[tb]? = some (.cells (stC 80 f) 95 (0, 0)) from H4.out.get (i := 4) rfl)
        clear h4 hjb hl4 hops4
        go_wp2_with (first | refine loadS5 rfl _ rfl tb rfl f HGT.out ?_)
        refine HIS.out.mono ?_
        clear HIS HGT H4
        rintro e w5 ⟨rfl, h5⟩
        have H5 := Lib.hid h5
        clear h5
        go_wp2_with fail
        refine (awake5_any H5.out).mono ?_
        rintro e w6 ⟨rfl, h6⟩
        have HF6 := Lib.hid h6.base
        clear h6
        go_wp2
        go_ret
        exact ⟨rfl, HF6.out⟩
      | false =>
        have HAB := Lib.hid (S_cAbort HST.out)
        clear HST
        go_wp2_with fail
        refine HAB.out.mono ?_
        clear HAB
        rintro e w4 ⟨rfl, h4⟩
        have H4 := Lib.hid (show St w1 w4 (cst cb jh.jb false false wb :: wrt wb [] :: jrn H jh J :: mtR mb wl :: arr tb (stC 80 f) 95 neS5 :: arr sb (stC 80 zeroS) 95 neS5 :: dev H D :: []) from h4)
        have HIS := Lib.hid (S_is5 H4.out 3 rfl HL.out (by omega) (by omega) (by have := HOP.out; omega) (fun _ h => by cases h) zeroS)
        rw [cvw_nil, show isTo (fun _ => zeros) zeroS 80 = true from (isTo_iff _ _ _).2 fun k _ => rfl] at HIS
        have HGT := Lib.hid (show w4.heap[sb]? = some (.cells (stC 80 zeroS) 95 (0, 0)) from H4.out.get (i := 5) rfl)
        clear h4
        go_wp2_with (first | refine loadS5 rfl _ rfl sb rfl zeroS HGT.out ?_)
        refine HIS.out.mono ?_
        clear HIS HGT H4
        rintro e w5 ⟨rfl, h5⟩
        have H5 := Lib.hid h5
        clear h5
        go_wp2_with fail
        refine (awake5_any H5.out).mono ?_
        rintro e w6 ⟨rfl, h6⟩
        have HF6 := Lib.hid h6.base
        clear h6
        go_wp2
        go_ret
        exact ⟨rfl, HF6.out⟩
end Go.Proofs.Ytkanfpmmgaipnaa
