/-
  CacheCounts: Dirty counts each block once.
-/
import Derived.Test.YtkanfpmmgaipnaaClwE
namespace Go.Proofs.Ytkanfpmmgaipnaa
set_option linter.unusedVariables false
open Go.ChangeMaps Go.MapKept Go.RowKit

/-- The homes that were met are those that were written. -/
def MetOk (wl : WrL) (g : Nat → Bool) : Prop := ∀ k, k < 80 → g k = (look wl (245 + (k : Int))).isSome

theorem MetOk.put {wl : WrL} {g : Nat → Bool} (h : MetOk wl g) (m : Nat) (hm : m < 80) (b : Blk) : MetOk (putW wl (245 + (m : Int)) b) (setF g m true) := fun k hk => by
  unfold setF
  by_cases e : k = m
  · subst e; rw [if_pos rfl, look_put_same]; rfl
  · rw [if_neg e, look_put_other _ _ (by omega), h k hk]

theorem MetOk.same {wl : WrL} {g : Nat → Bool} (h : MetOk wl g) (m : Nat) (hm : m < 80) (hg : g m = true) (b : Blk) : MetOk (putW wl (245 + (m : Int)) b) g := fun k hk => by
  by_cases e : k = m
  · subst e; rw [look_put_same, hg]; rfl
  · rw [look_put_other _ _ (by omega), h k hk]

set_option maxHeartbeats 1000000 in
set_option maxRecDepth 100000 in
theorem cacheCounts_any (w : World) (v : Value) (l : List Int) (hv : Elems w v (l.map IntK)) (hk : ∀ x ∈ l, okI x) :
    Calls Try.prog 26 #[v] w fun e w' => e = .returned (.bool true) ∧ Frm NoB w w' := by
  obtain ⟨w1, hw1⟩ : ∃ w1, w = w1 := ⟨_, rfl⟩
  rw [hw1] at hv ⊢
  clear hw1
  obtain ⟨a, cap, rfl, hcell⟩ := hv
  rw [List.length_map]
  have HC := Lib.hid hcell
  have HOK := Lib.hid hk
  have hl0 : (0 : Int) ≤ ((l.length : Nat) : Int) := Int.natCast_nonneg _
  clear hcell hk
  go_enter Try.func26, Try.ntmps26
  by_cases hg : (100 : Int) < ((l.length : Nat) : Int)
  · go_wp2_with fail
    refine (awake5_any (St.start w1)).mono ?_
    rintro e w5 ⟨rfl, h5⟩
    have HF5 := Lib.hid h5.base
    clear h5
    go_wp2
    go_ret
    exact ⟨rfl, HF5.out⟩
  have hl100 : ((l.length : Nat) : Int) ≤ 100 := by omega
  have HF := Lib.hid (S_fresh5 (St.start w1))
  go_wp2_with fail
  refine HF.out.mono ?_
  clear HF hg
  rintro e w2 ⟨H, jh, J, D, cb, wb, rfl, h2, hl, hlim, hops⟩
  have H2 := Lib.hid h2
  have HL := Lib.hid hl
  have HLI := Lib.hid hlim
  have HOP := Lib.hid hops
  clear h2 hl hlim hops
  go_wp2_with fail
  refine (S_cDirty H2.out).mono ?_
  rintro e w3 ⟨rfl, rfl⟩
  rw [show ((([] : WrL).length : Nat) : Int) = 0 from rfl]
  go_wp2_with fail
  refine (S_cBegin H2.out).mono ?_
  rintro e w3 ⟨rfl, h3⟩
  have H3 := Lib.hid (show St w1 w3 (cst cb jh.jb true false wb :: wrt wb [] :: jrn H jh J :: dev H D :: []) from h3)
  clear h3 H2
  go_upto_region 8 with (refine allocRow rfl _ (bC 80 fun _ => false) zeroB5 rfl ?_)
  have H4 := Lib.hid (H3.out.newArr (bC 80 fun _ => false) 104 neB5)
  obtain ⟨w4, hw4⟩ : ∃ w4, w4 = w3.alloc (.cells (bC 80 fun _ => false) 104 (0, 0)) := ⟨_, rfl⟩
  rw [← hw4] at H4 ⊢
  clear hw4 H3
  generalize w3.heap.size = mb at *
  have H4 := Lib.hid (show St w1 w4 (cst cb jh.jb true false wb :: wrt wb [] :: jrn H jh J :: arr mb (bC 80 fun _ => false) 104 neB5 :: dev H D :: []) from H4.out.perm (List.perm_append_comm (l₁ := [_]) (l₂ := [_, _, _]) |>.append_right _))
  go_wp2_with fail
  go_loopw [7, 8] (fun t7 t8 wr => ∃ (i : Nat) (wl : WrL) (g : Nat → Bool) (ov : Bool), i ≤ l.length ∧ t7 = .int .i64 (wl.length : Nat) ∧ t8 = .int .i64 i ∧ Hid (COk 325 wl ∧ MetOk wl g) ∧ St w1 wr (cst cb jh.jb true ov wb :: wrt wb wl :: jrn H jh J :: arr mb (bC 80 g) 104 neB5 :: dev H D :: [])) (fun _ t _ => l.length - (intOf t).toNat)
  case atStart => exact ⟨0, [], _, _, Nat.zero_le _, rfl, rfl, Lib.hid ⟨COk.nil 325, fun k hk => rfl⟩, H4.out⟩
  case round =>
    clear H4
    obtain ⟨i, wl, g, ov, hi, rfl, rfl, HR, hst⟩ := hrel
    have HST := Lib.hid hst
    clear hst
    by_cases hlt : i < l.length
    · have hi0 : (0 : Int) ≤ (i : Int) := Int.natCast_nonneg _
      have hi1 : (i : Int) < (l.length : Int) := by omega
      obtain ⟨x, hx⟩ : ∃ x, l[i]? = some x := ⟨_, List.getElem?_eq_getElem hlt⟩
      obtain ⟨gb, go, rfl, hgb, c1⟩ := HC.out i (IntK x) (by rw [List.getElem?_map, hx]; rfl)
      have c1' : wr.cell? ⟨gb, go + i, none⟩ = some (.int .i64 x) := (HST.out.base.cell hgb (fun e => e)).trans c1
      have HOX := Lib.hid (HOK.out x (List.mem_of_getElem? hx))
      clear c1 hgb hx
      go_wp2_with fail
      refine (Round_any _ x 80 HOX.out (by omega) (by omega)).mono ?_
      rintro e w2 ⟨rfl, rfl⟩
      clear c1'
      obtain ⟨m, hm⟩ : ∃ m : Nat, x % 80 = m := ⟨(x % 80).toNat, by omega⟩
      rw [hm]
      have hm0 : (0 : Int) ≤ (m : Int) := Int.natCast_nonneg _
      have hm1 : (m : Int) < 80 := by omega
      have HM : Hid (m < 80) := Lib.hid (by omega)
      clear hm
      go_wp2_with fail
      refine (S_Block HST.out (i : Int)).mono ?_
      rintro e w3 ⟨u, rfl, h3⟩
      have H3 := Lib.hid (show St w1 w3 (cst cb jh.jb true ov wb :: wrt wb wl :: jrn H jh J :: byt u (blockOf (i : Int)) :: arr mb (bC 80 g) 104 neB5 :: dev H D :: []) from h3.perm (List.perm_append_comm (l₁ := [_]) (l₂ := [_, _, _]) |>.append_right _))
      clear h3 HST
      have HW := Lib.hid (S_cWriteIn H3.out 2 0 rfl rfl (blockOf_length _) (HL.out.ok (by omega) (by omega)) (by have := HOP.out; omega) (245 + (m : Int)) (by omega) (by rw [HL.out.dn]; omega) (by rw [HL.out.dn]; decide) (by have := HR.out.1.few; omega) HR.out.1.b512)
      obtain ⟨N, hN⟩ : ∃ N, wl.length = N := ⟨_, rfl⟩
      have HNN := Lib.hid hN
      rw [hN]
      have hN0 : (0 : Int) ≤ (N : Int) := Int.natCast_nonneg _
      have hN1 : (N : Int) ≤ 60 := by have := HR.out.1.few; omega
      obtain ⟨gm, hgm⟩ : ∃ gm, g m = gm := ⟨_, rfl⟩
      have HGM := Lib.hid hgm
      clear hN hgm H3
      go_wp2_with fail
      refine HW.out.mono ?_
      clear HW
      rintro e w5 (⟨hroom, rfl, h5⟩ | ⟨hno, hfull, rfl, h5⟩)
      · have H5 := Lib.hid (show St w1 w5 (cst cb jh.jb true ov wb :: wrt wb (putW wl (245 + (m : Int)) (blockOf (i : Int))) :: jrn H jh J :: arr mb (bC 80 g) 104 neB5 :: dev H D :: []) from h5.sub (List.Sublist.cons_cons _ (List.Sublist.cons_cons _ (List.Sublist.cons_cons _ (List.Sublist.cons _ (List.Sublist.refl _))))))
        have HCO := Lib.hid (HR.out.1.put (245 + (m : Int)) (blockOf (i : Int)) (by omega) (blockOf_length _) hroom)
        have cm : w5.cell? ⟨mb, m, none⟩ = some (.bool gm) := by
          rw [← HGM.out]
          exact (h5.arrCell (i := 4) rfl m).trans (bC_get 80 g m HM.out)
        have HRM := Lib.hid hroom
        clear h5 hroom
        cases gm with
        | true =>
          have HSM : Hid ((look wl (245 + (m : Int))).isSome = true) := Lib.hid (by rw [← HR.out.2 m HM.out, HGM.out])
          have HPL : Hid ((putW wl (245 + (m : Int)) (blockOf (i : Int))).length = N) := Lib.hid (by rw [put_length, if_pos HSM.out, HNN.out])
          have HM2 := Lib.hid (And.intro HCO.out (HR.out.2.same m HM.out HGM.out (blockOf (i : Int))))
          go_wp2_with fail
          refine (S_cDirty H5.out).mono ?_
          rintro e w6 ⟨rfl, rfl⟩
          rw [HPL.out]
          clear cm
          go_wp2
          first | exact ⟨⟨i + 1, _, _, _, hlt, by rw [HPL.out], by go_num, HM2, H5.out⟩, by simp [intOf]; omega⟩ | (go_roundw; case rel => first | exact ⟨i + 1, _, _, _, hlt, by rw [HPL.out], by go_num, HM2, H5.out⟩ | ((repeat apply Exists.intro); exact ⟨⟨i + 1, _, _, _, hlt, by rw [HPL.out], by go_num, HM2, H5.out⟩, rfl⟩); case measure => simp [intOf]; omega)
        | false =>
          have HSM : Hid (¬ (look wl (245 + (m : Int))).isSome = true) := Lib.hid (by rw [← HR.out.2 m HM.out, HGM.out]; simp)
          have HPL : Hid ((putW wl (245 + (m : Int)) (blockOf (i : Int))).length = N + 1) := Lib.hid (by rw [put_length, if_neg HSM.out, HNN.out])
          have hN60 : (N : Int) < 60 := by
            rcases HRM.out with h | h
            · exact absurd h HSM.out
            · have := HNN.out; omega
          have HM2 := Lib.hid (And.intro HCO.out (HR.out.2.put m HM.out (blockOf (i : Int))))
          have fm : w5.frozen? ⟨mb, m, none⟩ = false := H5.out.arrFree (i := 3) rfl m
          have h6 := H5.out.setArr 3 rfl m (.bool true)
          rw [bC_set 80 g m true HM.out] at h6
          have H6 := Lib.hid (show St w1 (w5.setCell ⟨mb, m, none⟩ (.bool true)) (cst cb jh.jb true ov wb :: wrt wb (putW wl (245 + (m : Int)) (blockOf (i : Int))) :: jrn H jh J :: arr mb (bC 80 (setF g m true)) 104 neB5 :: dev H D :: []) from h6)
          have hq : (((N + 1 : Nat) : Int) != (N : Int) + 1) = false := by rw [bne_eq_false_iff_eq]; omega
          clear h6 H5
          go_wp2_with fail
          refine (S_cDirty H6.out).mono ?_
          rintro e w6 ⟨rfl, rfl⟩
          rw [HPL.out]
          clear cm fm
          go_wp2
          first | exact ⟨⟨i + 1, _, _, _, hlt, by rw [HPL.out]; go_num, by go_num, HM2, H6.out⟩, by simp [intOf]; omega⟩ | (go_roundw; case rel => first | exact ⟨i + 1, _, _, _, hlt, by rw [HPL.out]; go_num, by go_num, HM2, H6.out⟩ | ((repeat apply Exists.intro); exact ⟨⟨i + 1, _, _, _, hlt, by rw [HPL.out]; go_num, by go_num, HM2, H6.out⟩, rfl⟩); case measure => simp [intOf]; omega)
      · have H5 := Lib.hid (show St w1 w5 (cst cb jh.jb true true wb :: wrt wb wl :: jrn H jh J :: arr mb (bC 80 g) 104 neB5 :: dev H D :: []) from h5.sub (List.Sublist.cons_cons _ (List.Sublist.cons_cons _ (List.Sublist.cons_cons _ (List.Sublist.cons _ (List.Sublist.refl _))))))
        have hgf : gm = false := by rw [← HGM.out, HR.out.2 m HM.out, hno]; rfl
        subst hgf
        have cm : w5.cell? ⟨mb, m, none⟩ = some (.bool false) := by
          rw [← HGM.out]
          exact (h5.arrCell (i := 4) rfl m).trans (bC_get 80 g m HM.out)
        have hN60 : ¬ (N : Int) < 60 := by have := HNN.out; omega
        clear h5 hno hfull
        go_wp2_with fail
        refine (S_cDirty H5.out).mono ?_
        rintro e w6 ⟨rfl, rfl⟩
        rw [HNN.out]
        clear cm
        go_wp2
        first | exact ⟨⟨i + 1, wl, g, _, hlt, by rw [HNN.out], by go_num, HR, H5.out⟩, by simp [intOf]; omega⟩ | (go_roundw; case rel => first | exact ⟨i + 1, wl, g, _, hlt, by rw [HNN.out], by go_num, HR, H5.out⟩ | ((repeat apply Exists.intro); exact ⟨⟨i + 1, wl, g, _, hlt, by rw [HNN.out], by go_num, HR, H5.out⟩, rfl⟩); case measure => simp [intOf]; omega)
    · have hi1 : ¬ (i : Int) < (l.length : Int) := by omega
      have HCM := Lib.hid (S_cCommitL HST.out 1 rfl HL.out HR.out.1 (by omega) (by omega) (by omega) (by omega) (by have := HOP.out; omega) HLI.out)
      clear HST
      go_wp2_with fail
      refine HCM.out.mono ?_
      clear HCM
      rintro e w4 ⟨jh4, J4, D4, hjb, rfl, h4, _, _, _⟩
      rw [← hjb] at h4
      have H4 := Lib.hid h4
      clear h4 hjb
      go_wp2_with fail
      refine (S_cDirty H4.out).mono ?_
      rintro e w5 ⟨rfl, rfl⟩
      rw [show ((([] : WrL).length : Nat) : Int) = 0 from rfl]
      go_wp2_with fail
      refine (S_cOpen H4.out).mono ?_
      rintro e w5 ⟨rfl, rfl⟩
      go_wp2_with fail
      refine (awake5_any H4.out).mono ?_
      rintro e w5 ⟨rfl, h5⟩
      have HF5 := Lib.hid h5.base
      clear h5
      go_wp2
      go_ret
      exact ⟨rfl, HF5.out⟩
end Go.Proofs.Ytkanfpmmgaipnaa
