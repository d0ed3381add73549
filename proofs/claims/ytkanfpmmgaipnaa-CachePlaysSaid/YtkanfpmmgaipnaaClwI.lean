/-
  CacheWhole: a transaction that is cut off is there wholly, or not at all.
-/
import Derived.Test.YtkanfpmmgaipnaaClwH
namespace Go.Proofs.Ytkanfpmmgaipnaa
set_option linter.unusedVariables false
open Go.ChangeMaps Go.MapKept Go.RowKit

/-- A device of which every crash leaves the one state or the other. -/
def Left5 (m : Nat) (D : DSt) (f g : Nat → Int) : Prop := D.Wf ∧ D.n = 325 ∧ D.ops ≤ 100 + 123 * m ∧ Safe D (fun C => ∃ s, Tells 325 1 m s C ∧ (isTo s f 80 = true ∨ isTo s g 80 = true))

/-- What holds behind i transactions. -/
def WRel (i : Nat) (dn : Bool) (J : JSt) (D : DSt) (f g : Nat → Int) : Prop :=
  D.ops ≤ 100 + 123 * i ∧ (dn = false → ∃ s, Live 325 1 i J D s ∧ isTo s f 80 = true) ∧ (dn = true → Left5 i D f g)

theorem isTo_zero5 : isTo (fun _ => zeros) zeroS 80 = true := (isTo_iff _ _ _).2 fun k _ => rfl

theorem tok_nil {s : Nat → Blk} {f : Nat → Int} (h : isTo s f 80 = true) : TOk [] s f := fun k hk => (isTo_iff _ _ _).1 h k hk

set_option maxHeartbeats 1000000 in
set_option maxRecDepth 100000 in
theorem cacheWhole_any (w : World) (v : Value) (cut : Int) (u : Value) (l : List (Int × Int × Int)) (picks : List Int) (hv : Trips w v l) (hk : ∀ p ∈ l, okI p.1 ∧ okI p.2.1 ∧ okI p.2.2) (hvp : Elems w u (picks.map IntK)) (hpk : ∀ p ∈ picks, okI p) :
    Calls Try.prog 27 #[v, .int .i64 cut, u] w fun e w' => e = .returned (.bool true) ∧ Frm NoB w w' := by
  obtain ⟨w1, hw1⟩ : ∃ w1, w = w1 := ⟨_, rfl⟩
  rw [hw1] at hv hvp ⊢
  clear hw1
  obtain ⟨a, cap, rfl, hcell⟩ := hv
  obtain ⟨b, cap2, rfl, hcell2⟩ := hvp
  rw [List.length_map]
  have HC := Lib.hid hcell
  have HP := Lib.hid hcell2
  have HOK := Lib.hid hk
  have HPK := Lib.hid hpk
  have hl0 : (0 : Int) ≤ ((l.length : Nat) : Int) := Int.natCast_nonneg _
  clear hcell hcell2 hk hpk
  go_enter Try.func27, Try.ntmps27
  by_cases h0 : (60 : Int) < ((l.length : Nat) : Int)
  · go_wp2_with fail
    refine (awake5_any (St.start w1)).mono ?_
    rintro e w5 ⟨rfl, h5⟩
    have HF5 := Lib.hid h5.base
    clear h5
    go_wp2
    go_ret
    exact ⟨rfl, HF5.out⟩
  by_cases h1 : (200 : Int) < ((picks.length : Nat) : Int)
  · go_wp2_with fail
    refine (awake5_any (St.start w1)).mono ?_
    rintro e w5 ⟨rfl, h5⟩
    have HF5 := Lib.hid h5.base
    clear h5
    go_wp2
    go_ret
    exact ⟨rfl, HF5.out⟩
  by_cases h2 : cut < 0
  · go_wp2_with fail
    refine (awake5_any (St.start w1)).mono ?_
    rintro e w5 ⟨rfl, h5⟩
    have HF5 := Lib.hid h5.base
    clear h5
    go_wp2
    go_ret
    exact ⟨rfl, HF5.out⟩
  by_cases h3 : 3000 < cut
  · go_wp2_with fail
    refine (awake5_any (St.start w1)).mono ?_
    rintro e w5 ⟨rfl, h5⟩
    have HF5 := Lib.hid h5.base
    clear h5
    go_wp2
    go_ret
    exact ⟨rfl, HF5.out⟩
  have hl60 : ((l.length : Nat) : Int) ≤ 60 := by omega
  have HON := Lib.hid (show okI cut from (okI_iff _).2 (by omega))
  have HF := Lib.hid (S_fresh5 (St.start w1))
  go_wp2_with fail
  refine HF.out.mono ?_
  clear HF h0 h2 h3
  rintro e w2 ⟨H, jh, J, D, cb, wb, rfl, h2, hl, hlim, hops⟩
  have HR1 : Hid (WRel 0 false J (D.cut cut) zeroS zeroS) := Lib.hid ⟨hops, fun _ => ⟨_, hl.cut cut, isTo_zero5⟩, fun h => by cases h⟩
  have HCT := Lib.hid (S_Cut h2 3 rfl cut HON.out)
  clear h2 hl hlim hops
  go_wp2_with fail
  refine HCT.out.mono ?_
  clear HCT
  rintro e w2 ⟨rfl, h2⟩
  have H3 := Lib.hid (show St w1 w2 (cst cb jh.jb false false wb :: wrt wb [] :: jrn H jh J :: dev H (D.cut cut) :: []) from h2)
  clear h2
  go_upto_region 8 with (refine allocRow rfl _ (stC 80 zeroS) zeroS5 rfl ?_)
  have H4 := Lib.hid ((H3.out.newArr (stC 80 zeroS) 95 neS5).newArr (stC 80 zeroS) 95 neS5)
  rw [size_alloc] at H4
  try rw [size_alloc]
  obtain ⟨w4, hw4⟩ : ∃ w4, w4 = (w2.alloc (.cells (stC 80 zeroS) 95 (0, 0))).alloc (.cells (stC 80 zeroS) 95 (0, 0)) := ⟨_, rfl⟩
  rw [← hw4] at H4 ⊢
  clear hw4 H3
  generalize w2.heap.size + 1 = tb at *
  generalize w2.heap.size = sb at *
  have H4 := Lib.hid (show St w1 w4 (cst cb jh.jb false false wb :: wrt wb [] :: jrn H jh J :: arr sb (stC 80 zeroS) 95 neS5 :: arr tb (stC 80 zeroS) 95 neS5 :: dev H (D.cut cut) :: []) from H4.out.perm ((List.perm_append_comm (l₁ := [_, _]) (l₂ := [_, _, _]) |>.append_right _).trans (List.Perm.cons _ (List.Perm.cons _ (List.Perm.cons _ (List.Perm.swap _ _ _))))))
  go_wp2_with fail
  go_loopw [12, 13] (fun t12 t13 wr => ∃ (i : Nat) (dn : Bool) (jh' : JHdl) (J' : JSt) (D' : DSt) (f g : Nat → Int), i ≤ l.length ∧ t12 = .bool dn ∧ t13 = .int .i64 i ∧ Hid (jh'.jb = jh.jb) ∧ St w1 wr (cst cb jh'.jb false false wb :: wrt wb [] :: jrn H jh' J' :: arr sb (stC 80 f) 95 neS5 :: arr tb (stC 80 g) 95 neS5 :: dev H D' :: []) ∧ Hid (WRel i dn J' D' f g)) (fun _ t _ => l.length - (intOf t).toNat)
  case atStart => exact ⟨0, false, jh, J, D.cut cut, zeroS, zeroS, Nat.zero_le _, rfl, rfl, Lib.hid rfl, H4.out, HR1⟩
  case round =>
    clear H4 HR1
    obtain ⟨i, dn, jh', J', D', f, g, hi, rfl, rfl, HJB, hst, HR⟩ := hrel
    have HST := Lib.hid hst
    clear hst
    have hi0 : (0 : Int) ≤ (i : Int) := Int.natCast_nonneg _
    have HI : Hid (i ≤ 61) := Lib.hid (by omega)
    cases dn with
    | true =>
      have HS := Lib.hid (show St w1 wr (arr sb (stC 80 f) 95 neS5 :: arr tb (stC 80 g) 95 neS5 :: dev H D' :: []) from HST.out.drop 3)
      have HLF := Lib.hid (HR.out.2.2 rfl)
      clear HST HR
      by_cases hi1 : (i : Int) < (l.length : Int)
      · have HE : Hid (Elems wr (.slice b picks.length cap2) (picks.map IntK)) := Lib.hid ((show Elems w1 (.slice b picks.length cap2) (picks.map IntK) from ⟨b, cap2, by rw [List.length_map], HP.out⟩).frm HS.out.base)
        have HCR := Lib.hid (S_Crash HS.out 2 rfl (by have := HLF.out.2.2.1; have := HI.out; omega) _ picks HE.out HPK.out (by omega))
        clear HE
        go_wp2_with fail
        refine HCR.out.mono ?_
        clear HCR HS
        rintro e wa ⟨Ha, rfl, ha⟩
        obtain ⟨q1, q2, q3, q4⟩ := HLF.out
        obtain ⟨s, hT, hto⟩ := q4 _ (img_crash D' picks)
        have HOP := Lib.hid (S_OpenL (show St w1 wa (dev Ha (D'.crash picks) :: arr sb (stC 80 f) 95 neS5 :: arr tb (stC 80 g) 95 neS5 :: dev H D' :: []) from ha) 0 rfl (DSt.crash_wf q1 picks) q2 (fun _ => rfl) hT (by omega) (by have := HI.out; omega) (by omega) (by show (0 : Nat) < 1000000000; omega) rfl)
        have HTO := Lib.hid hto
        clear ha HLF q1 q2 q3 q4 hT hto
        go_wp2_with fail
        refine HOP.out.mono ?_
        clear HOP
        rintro e wb2 ⟨jhb, Jb, Db, rfl, hb, hlb, hlimb, hopsb⟩
        have hb := (show St w1 wb2 (jrn Ha jhb Jb :: dev Ha Db :: arr sb (stC 80 f) 95 neS5 :: arr tb (stC 80 g) 95 neS5 :: dev H D' :: []) from hb)
        have HLB := Lib.hid hlb
        have HOB : Hid (Db.ops ≤ 61) := Lib.hid (by have h0 : (D'.crash picks).ops = 0 := rfl; omega)
        have HCN := Lib.hid (S_cNew hb jhb.jb)
        clear hb hlb hlimb hopsb
        go_wp2_with fail
        refine HCN.out.mono ?_
        clear HCN
        rintro e wc2 ⟨cx, wx, rfl, hc⟩
        have HB := Lib.hid hc
        clear hc
        have HGS := Lib.hid (show wc2.heap[sb]? = some (.cells (stC 80 f) 95 (0, 0)) from HB.out.get (i := 4) rfl)
        have HIS := Lib.hid (S_is5 HB.out 0 rfl HLB.out (by omega) (by have := HI.out; omega) (by have := HOB.out; omega) (fun _ h => by cases h) f)
        rw [cvw_nil] at HIS
        go_wp2_with (first | refine loadS5 rfl _ rfl sb rfl f HGS.out ?_)
        refine HIS.out.mono ?_
        clear HIS HB HGS
        rintro e wd ⟨rfl, hd⟩
        have HIN := Lib.hid hd
        clear hd
        cases hto1 : isTo s f 80 with
        | true =>
          clear hto1
          go_wp2_with fail
          refine (awake5_any HIN.out).mono ?_
          rintro e w5 ⟨rfl, h5⟩
          have HF5 := Lib.hid h5.base
          clear h5
          go_wp2
          go_ret
          exact ⟨rfl, HF5.out⟩
        | false =>
          have hto2 : isTo s g 80 = true := by
            rcases HTO.out with h | h
            · rw [hto1] at h; cases h
            · exact h
          have HGM := Lib.hid (show wd.heap[tb]? = some (.cells (stC 80 g) 95 (0, 0)) from HIN.out.get (i := 5) rfl)
          have HIS := Lib.hid (S_is5 HIN.out 0 rfl HLB.out (by omega) (by have := HI.out; omega) (by have := HOB.out; omega) (fun _ h => by cases h) g)
          rw [cvw_nil, hto2] at HIS
          clear hto1 hto2 HIN
          go_wp2_with (first | refine loadS5 rfl _ rfl tb rfl g HGM.out ?_)
          refine HIS.out.mono ?_
          clear HIS HGM
          rintro e we ⟨rfl, he⟩
          have HIN := Lib.hid he
          clear he
          go_wp2_with fail
          refine (awake5_any HIN.out).mono ?_
          rintro e w5 ⟨rfl, h5⟩
          have HF5 := Lib.hid h5.base
          clear h5
          go_wp2
          go_ret
          exact ⟨rfl, HF5.out⟩
      · have HE : Hid (Elems wr (.slice b picks.length cap2) (picks.map IntK)) := Lib.hid ((show Elems w1 (.slice b picks.length cap2) (picks.map IntK) from ⟨b, cap2, by rw [List.length_map], HP.out⟩).frm HS.out.base)
        have HCR := Lib.hid (S_Crash HS.out 2 rfl (by have := HLF.out.2.2.1; have := HI.out; omega) _ picks HE.out HPK.out (by omega))
        clear HE
        go_wp2_with fail
        refine HCR.out.mono ?_
        clear HCR HS
        rintro e wa ⟨Ha, rfl, ha⟩
        obtain ⟨q1, q2, q3, q4⟩ := HLF.out
        obtain ⟨s, hT, hto⟩ := q4 _ (img_crash D' picks)
        have HOP := Lib.hid (S_OpenL (show St w1 wa (dev Ha (D'.crash picks) :: arr sb (stC 80 f) 95 neS5 :: arr tb (stC 80 g) 95 neS5 :: dev H D' :: []) from ha) 0 rfl (DSt.crash_wf q1 picks) q2 (fun _ => rfl) hT (by omega) (by have := HI.out; omega) (by omega) (by show (0 : Nat) < 1000000000; omega) rfl)
        have HTO := Lib.hid hto
        clear ha HLF q1 q2 q3 q4 hT hto
        go_wp2_with fail
        refine HOP.out.mono ?_
        clear HOP
        rintro e wb2 ⟨jhb, Jb, Db, rfl, hb, hlb, hlimb, hopsb⟩
        have hb := (show St w1 wb2 (jrn Ha jhb Jb :: dev Ha Db :: arr sb (stC 80 f) 95 neS5 :: arr tb (stC 80 g) 95 neS5 :: dev H D' :: []) from hb)
        have HLB := Lib.hid hlb
        have HOB : Hid (Db.ops ≤ 61) := Lib.hid (by have h0 : (D'.crash picks).ops = 0 := rfl; omega)
        have HCN := Lib.hid (S_cNew hb jhb.jb)
        clear hb hlb hlimb hopsb
        go_wp2_with fail
        refine HCN.out.mono ?_
        clear HCN
        rintro e wc2 ⟨cx, wx, rfl, hc⟩
        have HB := Lib.hid hc
        clear hc
        have HGS := Lib.hid (show wc2.heap[sb]? = some (.cells (stC 80 f) 95 (0, 0)) from HB.out.get (i := 4) rfl)
        have HIS := Lib.hid (S_is5 HB.out 0 rfl HLB.out (by omega) (by have := HI.out; omega) (by have := HOB.out; omega) (fun _ h => by cases h) f)
        rw [cvw_nil] at HIS
        go_wp2_with (first | refine loadS5 rfl _ rfl sb rfl f HGS.out ?_)
        refine HIS.out.mono ?_
        clear HIS HB HGS
        rintro e wd ⟨rfl, hd⟩
        have HIN := Lib.hid hd
        clear hd
        cases hto1 : isTo s f 80 with
        | true =>
          clear hto1
          go_wp2_with fail
          refine (awake5_any HIN.out).mono ?_
          rintro e w5 ⟨rfl, h5⟩
          have HF5 := Lib.hid h5.base
          clear h5
          go_wp2
          go_ret
          exact ⟨rfl, HF5.out⟩
        | false =>
          have hto2 : isTo s g 80 = true := by
            rcases HTO.out with h | h
            · rw [hto1] at h; cases h
            · exact h
          have HGM := Lib.hid (show wd.heap[tb]? = some (.cells (stC 80 g) 95 (0, 0)) from HIN.out.get (i := 5) rfl)
          have HIS := Lib.hid (S_is5 HIN.out 0 rfl HLB.out (by omega) (by have := HI.out; omega) (by have := HOB.out; omega) (fun _ h => by cases h) g)
          rw [cvw_nil, hto2] at HIS
          clear hto1 hto2 HIN
          go_wp2_with (first | refine loadS5 rfl _ rfl tb rfl g HGM.out ?_)
          refine HIS.out.mono ?_
          clear HIS HGM
          rintro e we ⟨rfl, he⟩
          have HIN := Lib.hid he
          clear he
          go_wp2_with fail
          refine (awake5_any HIN.out).mono ?_
          rintro e w5 ⟨rfl, h5⟩
          have HF5 := Lib.hid h5.base
          clear h5
          go_wp2
          go_ret
          exact ⟨rfl, HF5.out⟩
    | false =>
      obtain ⟨s, hl1, hto⟩ := HR.out.2.1 rfl
      have HL := Lib.hid hl1
      have HT1 := Lib.hid hto
      have HO1 := Lib.hid HR.out.1
      clear hl1 hto HR
      by_cases hlt : i < l.length
      · have hi1 : (i : Int) < (l.length : Int) := by omega
        obtain ⟨p, hp⟩ : ∃ p, l[i]? = some p := ⟨_, List.getElem?_eq_getElem hlt⟩
        obtain ⟨gb, go, rfl, hgb, _, c1, c2⟩ := HC.out i p hp
        obtain ⟨p0, x, y⟩ := p
        have HC1 : Hid (∀ W rs', St w1 W rs' → W.cell? ⟨gb, go + i * 3 + 1, none⟩ = some (.int .i64 x)) := Lib.hid fun W rs' hW => (hW.base.cell hgb (fun e => e)).trans c1
        have HC2 : Hid (∀ W rs', St w1 W rs' → W.cell? ⟨gb, go + i * 3 + 2, none⟩ = some (.int .i64 y)) := Lib.hid fun W rs' hW => (hW.base.cell hgb (fun e => e)).trans c2
        have HOX := Lib.hid (HOK.out _ (List.mem_of_getElem? hp))
        clear c1 c2 hgb hp
        have HBG := Lib.hid (S_cBegin HST.out)
        clear HST
        go_wp2_with fail
        refine HBG.out.mono ?_
        clear HBG
        rintro e w2 ⟨rfl, h2⟩
        have H2 := Lib.hid (show St w1 w2 (cst cb jh'.jb true false wb :: wrt wb [] :: jrn H jh' J' :: arr sb (stC 80 f) 95 neS5 :: arr tb (stC 80 g) 95 neS5 :: dev H D' :: []) from h2)
        have HG2 := Lib.hid (show w2.heap[sb]? = some (.cells (stC 80 f) 95 (0, 0)) from H2.out.get (i := 3) rfl)
        have HGT := Lib.hid (show w2.heap[tb]? = some (.cells (stC 80 g) 95 (0, 0)) from H2.out.get (i := 4) rfl)
        have H3 := Lib.hid (show St w1 (w2.setRow tb (stC 80 f)) (cst cb jh'.jb true false wb :: wrt wb [] :: jrn H jh' J' :: arr sb (stC 80 f) 95 neS5 :: arr tb (stC 80 f) 95 neS5 :: dev H D' :: []) from H2.out.setRow 4 rfl (stC 80 f))
        clear h2 H2
        go_upto_region 15 with (first | refine loadS5 rfl _ rfl sb rfl f HG2.out ?_ | refine storeS5 rfl _ _ rfl tb f rfl rfl (stC 80 g) (stC_size _ _) HGT.out ?_)
        obtain ⟨w3, hw3⟩ : ∃ w3, w3 = w2.setRow tb (stC 80 f) := ⟨_, rfl⟩
        rw [← hw3] at H3 ⊢
        clear hw3 HG2 HGT
        go_wp2_with fail
        go_loopw [14] (fun t14 wr => ∃ (k : Nat) (wl : WrL) (g : Nat → Int), k ≤ 5 ∧ t14 = .int .i64 k ∧ Hid (COk 325 wl ∧ wl.length ≤ k ∧ TOk wl s g) ∧ St w1 wr (cst cb jh'.jb true false wb :: wrt wb wl :: jrn H jh' J' :: arr sb (stC 80 f) 95 neS5 :: arr tb (stC 80 g) 95 neS5 :: dev H D' :: [])) (fun t _ => 5 - (intOf t).toNat)
        case atStart => exact ⟨0, [], f, Nat.zero_le _, rfl, Lib.hid ⟨COk.nil 325, Nat.le_refl _, tok_nil HT1.out⟩, H3.out⟩
        case round =>
          clear H3
          obtain ⟨k, wl, g, hk5, rfl, HW, hst⟩ := hrel
          have HST := Lib.hid hst
          clear hst
          by_cases hkt : k < 5
          · have hk0 : (0 : Int) ≤ (k : Int) := Int.natCast_nonneg _
            have hk1 : (k : Int) < 5 := by omega
            obtain ⟨q, hq⟩ : ∃ q : Int, (k : Int) * (k : Int) = q := ⟨_, rfl⟩
            have hq0 : 0 ≤ q ∧ q ≤ 16 := by
              have : k = 0 ∨ k = 1 ∨ k = 2 ∨ k = 3 ∨ k = 4 := by omega
              rcases this with rfl | rfl | rfl | rfl | rfl <;> (rw [← hq]; decide)
            have hqw : wrap64 q = q := IntWalk.wrap64_in q (by omega)
            have c1 := HC1.out wr _ HST.out
            go_wp2_with fail
            refine (Round_any _ _ 80 (by first | exact wrap64_wf _ | (rw [IntKind.wrap_i64]; exact wrap64_wf _)) (by omega) (by omega)).mono ?_
            rintro e w2 ⟨rfl, rfl⟩
            have hv0 : 0 ≤ wrap64 (x + q) % 80 := Int.emod_nonneg _ (by omega)
            have hv1 : wrap64 (x + q) % 80 < 80 := Int.emod_lt_of_pos _ (by omega)
            obtain ⟨m, hm⟩ : ∃ m : Nat, wrap64 (x + q) % 80 = m := ⟨(wrap64 (x + q) % 80).toNat, by omega⟩
            rw [hm] at hv0 hv1 ⊢
            have HM : Hid (m < 80) := Lib.hid (by omega)
            clear hm c1 hq hqw hq0
            have c2 := HC2.out wr _ HST.out
            go_wp2_with fail
            refine (Round_any _ y 250 HOX.out.2.2 (by omega) (by omega)).mono ?_
            rintro e w2 ⟨rfl, rfl⟩
            have hy0 : 0 ≤ y % 250 := Int.emod_nonneg _ (by omega)
            have hy1 : y % 250 < 250 := Int.emod_lt_of_pos _ (by omega)
            generalize y % 250 = yv at *
            clear c2
            go_wp2_with fail
            refine (S_Block HST.out yv).mono ?_
            rintro e w3 ⟨u, rfl, h3⟩
            have H3 := Lib.hid (show St w1 w3 (cst cb jh'.jb true false wb :: wrt wb wl :: jrn H jh' J' :: byt u (blockOf yv) :: arr sb (stC 80 f) 95 neS5 :: arr tb (stC 80 g) 95 neS5 :: dev H D' :: []) from h3.perm (List.perm_append_comm (l₁ := [_]) (l₂ := [_, _, _]) |>.append_right _))
            clear h3 HST
            have HWR := Lib.hid (S_cWriteIn H3.out 3 0 rfl rfl (blockOf_length _) (HL.out.ok (by omega) (by have := HI.out; omega)) (by have := HO1.out; have := HI.out; omega) (245 + (m : Int)) (by omega) (by rw [HL.out.dn]; omega) (by rw [HL.out.dn]; decide) (by have := HW.out.1.few; omega) HW.out.1.b512)
            go_wp2_with fail
            refine HWR.out.mono ?_
            clear HWR
            rintro e w5 (⟨hroom, rfl, h5⟩ | ⟨hno, hful, _⟩)
            case inr =>
              exfalso
              have := HW.out.2.1
              omega
            have h5 := (show St w1 w5 (cst cb jh'.jb true false wb :: wrt wb (putW wl (245 + (m : Int)) (blockOf yv)) :: jrn H jh' J' :: arr sb (stC 80 f) 95 neS5 :: arr tb (stC 80 g) 95 neS5 :: dev H D' :: []) from h5.sub (List.Sublist.cons_cons _ (List.Sublist.cons_cons _ (List.Sublist.cons_cons _ (List.Sublist.cons _ (List.Sublist.refl _))))))
            have HW2 : Hid (COk 325 (putW wl (245 + (m : Int)) (blockOf yv)) ∧ (putW wl (245 + (m : Int)) (blockOf yv)).length ≤ k + 1 ∧ TOk (putW wl (245 + (m : Int)) (blockOf yv)) s (setF g m yv)) := Lib.hid ⟨HW.out.1.put _ _ (by omega) (blockOf_length _) hroom, by
              rw [put_length]
              have := HW.out.2.1
              split <;> omega, HW.out.2.2.put m HM.out yv⟩
            have ct : ∃ u, w5.cell? ⟨tb, m, none⟩ = some u := ⟨_, (h5.arrCell (i := 4) rfl m).trans (stC_get 80 g m HM.out)⟩
            obtain ⟨ut, ct⟩ := ct
            have ft : w5.frozen? ⟨tb, m, none⟩ = false := h5.arrFree (i := 4) rfl m
            have h7 := h5.setArr 4 rfl m (.int .i64 yv)
            rw [stC_setF 80 g m yv HM.out] at h7
            have H7 := Lib.hid (show St w1 (w5.setCell ⟨tb, m, none⟩ (.int .i64 yv)) (cst cb jh'.jb true false wb :: wrt wb (putW wl (245 + (m : Int)) (blockOf yv)) :: jrn H jh' J' :: arr sb (stC 80 f) 95 neS5 :: arr tb (stC 80 (setF g m yv)) 95 neS5 :: dev H D' :: []) from h7)
            clear h7 h5 H3 hroom
            go_wp2
            first | exact ⟨⟨k + 1, _, _, hkt, by go_num, HW2, H7.out⟩, by simp [intOf]; omega⟩ | (go_roundw; case rel => first | exact ⟨k + 1, _, _, hkt, by go_num, HW2, H7.out⟩ | ((repeat apply Exists.intro); exact ⟨⟨k + 1, _, _, hkt, by go_num, HW2, H7.out⟩, rfl⟩); case measure => simp [intOf]; omega)
          · have hk1 : ¬ (k : Int) < 5 := by omega
            have HCM := Lib.hid (S_cCommitC HST.out 2 rfl HL.out HW.out.1 (by omega) (by omega) (by have := HI.out; omega) (by omega) (by have := HO1.out; have := HI.out; omega))
            clear HST
            go_wp2_with fail
            refine HCM.out.mono ?_
            clear HCM
            rintro e w4 ⟨jh4, J4, D4, hjb, h4, hA, ⟨rfl, hl4⟩ | ⟨rfl, _⟩⟩
            · rw [← hjb] at h4
              have HJ6 : Hid (jh4.jb = jh.jb) := Lib.hid (hjb.trans HJB.out)
              have H6 := (show St w1 w4 (cst cb jh4.jb false false wb :: wrt wb [] :: jrn H jh4 J4 :: arr sb (stC 80 f) 95 neS5 :: arr tb (stC 80 g) 95 neS5 :: dev H D4 :: []) from h4)
              have HG2 := Lib.hid (show w4.heap[sb]? = some (.cells (stC 80 f) 95 (0, 0)) from H6.get (i := 3) rfl)
              have HGT := Lib.hid (show w4.heap[tb]? = some (.cells (stC 80 g) 95 (0, 0)) from H6.get (i := 4) rfl)
              have H7 := Lib.hid (show St w1 (w4.setRow sb (stC 80 g)) (cst cb jh4.jb false false wb :: wrt wb [] :: jrn H jh4 J4 :: arr sb (stC 80 g) 95 neS5 :: arr tb (stC 80 g) 95 neS5 :: dev H D4 :: []) from H6.setRow 3 rfl (stC 80 g))
              have HR7 : Hid (WRel (i + 1) false J4 D4 g g) := Lib.hid ⟨by have := HO1.out; have := hA.ops; omega, fun _ => ⟨_, hl4, HW.out.2.2.isTo⟩, fun h => by cases h⟩
              clear h4 hjb hA hl4 H6
              go_wp2_with (first | refine loadS5 rfl _ rfl tb rfl g HGT.out ?_ | refine storeS5 rfl _ _ rfl sb g rfl rfl (stC 80 f) (stC_size _ _) HG2.out ?_)
              first | exact ⟨⟨i + 1, false, jh4, J4, D4, g, g, hlt, rfl, by go_num, HJ6, H7.out, HR7⟩, by simp [intOf]; omega⟩ | (go_roundw; case rel => first | exact ⟨i + 1, false, jh4, J4, D4, g, g, hlt, rfl, by go_num, HJ6, H7.out, HR7⟩ | ((repeat apply Exists.intro); exact ⟨⟨i + 1, false, jh4, J4, D4, g, g, hlt, rfl, by go_num, HJ6, H7.out, HR7⟩, rfl⟩); case measure => simp [intOf]; omega)
            · rw [← hjb] at h4
              have HJ6 : Hid (jh4.jb = jh.jb) := Lib.hid (hjb.trans HJB.out)
              have H6 := Lib.hid (show St w1 w4 (cst cb jh4.jb false false wb :: wrt wb [] :: jrn H jh4 J4 :: arr sb (stC 80 f) 95 neS5 :: arr tb (stC 80 g) 95 neS5 :: dev H D4 :: []) from h4)
              have HR7 : Hid (WRel (i + 1) true J4 D4 f g) := Lib.hid ⟨by have := HO1.out; have := hA.ops; omega, (fun h => by cases h), fun _ => ⟨hA.wf, hA.dn, by have := HO1.out; have := hA.ops; omega, hA.safe.mono fun C hC => by
                rcases hC with hC | hC
                · exact ⟨_, hC, .inl HT1.out⟩
                · exact ⟨_, hC, .inr HW.out.2.2.isTo⟩⟩⟩
              clear h4 hjb hA
              go_wp2
              first | exact ⟨⟨i + 1, true, jh4, J4, D4, f, g, hlt, rfl, by go_num, HJ6, H6.out, HR7⟩, by simp [intOf]; omega⟩ | (go_roundw; case rel => first | exact ⟨i + 1, true, jh4, J4, D4, f, g, hlt, rfl, by go_num, HJ6, H6.out, HR7⟩ | ((repeat apply Exists.intro); exact ⟨⟨i + 1, true, jh4, J4, D4, f, g, hlt, rfl, by go_num, HJ6, H6.out, HR7⟩, rfl⟩); case measure => simp [intOf]; omega)
      · have hi1 : ¬ (i : Int) < (l.length : Int) := by omega
        have hS := (show St w1 wr (arr sb (stC 80 f) 95 neS5 :: arr tb (stC 80 g) 95 neS5 :: dev H D' :: []) from HST.out.drop 3)
        have HG2 := Lib.hid (show wr.heap[sb]? = some (.cells (stC 80 f) 95 (0, 0)) from hS.get (i := 0) rfl)
        have HGT := Lib.hid (show wr.heap[tb]? = some (.cells (stC 80 g) 95 (0, 0)) from hS.get (i := 1) rfl)
        have HS := Lib.hid (show St w1 (wr.setRow tb (stC 80 f)) (arr sb (stC 80 f) 95 neS5 :: arr tb (stC 80 f) 95 neS5 :: dev H D' :: []) from hS.setRow 1 rfl (stC 80 f))
        have HLF : Hid (Left5 i D' f f) := Lib.hid ⟨HL.out.wf, HL.out.dn, HO1.out, Safe.clean HL.out.clean ⟨s, HL.out.tells, .inl HT1.out⟩⟩
        clear hS HST HL HT1 HO1
        go_upto_region 29 with (first | refine loadS5 rfl _ rfl sb rfl f HG2.out ?_ | refine storeS5 rfl _ _ rfl tb f rfl rfl (stC 80 g) (stC_size _ _) HGT.out ?_)
        obtain ⟨w3, hw3⟩ : ∃ w3, w3 = wr.setRow tb (stC 80 f) := ⟨_, rfl⟩
        rw [← hw3] at HS ⊢
        clear hw3 HG2 HGT s
        have HE : Hid (Elems w3 (.slice b picks.length cap2) (picks.map IntK)) := Lib.hid ((show Elems w1 (.slice b picks.length cap2) (picks.map IntK) from ⟨b, cap2, by rw [List.length_map], HP.out⟩).frm HS.out.base)
        have HCR := Lib.hid (S_Crash HS.out 2 rfl (by have := HLF.out.2.2.1; have := HI.out; omega) _ picks HE.out HPK.out (by omega))
        clear HE
        go_wp2_with fail
        refine HCR.out.mono ?_
        clear HCR HS
        rintro e wa ⟨Ha, rfl, ha⟩
        obtain ⟨q1, q2, q3, q4⟩ := HLF.out
        obtain ⟨s, hT, hto⟩ := q4 _ (img_crash D' picks)
        have HOP := Lib.hid (S_OpenL (show St w1 wa (dev Ha (D'.crash picks) :: arr sb (stC 80 f) 95 neS5 :: arr tb (stC 80 f) 95 neS5 :: dev H D' :: []) from ha) 0 rfl (DSt.crash_wf q1 picks) q2 (fun _ => rfl) hT (by omega) (by have := HI.out; omega) (by omega) (by show (0 : Nat) < 1000000000; omega) rfl)
        have HTO := Lib.hid hto
        clear ha HLF q1 q2 q3 q4 hT hto
        go_wp2_with fail
        refine HOP.out.mono ?_
        clear HOP
        rintro e wb2 ⟨jhb, Jb, Db, rfl, hb, hlb, hlimb, hopsb⟩
        have hb := (show St w1 wb2 (jrn Ha jhb Jb :: dev Ha Db :: arr sb (stC 80 f) 95 neS5 :: arr tb (stC 80 f) 95 neS5 :: dev H D' :: []) from hb)
        have HLB := Lib.hid hlb
        have HOB : Hid (Db.ops ≤ 61) := Lib.hid (by have h0 : (D'.crash picks).ops = 0 := rfl; omega)
        have HCN := Lib.hid (S_cNew hb jhb.jb)
        clear hb hlb hlimb hopsb
        go_wp2_with fail
        refine HCN.out.mono ?_
        clear HCN
        rintro e wc2 ⟨cx, wx, rfl, hc⟩
        have HB := Lib.hid hc
        clear hc
        have HGS := Lib.hid (show wc2.heap[sb]? = some (.cells (stC 80 f) 95 (0, 0)) from HB.out.get (i := 4) rfl)
        have HIS := Lib.hid (S_is5 HB.out 0 rfl HLB.out (by omega) (by have := HI.out; omega) (by have := HOB.out; omega) (fun _ h => by cases h) f)
        rw [cvw_nil] at HIS
        go_wp2_with (first | refine loadS5 rfl _ rfl sb rfl f HGS.out ?_)
        refine HIS.out.mono ?_
        clear HIS HB HGS
        rintro e wd ⟨rfl, hd⟩
        have HIN := Lib.hid hd
        clear hd
        cases hto1 : isTo s f 80 with
        | true =>
          clear hto1
          go_wp2_with fail
          refine (awake5_any HIN.out).mono ?_
          rintro e w5 ⟨rfl, h5⟩
          have HF5 := Lib.hid h5.base
          clear h5
          go_wp2
          go_ret
          exact ⟨rfl, HF5.out⟩
        | false =>
          have hto2 : isTo s f 80 = true := by
            rcases HTO.out with h | h
            · rw [hto1] at h; cases h
            · exact h
          have HGM := Lib.hid (show wd.heap[tb]? = some (.cells (stC 80 f) 95 (0, 0)) from HIN.out.get (i := 5) rfl)
          have HIS := Lib.hid (S_is5 HIN.out 0 rfl HLB.out (by omega) (by have := HI.out; omega) (by have := HOB.out; omega) (fun _ h => by cases h) f)
          rw [cvw_nil, hto2] at HIS
          clear hto1 hto2 HIN
          go_wp2_with (first | refine loadS5 rfl _ rfl tb rfl f HGM.out ?_)
          refine HIS.out.mono ?_
          clear HIS HGM
          rintro e we ⟨rfl, he⟩
          have HIN := Lib.hid he
          clear he
          go_wp2_with fail
          refine (awake5_any HIN.out).mono ?_
          rintro e w5 ⟨rfl, h5⟩
          have HF5 := Lib.hid h5.base
          clear h5
          go_wp2
          go_ret
          exact ⟨rfl, HF5.out⟩
end Go.Proofs.Ytkanfpmmgaipnaa
