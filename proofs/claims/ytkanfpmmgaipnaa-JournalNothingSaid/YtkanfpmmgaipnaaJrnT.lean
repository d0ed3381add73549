/-
  commit: the journal's commit of changes, of which there may be none.
-/
import Derived.Test.YtkanfpmmgaipnaaJrnR
import Derived.Deep.RegionLaw
namespace Go.Proofs.Ytkanfpmmgaipnaa
set_option linter.unusedVariables false
open Go.ChangeMaps Go.MapKept Go.RowKit

/-- The journal behind a commit. -/
def JSt.did (J : JSt) (ks : List Nat) (ds : List Blk) : JSt := ⟨J.gen, J.last + 1, false, ks, ds⟩
def JSt.died (J : JSt) : JSt := ⟨J.gen, J.last, true, J.order, J.data⟩

/-- What a commit answers and leaves. -/
def CommitRet (w0 : World) (rs : List Res) (a : Nat) (H : Hdl) (jb : Nat) (J : JSt) (D : DSt) (ks : List Nat) (ds : List Blk) (e : Ending) (w' : World) : Prop :=
  (endD (writeOps J.gen J.last J.order J.data ks ds) D = 0 ∧ e = .returned (.int .i64 0) ∧ ∃ jh' : JHdl, jh'.jb = jb ∧ St w0 w' (jrn H jh' (J.did ks ds) :: rs.set a (dev H (runD (writeOps J.gen J.last J.order J.data ks ds) D)))) ∨
  (endD (writeOps J.gen J.last J.order J.data ks ds) D = 9 ∧ e = .returned (.int .i64 9) ∧ ∃ jh' : JHdl, jh'.jb = jb ∧ St w0 w' (jrn H jh' J.died :: rs.set a (dev H (runD (writeOps J.gen J.last J.order J.data ks ds) D))))

/-- What the journal in memory is, that may go on. -/
structure JOk (n : Nat) (J : JSt) : Prop where
  len : J.data.length = J.order.length
  few : J.order.length ≤ 60
  home : ∀ k ∈ J.order, k < n
  b512 : ∀ b ∈ J.data, b.length = 512
  last : J.last + 1 < 18446744073709551616
  gen : J.gen < 18446744073709551616

set_option maxHeartbeats 1000000 in
set_option maxRecDepth 100000 in
theorem S_commit {w0 w : World} {rs : List Res} {H : Hdl} {jh : JHdl} {J : JSt} (h : St w0 w (jrn H jh J :: rs)) (a iv : Nat) {D : DSt} (hr : rs[a]? = some (dev H D)) {v : Value} {ks : List Nat} {vs : List Value} {ds : List Blk} (hl : rs[iv]? = some (chgs v (ks.map fun k : Nat => (k : Int)) vs ds))
    (hJ : JOk D.n J) (hdead : J.dead = false) (hmay : MayL D.n ks ds) (hd512 : ∀ d ∈ ds, d.length = 512) (hD : 246 ≤ D.n) (hn : D.n ≤ 65536) (ho : D.ops < 1000000000) (q : iv ≠ a) :
    Calls Try.prog 86 #[.pointer (some ⟨jh.jb, 0, none⟩), v] w (CommitRet w0 rs a H jh.jb J D ks ds) := by
  obtain ⟨g, last, dead, om, dm⟩ := J
  obtain ⟨jb, ov, mb⟩ := jh
  obtain rfl : dead = false := hdead
  have h1 : St w0 w (arr jb #[.pointer (some ⟨H.b, 0, none⟩), .int .u64 g, .int .u64 last, .bool false, ov, .map (some mb)] 138 neJrn :: rowI ov om :: chg mb (last % 4) dm :: rs) := h.jOpen
  clear h
  have HWR := Lib.hid (S_write h1 (a + 3) 0 (iv + 3) 1 2 hr rfl rfl rfl rfl rfl rfl rfl rfl hl hmay hd512 hJ.len hJ.few hJ.home hJ.b512 hJ.last hJ.gen hD hn ho (by omega) (by omega) (by omega) (by omega))
  have c0 : w.cell? ⟨jb, 0, none⟩ = some (.pointer (some ⟨H.b, 0, none⟩)) := (h1.arrCell (i := 0) rfl 0).trans rfl
  have c3 : w.cell? ⟨jb, 3, none⟩ = some (.bool false) := (h1.arrCell (i := 0) rfl 3).trans rfl
  obtain ⟨va, vc, rfl⟩ := h1.chgsLen (i := iv + 3) hl
  rw [List.length_map] at hl HWR
  rw [List.length_map]
  have hkl : ((ks.length : Nat) : Int) ≤ 60 := by have := hmay.few; omega
  have HL : Hid (∀ X, (rs.set a X)[iv]? = some (chgs (.slice va ks.length vc) (ks.map fun k : Nat => (k : Int)) vs ds)) := Lib.hid fun X => by rw [List.getElem?_set_ne (Ne.symm q)]; exact hl
  have HDL := Lib.hid hmay.len
  have H512 := Lib.hid hd512
  have HLA := Lib.hid hJ.last
  obtain ⟨D2, hD2⟩ : ∃ D2, runD (writeOps g last om dm ks ds) D = D2 := ⟨_, rfl⟩
  have HD2 := Lib.hid hD2
  obtain ⟨rs2, hrs2⟩ : ∃ rs2, rs.set a (dev H D2) = rs2 := ⟨_, rfl⟩
  have HRS := Lib.hid hrs2
  have HW2 : Hid (Calls Try.prog 106 #[.pointer (some ⟨jb, 0, none⟩), .slice va ks.length vc] w fun e w' => e = .returned (.int .i64 (endD (writeOps g last om dm ks ds) D)) ∧ St w0 w' (arr jb #[.pointer (some ⟨H.b, 0, none⟩), .int .u64 g, .int .u64 last, .bool false, ov, .map (some mb)] 138 neJrn :: rowI ov om :: chg mb (last % 4) dm :: rs2)) := Lib.hid (HWR.out.mono fun e w' hx => ⟨hx.1, by
      have := hx.2
      simp only [List.set_cons_succ] at this
      rw [hD2, hrs2] at this
      exact this⟩)
  have HL2 : Hid (rs2[iv]? = some (chgs (.slice va ks.length vc) (ks.map fun k : Nat => (k : Int)) vs ds)) := Lib.hid (hrs2 ▸ HL.out _)
  clear h1 hr hl hJ hmay hd512 hD hn ho q HWR HL hD2 hrs2
  go_enter Try.func86, Try.ntmps86
  go_wp2_with fail
  refine HW2.out.mono ?_
  clear HW2 c0 c3
  rintro e w2 ⟨he, h2⟩
  have H2 := Lib.hid h2
  clear h2
  rcases endD_cases (writeOps g last om dm ks ds) D with e0 | e9
  · rw [e0] at he
    subst he
    have HE := Lib.hid e0
    clear e0
    have c2 : w2.cell? ⟨jb, 2, none⟩ = some (.int .u64 last) := (H2.out.arrCell (i := 0) rfl 2).trans rfl
    have c4 : w2.cell? ⟨jb, 4, none⟩ = some ov := (H2.out.arrCell (i := 0) rfl 4).trans rfl
    have c5 : w2.cell? ⟨jb, 5, none⟩ = some (.map (some mb)) := (H2.out.arrCell (i := 0) rfl 5).trans rfl
    have f2 : w2.frozen? ⟨jb, 2, none⟩ = false := H2.out.arrFree (i := 0) rfl 2
    have f4 : w2.frozen? ⟨jb, 4, none⟩ = false := H2.out.arrFree (i := 0) rfl 4
    have f5 : w2.frozen? ⟨jb, 5, none⟩ = false := H2.out.arrFree (i := 0) rfl 5
    have hjl : jb < w2.heap.size := lt_of_block (H2.out.get (i := 0) rfl)
    have hmk := mapMade
    obtain ⟨n, hnn⟩ : ∃ n, last + 1 = n := ⟨_, rfl⟩
    have hla0 : (0 : Int) ≤ (last : Int) := Int.natCast_nonneg _
    have hwn : IntKind.u64.wrap ((last : Int) + 1) = (n : Int) := by have := HLA.out; rw [u64_in (by omega) (by omega)]; omega
    have hn64 : n < 18446744073709551616 := by have := HLA.out; omega
    have HNN := Lib.hid hnn
    have HN64 := Lib.hid hn64
    have H3 : Hid (St w0 ((((w2.setCell ⟨jb, 2, none⟩ (.int .u64 n)).setCell ⟨jb, 4, none⟩ (.slice none 0 0)).setCell ⟨jb, 5, none⟩ (.map (some w2.heap.size))).alloc (.map #[] 0)) (arr jb #[.pointer (some ⟨H.b, 0, none⟩), .int .u64 g, .int .u64 n, .bool false, .slice none 0 0, .map (some w2.heap.size)] 138 neJrn :: rowI (.slice none 0 0) [] :: chg w2.heap.size (n % 4) [] :: rs2)) := Lib.hid (by
      have h7 := ((((H2.out.setArr 0 rfl 2 (.int .u64 n)).setArr 0 rfl 4 (.slice none 0 0)).setArr 0 rfl 5 (.map (some w2.heap.size))).chgNew (n % 4)).rowNil 3 neI8 1
      rw [World.size_setCell, World.size_setCell, World.size_setCell] at h7
      have h9 := h7.sub ((((List.drop_sublist 2 _).cons_cons _).cons_cons _).cons_cons _)
      exact h9.perm ((List.Perm.cons _ (List.Perm.swap _ _ _)).trans (List.Perm.swap _ _ _)))
    clear hnn hla0 hn64
    go_wp2_with fail
    clear c2 c4 c5 f2 f4 f5 hjl hmk hwn
    generalize w2.heap.size = m2 at *
    have HSL : Hid (∀ W, Calls Try.prog 89 #[.int .u64 n] W fun e w' => e = .returned (.int .i64 ((n % 4 : Nat) : Int)) ∧ w' = W) := Lib.hid fun W => slot_is W n (n % 4) HN64.out rfl
    obtain ⟨sl, hsl⟩ : ∃ sl, n % 4 = sl := ⟨_, rfl⟩
    have hsl4 : sl < 4 := by omega
    rw [hsl] at H3 HSL
    have HSS := Lib.hid hsl
    clear hsl
    go_loopw [6, 7, 48] (fun _ _ t wr => ∃ (k : Nat) (ov' : Value), k ≤ ks.length ∧ t = .int .i64 k ∧ St w0 wr (arr jb #[.pointer (some ⟨H.b, 0, none⟩), .int .u64 g, .int .u64 n, .bool false, ov', .map (some m2)] 138 neJrn :: rowI ov' (ks.take k) :: chg m2 sl (ds.take k) :: rs2)) (fun _ _ t _ => ks.length - (intOf t).toNat)
    case atStart => exact ⟨0, _, Nat.zero_le _, rfl, H3.out⟩
    case round =>
      clear H3
      obtain ⟨k, ov', hk, rfl, hst⟩ := hrel
      have HST := Lib.hid hst
      clear hst
      by_cases hlt : k < ks.length
      · have hk0 : (0 : Int) ≤ (k : Int) := Int.natCast_nonneg _
        have hk1 : (k : Int) < (ks.length : Int) := by omega
        obtain ⟨x, hx⟩ : ∃ x, ks[k]? = some x := ⟨_, List.getElem?_eq_getElem hlt⟩
        obtain ⟨gb, u, d, rfl, hgb, hu, hd, c1, c2, hbu⟩ := HST.out.chgsCell (i := iv + 3) HL2.out (j := k) (k := (x : Int)) (by rw [List.getElem?_map, hx]; rfl)
        obtain ⟨ub, uo, uc, rfl, _⟩ := hbu.cells
        obtain ⟨dl, hdl⟩ : ∃ m, d.length = m := ⟨_, rfl⟩
        have HDD := Lib.hid hd
        have HX := Lib.hid hx
        have HDLL := Lib.hid hdl
        rw [hdl] at c2
        have H6 := Lib.hid (HST.out.newArr #[.int .i64 x, .slice (some ⟨ub, uo, none⟩) dl uc] 64 neChg)
        have HU : Hid (∀ y Y rs', rs'[iv]? = rs2[iv]? → St w0 y (Y ++ rs') → BytesAt y (.slice (some ⟨ub, uo, none⟩) dl uc) d AnyB) := Lib.hid fun y Y rs' he hy => by
          obtain ⟨I1, I2, I3, I4⟩ := hy.get (i := Y.length + iv) (by rw [List.getElem?_append_right (by omega), Nat.add_sub_cancel_left, he]; exact HL2.out)
          rw [← HDLL.out]
          exact I4 k _ d hu HDD.out
        clear hbu hu hd hx hdl
        go_upto_region 12 with (fail)
        obtain ⟨w5, hw5⟩ : ∃ w5, w5 = wr.alloc (.cells #[.int .i64 x, .slice (some ⟨ub, uo, none⟩) dl uc] 64 (0, 0)) := ⟨_, rfl⟩
        rw [← hw5] at H6 ⊢
        clear hw5 c1 c2 HST
        generalize wr.heap.size = bc at *
        go_cut [48] from 49 to 78 (fun t wx => t = .int .i64 k ∧ ∃ ov'', St w0 wx (arr bc #[.int .i64 x, .slice (some ⟨ub, uo, none⟩) dl uc] 64 neChg :: arr jb #[.pointer (some ⟨H.b, 0, none⟩), .int .u64 g, .int .u64 n, .bool false, ov'', .map (some m2)] 138 neJrn :: rowI ov'' (ks.take (k + 1)) :: chg m2 sl (ds.take k) :: rs2))
        case first =>
          have c4 : w5.cell? ⟨jb, 4, none⟩ = some ov' := (H6.out.arrCell (i := 1) rfl 4).trans rfl
          have cb : w5.cell? ⟨bc, 0, none⟩ = some (.int .i64 x) := (H6.out.arrCell (i := 0) rfl 0).trans rfl
          have hjl : jb < w5.heap.size := lt_of_block (H6.out.get (i := 1) rfl)
          have hbl : bc < w5.heap.size := lt_of_block (H6.out.get (i := 0) rfl)
          have HLK : Hid ((ks.take k).length = k) := Lib.hid (by rw [List.length_take]; omega)
          have HO := Lib.hid (show ((w5.alloc (.cells #[.int .i64 (x : Int)] 3 (0, 0))).drew).ownsRow 0 3 1 ov' (ks.take k).length ((ks.take k).map NatK) from World.ownsRow.alloc (H6.out.get (i := 2) rfl) (.cells #[.int .i64 (x : Int)] 3 (0, 0)))
          have HN : Hid (∀ (j : Nat) u, ([.int .i64 (x : Int)] : List Value)[j]? = some u → ((w5.alloc (.cells #[.int .i64 (x : Int)] 3 (0, 0))).drew).cell? ((⟨w5.heap.size, 0, none⟩ : Addr).add j) = some u) := Lib.hid (new_one w5 _ _)
          have HC0 : Hid (∀ u ∈ ([.int .i64 (x : Int)] : List Value), u.oneCell' = true) := Lib.hid (by intro u hu; simp at hu; subst hu; rfl)
          have HC1 : Hid ((ks.take k).length + 1 ≤ maxLen) := Lib.hid (by rw [HLK.out]; simp only [maxLen]; omega)
          have HC2 : Hid (((ks.take k).length + 1) * 8 ≤ 140737488355328) := Lib.hid (by rw [HLK.out]; omega)
          have HTK : Hid (ks.take (k + 1) = ks.take k ++ [x]) := Lib.hid (by
            obtain ⟨h1, h2⟩ := List.getElem?_eq_some_iff.1 HX.out
            rw [List.take_succ_eq_append_getElem h1, h2])
          obtain ⟨ii, hi0i, hz0, hz1, hz2⟩ := info_parts infoInt
          have HAP : Hid (∀ v' w', w'.ownsRow 0 3 1 v' ((ks.take k).length + 1) ((ks.take k).map NatK ++ [.int .i64 (x : Int)]) → ((w5.alloc (.cells #[.int .i64 (x : Int)] 3 (0, 0))).drew).grownBy w' ov'.ownBlock → (v'.ownBlock = ov'.ownBlock ∨ v'.ownBlock = some ((w5.alloc (.cells #[.int .i64 (x : Int)] 3 (0, 0))).drew).heap.size) →
              (∃ va vc, v' = .slice (some ⟨va, 0, none⟩) (k + 1) vc) ∧ St w0 w' (arr bc #[.int .i64 x, .slice (some ⟨ub, uo, none⟩) dl uc] 64 neChg :: arr jb #[.pointer (some ⟨H.b, 0, none⟩), .int .u64 g, .int .u64 n, .bool false, ov', .map (some m2)] 138 neJrn :: rowI v' (ks.take (k + 1)) :: chg m2 sl (ds.take k) :: rs2)) := Lib.hid fun v' w' ho hg hat => by
            refine ⟨?_, ?_⟩
            · rcases ho.2 with hx | ⟨va, vc, _, hx, _⟩
              · have := hx.2; omega
              · exact ⟨va, vc, by rw [hx, HLK.out]⟩
            · have h7 := (H6.out.frm0 ((Frm.refl NoB w5).drew)).rowAppend 2 rfl (.cells #[.int .i64 (x : Int)] 3 (0, 0)) (m := (ks.take (k + 1)).length) (ys := (ks.take (k + 1)).map NatK) (by rw [HTK.out, List.length_append, List.map_append]; exact ho) hg hat
              exact h7
          go_region_law (refine step_append_own rfl _ _ 22 rfl 0 3 ii (.int .i64 0) 1 8 Try.underlying22 hi0i hz0 hz1 hz2 rfl (by decide) _ _ _ rfl HO.out ⟨w5.heap.size, 0, none⟩ 1 1 [.int .i64 (x : Int)] rfl rfl HN.out HC0.out HC1.out HC2.out (Nat.zero_le _) ?_; intro v' w' ho hg hat; obtain ⟨⟨vg, vcc, rfl⟩, h7⟩ := HAP.out v' w' ho hg hat; clear ho hg hat; have c7 : w'.cell? ⟨jb, 4, none⟩ = some ov' := (h7.arrCell (i := 1) rfl 4).trans rfl; have f7 : w'.frozen? ⟨jb, 4, none⟩ = false := h7.arrFree (i := 1) rfl 4)
          all_goals
            have H8 := Lib.hid (h7.setArr 1 rfl 4 (.slice (some ⟨vg, 0, none⟩) (k + 1) vcc))
            clear h7 c7 f7 c4 cb
            go_wp2_with fail
            go_meet
            first | exact ⟨rfl, _, H8.out⟩ | (case rel => exact ⟨rfl, _, H8.out⟩)
        case rest =>
          obtain ⟨rfl, ov2, hst⟩ := hcut
          have H7 := Lib.hid hst
          clear hst H6
          have HTD : Hid (ds.take (k + 1) = ds.take k ++ [d]) := Lib.hid (by
            obtain ⟨h1, h2⟩ := List.getElem?_eq_some_iff.1 HDD.out
            rw [List.take_succ_eq_append_getElem h1, h2])
          have HKL : Hid (k = (ds.take k).length) := Lib.hid (by rw [List.length_take, HDL.out]; omega)
          have KA : Hid (∀ y, Frm NoB wc y → y.cell? ⟨jb, 5, none⟩ = some (.map (some m2)) ∧ y.cell? ⟨jb, 2, none⟩ = some (.int .u64 n) ∧ y.cell? ⟨bc, 1, none⟩ = some (.slice (some ⟨ub, uo, none⟩) dl uc)) := Lib.hid fun y hy =>
            ⟨((H7.out.frm0 hy).arrCell (i := 1) rfl 5).trans rfl, ((H7.out.frm0 hy).arrCell (i := 1) rfl 2).trans rfl, ((H7.out.frm0 hy).arrCell (i := 0) rfl 1).trans rfl⟩
          have KB : Hid (∀ y u1 u2, St w0 y (u1 :: arr bc #[.int .i64 x, .slice (some ⟨ub, uo, none⟩) dl uc] 64 neChg :: arr jb #[.pointer (some ⟨H.b, 0, none⟩), .int .u64 g, .int .u64 n, .bool false, ov2, .map (some m2)] 138 neJrn :: u2) → y.cell? ⟨jb, 5, none⟩ = some (.map (some m2)) ∧ y.cell? ⟨jb, 2, none⟩ = some (.int .u64 n) ∧ y.cell? ⟨bc, 1, none⟩ = some (.slice (some ⟨ub, uo, none⟩) dl uc)) := Lib.hid fun y u1 u2 hy =>
            ⟨(hy.arrCell (i := 2) rfl 5).trans rfl, (hy.arrCell (i := 2) rfl 2).trans rfl, (hy.arrCell (i := 1) rfl 1).trans rfl⟩
          obtain ⟨c1, c2, c3⟩ := KA.out wc (Frm.refl _ _)
          have HCL : Hid (∀ W, Frm NoB wc W → Calls Try.prog 70 #[.slice (some ⟨ub, uo, none⟩) dl uc] W fun e w' => ∃ vb vo vc2 o2, e = .returned (.slice (some ⟨vb, vo, none⟩) 512 vc2) ∧ (Instr.mapUpdate 136 (.map (some m2)) (.agg #[.int .i64 sl, .int .i64 k]) (.slice (some ⟨vb, vo, none⟩) 512 vc2)).run Try.prog w' = .ok () (setBlock w' m2 o2) ∧ Frm NoB wc w' ∧
              St w0 (setBlock w' m2 o2) (byt (.slice (some ⟨vb, vo, none⟩) 512 vc2) d :: arr bc #[.int .i64 x, .slice (some ⟨ub, uo, none⟩) dl uc] 64 neChg :: arr jb #[.pointer (some ⟨H.b, 0, none⟩), .int .u64 g, .int .u64 n, .bool false, ov2, .map (some m2)] 138 neJrn :: rowI ov2 (ks.take (k + 1)) :: chg m2 sl (ds.take (k + 1)) :: rs2)) := Lib.hid fun W hW => by
            have hst := H7.out.frm0 hW
            have hb := HU.out W [arr bc #[.int .i64 x, .slice (some ⟨ub, uo, none⟩) dl uc] 64 neChg, arr jb #[.pointer (some ⟨H.b, 0, none⟩), .int .u64 g, .int .u64 n, .bool false, ov2, .map (some m2)] 138 neJrn, rowI ov2 (ks.take (k + 1)), chg m2 sl (ds.take k)] rs2 rfl hst
            have h512 : d.length = 512 := H512.out d (List.mem_of_getElem? HDD.out)
            refine (Clone_any W _ d AnyB hb (by omega)).mono ?_
            rintro e w' ⟨hf, v', he, hb'⟩
            obtain ⟨vb, vo, vc2, rfl, _⟩ := hb'.cells
            rw [h512] at he hb'
            have h8 := hst.make hf (byt (.slice (some ⟨vb, vo, none⟩) 512 vc2) d) (hb'.mono (fun _ _ _ => trivial)) (fun _ h => h.elim)
            obtain ⟨o2, q2, h9⟩ := h8.chgPut 4 rfl _ d (h8.get (i := 0) rfl) (by have := HKL.out; omega) (by omega) k HKL.out
            rw [← HTD.out] at h9
            exact ⟨vb, vo, vc2, o2, he, q2, hW.trans hf (fun _ _ e => e), h9⟩
          clear HU
          go_wp2_with fail
          go_region_held3 (fun y => y.cell? ⟨jb, 5, none⟩ = some (.map (some m2)) ∧ y.cell? ⟨jb, 2, none⟩ = some (.int .u64 n) ∧ y.cell? ⟨bc, 1, none⟩ = some (.slice (some ⟨ub, uo, none⟩) dl uc))
            (first | exact hS9 | (refine KA.out _ ?_; first | assumption | exact (Frm.refl NoB wc).drew | exact ⟨rfl, rfl, rfl, Nat.le_refl _, fun _ _ _ => rfl⟩))
            (first
              | (go_at_call 89; refine (HSL.out _).mono ?_; rintro e w6 ⟨rfl, rfl⟩)
              | (go_at_call 70; refine (HCL.out _ (by first | exact (Frm.refl NoB wc).drew | exact Frm.refl _ _)).mono ?_; rintro e w7 ⟨vb, vo, vc2, o2, rfl, q2, hF7, h9⟩; have hS9 := KB.out _ _ _ h9))
          all_goals
            have H9 := Lib.hid (h9.drop 2)
            clear h9 hS9 q2 hF7 c1 c2 c3
            go_wp2
            first | exact ⟨⟨k + 1, _, hlt, by go_num, H9.out⟩, by simp [intOf]; omega⟩ | (go_roundw; case rel => first | exact ⟨k + 1, _, hlt, by go_num, H9.out⟩ | ((repeat apply Exists.intro); exact ⟨⟨k + 1, _, hlt, by go_num, H9.out⟩, rfl⟩); case measure => simp [intOf]; omega)
      · have hk1 : ¬ (k : Int) < (ks.length : Int) := by omega
        have HKK : Hid (k = ks.length) := Lib.hid (by omega)
        go_wp2
        go_ret
        refine .inl ⟨HE.out, rfl, ⟨jb, ov', m2⟩, rfl, ?_⟩
        rw [show runD (writeOps g last om dm ks ds) D = D2 from HD2.out, HRS.out]
        refine St.jShut ?_
        have h9 := HST.out
        rw [HKK.out, List.take_length, ← HDL.out, List.take_length, ← HSS.out, ← HNN.out] at h9
        exact h9
  · rw [e9] at he
    subst he
    have HE := Lib.hid e9
    have c3 : w2.cell? ⟨jb, 3, none⟩ = some (.bool false) := (H2.out.arrCell (i := 0) rfl 3).trans rfl
    have f3 : w2.frozen? ⟨jb, 3, none⟩ = false := H2.out.arrFree (i := 0) rfl 3
    have H3 := Lib.hid (H2.out.setArr 0 rfl 3 (.bool true))
    clear e9
    go_wp2
    go_ret
    refine .inr ⟨HE.out, rfl, ⟨jb, ov, mb⟩, rfl, ?_⟩
    rw [show runD (writeOps g last om dm ks ds) D = D2 from HD2.out, HRS.out]
    exact St.jShut H3.out
end Go.Proofs.Ytkanfpmmgaipnaa
