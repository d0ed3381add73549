/-
  The reference's Crash.
-/
import Derived.Test.YtkanfpmmgaipnaaTlwH
namespace Go.Proofs.Ytkanfpmmgaipnaa
set_option linter.unusedVariables false
set_option linter.unusedSimpArgs false
open Go.ChangeMaps Go.MapKept Go.RowKit

theorem DSt.rank_succ (D : DSt) (k : Nat) : D.rank (k + 1) = D.rank k + if (D.pend k).isEmpty then 0 else 1 := by
  unfold DSt.rank
  rw [List.range_succ, List.filter_append, List.length_append]
  congr 1
  simp only [List.filter_cons, List.filter_nil]
  cases (D.pend k).isEmpty <;> rfl

theorem DSt.rank_le (D : DSt) (k : Nat) : D.rank k ≤ k := by
  unfold DSt.rank
  have := List.length_filter_le (fun j => !(D.pend j).isEmpty) (List.range k)
  rw [List.length_range] at this
  exact this

theorem crash_at_nil {D : DSt} {k : Nat} (picks : List Int) (h : D.pend k = []) : (D.crash picks).base k = D.base k := by
  show (if (D.pend k).isEmpty then D.base k else D.crashBlk picks k) = _
  rw [h]; rfl

theorem crash_at_zero {D : DSt} {k : Nat} (picks : List Int) (h : D.pick picks k = 0) : (D.crash picks).base k = D.base k := by
  show (if (D.pend k).isEmpty then D.base k else D.crashBlk picks k) = _
  unfold DSt.crashBlk
  rw [if_pos h, ite_self]

theorem crash_at_pos {D : DSt} {k j : Nat} {b : Blk} (picks : List Int) (h : D.pick picks k = j + 1) (hb : (D.pend k)[j]? = some b) : (D.crash picks).base k = b := by
  show (if (D.pend k).isEmpty then D.base k else D.crashBlk picks k) = _
  have : (D.pend k).isEmpty = false := by cases hp : D.pend k with
    | nil => rw [hp] at hb; cases hb
    | cons a l => rfl
  rw [this]
  show D.crashBlk picks k = b
  unfold DSt.crashBlk
  rw [if_neg (by omega), h, Nat.add_sub_cancel, List.getD_eq_getElem?_getD, hb]; rfl

/-- The remainder, as Go has it, made a pick. -/
theorem pick_of_rem {D : DSt} {k : Nat} {picks : List Int} {pv : Int} (hpv : picks[D.rank k]? = some pv) :
    let r := pv.tmod (((D.pend k).length : Int) + 1)
    (r < 0 ∧ -((D.pend k).length : Int) ≤ r ∧ (D.pick picks k : Int) = r + (D.pend k).length + 1) ∨ (0 ≤ r ∧ r ≤ (D.pend k).length ∧ (D.pick picks k : Int) = r) := by
  intro r
  have hp : (D.pick picks k : Int) = pv % (((D.pend k).length : Int) + 1) := by
    unfold DSt.pick
    rw [List.getD_eq_getElem?_getD, hpv]
    show ((pv % (((D.pend k).length : Int) + 1)).toNat : Int) = _
    have := Int.emod_nonneg pv (show (((D.pend k).length : Int) + 1) ≠ 0 by omega)
    omega
  have hlt := Int.emod_lt_of_pos pv (show (0 : Int) < ((D.pend k).length : Int) + 1 by omega)
  have hge := Int.emod_nonneg pv (show (((D.pend k).length : Int) + 1) ≠ 0 by omega)
  by_cases h0 : pv < 0
  · rcases tmod_neg pv _ h0 (show (1 : Int) ≤ ((D.pend k).length : Int) + 1 by omega) with ⟨a, b, c⟩ | ⟨a, b⟩
    · exact .inl ⟨a, by show _ ≤ pv.tmod _; omega, by rw [hp, ← b]; show _ = pv.tmod _ + _ + 1; omega⟩
    · exact .inr ⟨by show 0 ≤ pv.tmod _; omega, by show pv.tmod _ ≤ _; omega, by rw [hp]; show _ = pv.tmod _; omega⟩
  · have e : r = pv % (((D.pend k).length : Int) + 1) := Int.tmod_eq_emod_of_nonneg (by omega)
    exact .inr ⟨by rw [e]; exact hge, by rw [e]; omega, by rw [hp, e]⟩

theorem RefOk.crash {D : DSt} {ds : List Blk} {ps : List (Value × List Blk)} {last : Int} (h : RefOk D ds ps last) (picks : List Int) : RefOk (D.crash picks) ((List.range D.n).map (D.crash picks).base) (psN D.n) (-1) :=
  ⟨by simp; rfl, psN_length _, fun k hk => (by
    have hk : k < D.n := hk
    rw [List.getElem?_map, List.getElem?_range hk]; rfl), fun k hk => ⟨_, List.getElem?_replicate_of_lt hk⟩, rfl, h.n40, Nat.zero_le _⟩

theorem St.flip {w0 : Gnd} {w : World} {A B rs : List Res} (h : St w0 w (A ++ (B ++ rs))) : St w0 w (B ++ (A ++ rs)) := by
  refine h.perm ?_
  rw [← List.append_assoc, ← List.append_assoc]
  exact List.perm_append_comm.append_right _

section
variable {w0 : Gnd} {w : World} {rs : List Res}

set_option maxRecDepth 100000 in
set_option maxHeartbeats 2000000 in
theorem S_rCrash {rb : Nat} {bv pv : Value} {ds : List Blk} {ps : List (Value × List Blk)} {N last : Int} {D : DSt} (h : St w0 w (refL rb bv pv ds ps N last ++ rs)) (hD : D.Wf) (hR : RefOk D ds ps last) (vp : Value) (picks : List Int) (hvp : ∀ y, Frm NoB w0.w y → Elems y vp (picks.map IntK)) (hpk : ∀ p ∈ picks, okI p) (hpl : picks.length ≤ maxLen) :
    Calls Try.prog 82 #[.pointer (some ⟨rb, 0, none⟩), vp] w fun e w' => ∃ nb nv qv ds' ps', e = .returned (.pointer (some ⟨nb, 0, none⟩)) ∧ St w0 w' (refL nb nv qv ds' ps' 0 (-1) ++ (refL rb bv pv ds ps N last ++ rs)) ∧ RefOk (D.crash picks) ds' ps' (-1) := by
  obtain ⟨ab, cb, rfl⟩ := h.bsLen (i := 1) rfl
  obtain ⟨ap, cp0, rfl⟩ := h.pnLen
  obtain ⟨pa, pc, rfl, hx⟩ := hvp w h.base
  clear hx
  rw [List.length_map] at hvp
  rw [List.length_map]
  have hnb := hR.nb
  have hnp := hR.np
  obtain ⟨n, hn⟩ : ∃ n, D.n = n := ⟨_, rfl⟩
  rw [hnb, hnp, hn] at h
  rw [hnb, hnp, hn]
  have H0 := Lib.hid (St.flip (A := refL w.heap.size (.slice none 0 0) (.slice none 0 0) [] [] 0 (-1)) (h.refNew 0 (-1)))
  have HVP := Lib.hid hvp
  have HPKS := Lib.hid hpk
  have HRO := Lib.hid hR
  have HFR : Hid (Frm NoB w0.w w) := Lib.hid h.base
  have HCR : Hid (RefOk (D.crash picks) ((List.range n).map (D.crash picks).base) (psN n) (-1)) := Lib.hid (by have := hR.crash picks; rw [hn] at this; exact this)
  have HFEW : Hid (∀ k, (D.pend k).length ≤ 1000) := Lib.hid fun k => Nat.le_trans (hD.few k) hR.ops
  have hpl2 : ((picks.length : Nat) : Int) ≤ 9223372036854775807 := by unfold maxLen at hpl; omega
  have hn40 : n ≤ 40 := by have := hR.n40; omega
  have HN := Lib.hid hn
  obtain ⟨iy, hiy, hy0, hy1, hy2⟩ := info_parts infoBy
  obtain ⟨ib, hib, hb0, hb1, hb2⟩ := info_parts infoBb
  clear h hR hD hvp hpk hpl hnb hnp hn
  go_enter Try.func82, Try.ntmps82
  go_wp2_with fail
  generalize w.heap.size = nb at *
  go_loopw [6, 7, 8, 9, 10] (fun t6 t7 _ _ _ wr => ∃ (k : Nat) (nv qv : Value), k ≤ n ∧ t6 = .int .i64 (D.rank k) ∧ t7 = .int .i64 k ∧ St w0 wr (refL rb (.slice ab n cb) (.slice ap n cp0) ds ps N last ++ (refL nb nv qv ((List.range k).map (D.crash picks).base) (psN k) 0 (-1) ++ rs))) (fun _ t7 _ _ _ _ => n - (intOf t7).toNat)
  case atStart => exact ⟨0, _, _, Nat.zero_le _, rfl, rfl, H0.out⟩
  case round =>
    clear H0
    obtain ⟨k, nv, qv, hk, rfl, rfl, hst⟩ := hrel
    have HST := Lib.hid hst
    have c0 : wr.cell? ⟨rb, 0, none⟩ = some (.slice ab n cb) := (hst.arrCell (i := 0) rfl 0).trans rfl
    have c1 : wr.cell? ⟨rb, 1, none⟩ = some (.slice ap n cp0) := (hst.arrCell (i := 0) rfl 1).trans rfl
    have hk0 : (0 : Int) ≤ (k : Int) := Int.natCast_nonneg _
    clear hst
    by_cases hlt : k < n
    · have hk1 : (k : Int) < (n : Int) := by omega
      have hkn : k < D.n := by have := HN.out; omega
      obtain ⟨pk, hpk⟩ := HRO.out.pend k hkn
      obtain ⟨gb, u0, e1, cu0, -, hu0⟩ := HST.out.bsCell (i := 1) rfl (HRO.out.base k hkn)
      subst e1
      obtain ⟨gp, e1, cpk, -⟩ := HST.out.pnCell hpk
      subst e1
      have hin := HST.out.pnGet hpk
      obtain ⟨aq, cq, rfl⟩ := HST.out.bsLen hin
      obtain ⟨ublk, uoff, ucp, rfl, -⟩ := hu0.cells
      have hrk := D.rank_le k
      have hrk0 : (0 : Int) ≤ (D.rank k : Int) := Int.natCast_nonneg _
      have hrk1 : (D.rank k : Int) ≤ 40 := by omega
      have hm0 : (0 : Int) ≤ ((D.pend k).length : Int) := Int.natCast_nonneg _
      have hm1 : ((D.pend k).length : Int) ≤ 1000 := by have := HFEW.out k; omega
      have HU := Lib.hid hu0
      have HIN := Lib.hid hin
      have HLT := Lib.hid hlt
      clear hpk hin hu0 hkn hrk
      go_upto_if 38 with (fail)
      go_cut [6, 8, 9, 10] from 13 to 89 (fun t6 t8 _ _ wx => t6 = .int .i64 (D.rank (k + 1)) ∧ wx = wr ∧ ∃ g o m c, t8 = .slice (some ⟨g, o, none⟩) m c ∧ BytesAt wr (.slice (some ⟨g, o, none⟩) m c) ((D.crash picks).base k) AnyB)
      case first =>
        have HRK := Lib.hid (D.rank_succ k)
        by_cases hp : D.pend k = []
        · have hb : (D.crash picks).base k = D.base k := crash_at_nil picks hp
          rw [hp] at cpk HRK ⊢
          have HU2 : Hid (BytesAt wr (.slice (some ⟨ublk, uoff, none⟩) (D.base k).length ucp) ((D.crash picks).base k) AnyB) := Lib.hid (by rw [hb]; exact HU.out)
          have HR2 : Hid (D.rank (k + 1) = D.rank k) := Lib.hid (HRK.out.trans rfl)
          clear hp hb HRK hm0 hm1
          go_wp2
          go_meet
          first | exact ⟨by rw [HR2.out], rfl, _, _, _, _, rfl, HU2.out⟩ | (case rel => exact ⟨by rw [HR2.out], rfl, _, _, _, _, rfl, HU2.out⟩)
        · obtain ⟨m, hm⟩ : ∃ m, (D.pend k).length = m + 1 := ⟨(D.pend k).length - 1, by have := List.length_pos_iff.2 hp; omega⟩
          have HR2 : Hid (((D.rank k : Int) + 1) = (D.rank (k + 1) : Int)) := Lib.hid (by rw [HRK.out, if_neg (by simpa using hp)]; rfl)
          have HPK := Lib.hid (fun pv hpv => pick_of_rem (D := D) (k := k) (picks := picks) (pv := pv) hpv)
          rw [hm] at HPK
          have HME := Lib.hid hm
          have hmm : (m : Int) ≤ 1000 := by omega
          have hm00 : (0 : Int) ≤ (m : Int) := Int.natCast_nonneg _
          have HZ : Hid (D.pick picks k = 0 → BytesAt wr (.slice (some ⟨ublk, uoff, none⟩) (D.base k).length ucp) ((D.crash picks).base k) AnyB) := Lib.hid fun e => by rw [crash_at_zero picks e]; exact HU.out
          have HB : Hid (∀ j, j < m + 1 → D.pick picks k = j + 1 → ∃ (gq : Nat) (o : Nat × Nat) (l c : Nat), aq = some ⟨gq, 0, none⟩ ∧ wr.cell? ⟨gq, j, none⟩ = some (.slice (some ⟨o.1, o.2, none⟩) l c) ∧ BytesAt wr (.slice (some ⟨o.1, o.2, none⟩) l c) ((D.crash picks).base k) AnyB) := Lib.hid fun j hj e => by
            obtain ⟨bl, hbl⟩ : ∃ bl, (D.pend k)[j]? = some bl := ⟨_, List.getElem?_eq_getElem (by rw [hm]; exact hj)⟩
            obtain ⟨gq, ul, e1, cul, _, hul⟩ := HST.out.bsCell HIN.out hbl
            obtain ⟨b1, o1, c1, rfl, _⟩ := hul.cells
            exact ⟨gq, (b1, o1), _, c1, e1, cul, by rw [crash_at_pos picks e hbl]; exact hul⟩
          rw [hm] at cpk ⊢
          clear hp HRK hm0 hm1 hm
          by_cases hip : D.rank k < picks.length
          · have hip1 : (D.rank k : Int) < ((picks.length : Nat) : Int) := by omega
            obtain ⟨pv, hpv⟩ : ∃ pv, picks[D.rank k]? = some pv := ⟨_, List.getElem?_eq_getElem hip⟩
            obtain ⟨pa', pc', e0, hcl⟩ := HVP.out wr HST.out.base
            injection e0 with e1 e2 e3
            subst e1
            clear e2 e3
            obtain ⟨pb, po, rfl, _, cpv⟩ := hcl (D.rank k) (IntK pv) (by rw [List.getElem?_map, hpv]; rfl)
            have hpk1 := HPK.out pv hpv
            have hpvo := (okI_iff pv).1 (HPKS.out pv (List.mem_of_getElem? hpv))
            obtain ⟨r, hr⟩ : ∃ r, pv.tmod ((m : Int) + 1 + 1) = r := ⟨_, rfl⟩
            have hpk2 : (r < 0 ∧ -((m : Int) + 1) ≤ r ∧ (D.pick picks k : Int) = r + (m + 1) + 1) ∨ (0 ≤ r ∧ r ≤ (m : Int) + 1 ∧ (D.pick picks k : Int) = r) := by rw [← hr]; exact hpk1
            clear hcl hpv hip HVP HPK hpk1
            by_cases hr0 : r < 0
            · obtain ⟨j, hj⟩ : ∃ j : Nat, D.pick picks k = j + 1 := ⟨D.pick picks k - 1, by omega⟩
              obtain ⟨gq, ⟨o1, o2⟩, l, c, rfl, cj, hbj⟩ := HB.out j (by omega) hj
              have e1 : r + ((m : Int) + 1) = (j : Int) := by omega
              have hj0 : (0 : Int) ≤ (j : Int) := Int.natCast_nonneg _
              have hj1 : (j : Int) < (m : Int) + 1 := by omega
              have q1 : -((m : Int) + 1) ≤ r := by omega
              have HQ := Lib.hid hbj
              clear hbj hj hpk2 HZ HB
              go_wp2
              go_meet
              first | exact ⟨by rw [HR2.out], rfl, _, _, _, _, rfl, HQ.out⟩ | (case rel => exact ⟨by rw [HR2.out], rfl, _, _, _, _, rfl, HQ.out⟩)
            · by_cases hr1 : r = 0
              · have HQ := Lib.hid (HZ.out (by omega))
                subst hr1
                clear hpk2 HZ HB
                go_wp2
                go_meet
                first | exact ⟨by rw [HR2.out], rfl, _, _, _, _, rfl, HQ.out⟩ | (case rel => exact ⟨by rw [HR2.out], rfl, _, _, _, _, rfl, HQ.out⟩)
              · obtain ⟨j, hj⟩ : ∃ j : Nat, D.pick picks k = j + 1 := ⟨D.pick picks k - 1, by omega⟩
                obtain ⟨gq, ⟨o1, o2⟩, l, c, rfl, cj, hbj⟩ := HB.out j (by omega) hj
                obtain rfl : r = (j : Int) + 1 := by omega
                have hj0 : (0 : Int) ≤ (j : Int) := Int.natCast_nonneg _
                have hj1 : (j : Int) < (m : Int) + 1 := by omega
                have HQ := Lib.hid hbj
                clear hbj hj hpk2 HZ HB hr1 hr0
                go_wp2
                go_meet
                first | exact ⟨by rw [HR2.out], rfl, _, _, _, _, rfl, HQ.out⟩ | (case rel => exact ⟨by rw [HR2.out], rfl, _, _, _, _, rfl, HQ.out⟩)
          · have hip1 : ¬ (D.rank k : Int) < ((picks.length : Nat) : Int) := by omega
            have HQ : Hid (BytesAt wr (.slice (some ⟨ublk, uoff, none⟩) (D.base k).length ucp) ((D.crash picks).base k) AnyB) := Lib.hid (HZ.out (by unfold DSt.pick; rw [List.getD_eq_getElem?_getD, List.getElem?_eq_none (by omega)]; simp))
            clear hip
            go_wp2
            go_meet
            first | exact ⟨by rw [HR2.out], rfl, _, _, _, _, rfl, HQ.out⟩ | (case rel => exact ⟨by rw [HR2.out], rfl, _, _, _, _, rfl, HQ.out⟩)
      case rest =>
        obtain ⟨rfl, hw, g, o, m, c, rfl, hb⟩ := hcut
        subst hw
        have hf := St.flip HST.out
        obtain ⟨anv, cnv, rfl⟩ := hf.bsLen (i := 1) rfl
        obtain ⟨aqv, cqv, rfl⟩ := hf.pnLen
        rw [psN_length, List.length_map, List.length_range] at hf
        obtain ⟨vs, hv1, hv2, hv3⟩ := hf.get (i := 1) rfl
        have HV1 : Hid (wc.ownsRow 0 31 1 (.slice anv k cnv) k vs) := Lib.hid (by rw [List.length_map, List.length_range] at hv1; exact hv1)
        have HMX : Hid (k + 1 ≤ maxLen) := Lib.hid (by simp only [maxLen]; omega)
        have HBY : Hid ((k + 1) * 24 ≤ 140737488355328) := Lib.hid (by omega)
        have POST : Hid (∀ yB g2 cap2 o', yB.ownsRow 0 31 1 (.slice (some ⟨g2, 0, none⟩) (k + 1) cap2) (k + 1) (vs ++ [.slice (some ⟨g, o, none⟩) m c]) → (wc.alloc o').grownBy yB (Value.slice anv k cnv).ownBlock → ((Value.slice anv k cnv).ownBlock = some g2 ∨ g2 = (wc.alloc o').heap.size) →
            yB.cell? ⟨nb, 0, none⟩ = some (.slice anv k cnv) ∧ yB.frozen? ⟨nb, 0, none⟩ = false ∧ St w0 (yB.setCell ⟨nb, 0, none⟩ (.slice (some ⟨g2, 0, none⟩) (k + 1) cap2)) (refL nb (.slice (some ⟨g2, 0, none⟩) (k + 1) cap2) (.slice aqv k cqv) ((List.range (k + 1)).map (D.crash picks).base) (psN k) 0 (-1) ++ (refL rb (.slice (some ⟨gb, 0, none⟩) n cb) (.slice (some ⟨gp, 0, none⟩) n cp0) ds ps N last ++ rs))) := Lib.hid fun yB g2 cap2 o' hown hg hat => by
          have hS' : St w0 wc (rst nb (.slice anv k cnv) (.slice aqv k cqv) 0 (-1) :: bsR (.slice anv k cnv) ((List.range k).map (D.crash picks).base) :: (rowR 124 neBb 1 (.slice aqv k cqv) (psN k).length ((psN k).map (·.1)) :: (pnL (psN k) ++ (refL rb (.slice (some ⟨gb, 0, none⟩) n cb) (.slice (some ⟨gp, 0, none⟩) n cp0) ds ps N last ++ rs)))) := hf
          have := hS'.growBase ⟨hv1, hv2, hv3⟩ hb o' (v' := .slice (some ⟨g2, 0, none⟩) (k + 1) cap2) (by rw [List.length_map, List.length_range]; exact hown) hg (by
            rcases hat with e | e
            · left; rw [e]; simp [Value.ownBlock]
            · right; rw [e]; simp [Value.ownBlock])
          rw [show (List.range (k + 1)).map (D.crash picks).base = (List.range k).map (D.crash picks).base ++ [(D.crash picks).base k] from by rw [List.range_succ, List.map_append]; rfl]
          exact this
        have d0 : wc.cell? ⟨nb, 0, none⟩ = some (.slice anv k cnv) := (hf.arrCell (i := 0) rfl 0).trans rfl
        have HO := Lib.hid (HV1.out.alloc (.cells #[.slice (some ⟨g, o, none⟩) m c] 31 (0, 0)))
        clear hf hv1 hv2 hv3 hb HST HU HIN HVP HPKS cpk cu0 c0 c1 hrk0 hrk1 hm0 hm1
        go_wp2_with (at_builtin; refine wpList_append_lies _ rfl _ _ 124 rfl 0 31 iy (.slice none 0 0) 1 24 Try.underlying124 hiy hy0 hy1 hy2 rfl (by decide) _ _ _ rfl HO.out ⟨wc.heap.size, 0, none⟩ 1 1 [.slice (some ⟨g, o, none⟩) m c] rfl rfl (new_one _ _ _) (by intro u hu; simp at hu; subst hu; rfl) (by decide) HMX.out HBY.out (Nat.zero_le _) _ rfl ?_)
        intro g2 cap2 yB hown2 hgrow2 hat2 hlt2
        obtain ⟨hq1, hq2, hq3⟩ := POST.out yB g2 cap2 _ hown2 hgrow2 (by rw [size_alloc]; exact hat2)
        have H8 := Lib.hid hq3
        clear hq3 POST hown2 hgrow2 hat2 hlt2 HO HV1 d0
        go_upto_region 18 with (fail)
        obtain ⟨y8, hy8⟩ : ∃ y8, y8 = yB.setCell ⟨nb, 0, none⟩ (.slice (some ⟨g2, 0, none⟩) (k + 1) cap2) := ⟨_, rfl⟩
        rw [← hy8] at H8 ⊢
        clear hy8 hq1 hq2
        have c1 : y8.cell? ⟨nb, 1, none⟩ = some (.slice aqv k cqv) := (H8.out.arrCell (i := 0) rfl 1).trans rfl
        have HRW : Hid (y8.ownsRow 0 124 1 (.slice aqv k cqv) k ((psN k).map (·.1))) := Lib.hid (by have := H8.out.get (i := 2) rfl; rw [psN_length] at this; exact this)
        have HO := Lib.hid (HRW.out.alloc (.cells #[.slice none 0 0] 124 (0, 0)))
        go_wp2_with (at_builtin; refine wpList_append_lies _ rfl _ _ 125 rfl 0 124 ib (.slice none 0 0) 1 24 Try.underlying125 hib hb0 hb1 hb2 rfl (by decide) _ _ _ rfl HO.out ⟨y8.heap.size, 0, none⟩ 1 1 [.slice none 0 0] rfl rfl (new_one _ _ _) (by intro u hu; simp at hu; subst hu; rfl) (by decide) HMX.out HBY.out (Nat.zero_le _) _ rfl ?_)
        intro g3 cap3 yC hown3 hgrow3 hat3 hlt3
        have hS8 : St w0 y8 (rst nb (.slice (some ⟨g2, 0, none⟩) (k + 1) cap2) (.slice aqv k cqv) 0 (-1) :: bsR (.slice (some ⟨g2, 0, none⟩) (k + 1) cap2) ((List.range (k + 1)).map (D.crash picks).base) :: rowR 124 neBb 1 (.slice aqv k cqv) k ((psN k).map (·.1)) :: (pnL (psN k) ++ (refL rb (.slice (some ⟨gb, 0, none⟩) n cb) (.slice (some ⟨gp, 0, none⟩) n cp0) ds ps N last ++ rs))) := by
          have := H8.out
          rw [show ∀ X, refL nb (.slice (some ⟨g2, 0, none⟩) (k + 1) cap2) (.slice aqv k cqv) ((List.range (k + 1)).map (D.crash picks).base) (psN k) 0 (-1) ++ X = rst nb (.slice (some ⟨g2, 0, none⟩) (k + 1) cap2) (.slice aqv k cqv) 0 (-1) :: bsR (.slice (some ⟨g2, 0, none⟩) (k + 1) cap2) ((List.range (k + 1)).map (D.crash picks).base) :: rowR 124 neBb 1 (.slice aqv k cqv) (psN k).length ((psN k).map (·.1)) :: (pnL (psN k) ++ X) from fun _ => rfl, psN_length] at this
          exact this
        obtain ⟨d1, d2, d3⟩ := hS8.growPend (.slice none 0 0) _ (v' := .slice (some ⟨g3, 0, none⟩) (k + 1) cap3) hown3 hgrow3 (by
            rcases hat3 with e | e
            · left; rw [e]; simp [Value.ownBlock]
            · right; rw [e]; simp [Value.ownBlock])
        have H9 : Hid (St w0 (yC.setCell ⟨nb, 1, none⟩ (.slice (some ⟨g3, 0, none⟩) (k + 1) cap3)) (refL rb (.slice (some ⟨gb, 0, none⟩) n cb) (.slice (some ⟨gp, 0, none⟩) n cp0) ds ps N last ++ (refL nb (.slice (some ⟨g2, 0, none⟩) (k + 1) cap2) (.slice (some ⟨g3, 0, none⟩) (k + 1) cap3) ((List.range (k + 1)).map (D.crash picks).base) (psN (k + 1)) 0 (-1) ++ rs))) := Lib.hid (by
          refine St.flip ?_
          rw [psN_succ]
          have := d3.bsNil
          refine St.refSnoc ?_
          rw [psN_length]
          exact this)
        clear hown3 hgrow3 hat3 hlt3 hS8 d3 H8 HRW HO c1
        go_wp2
        first | exact ⟨⟨k + 1, _, _, HLT.out, by go_num, by go_num, H9.out⟩, by have := HLT.out; simp [intOf]; omega⟩ | (go_roundw; case rel => first | exact ⟨k + 1, _, _, HLT.out, by go_num, by go_num, H9.out⟩ | ((repeat apply Exists.intro); exact ⟨⟨k + 1, _, _, HLT.out, by go_num, by go_num, H9.out⟩, rfl⟩); case measure => have := HLT.out; simp [intOf]; omega)
    · have hk1 : ¬ (k : Int) < (n : Int) := by omega
      obtain rfl : k = n := by omega
      have HF := Lib.hid (St.flip HST.out)
      clear hlt hk HST c1
      go_wp2
      go_ret
      exact ⟨nb, rfl, _, _, _, _, HF.out, HCR.out⟩
end
end Go.Proofs.Ytkanfpmmgaipnaa
