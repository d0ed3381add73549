/-
  The reference's Flush, walked.
-/
import Derived.Test.YtkanfpmmgaipnaaTlwE
namespace Go.Proofs.Ytkanfpmmgaipnaa
set_option linter.unusedVariables false
set_option linter.unusedSimpArgs false
open Go.ChangeMaps Go.MapKept Go.RowKit

section
variable {w0 : Gnd} {w : World} {rs : List Res}

set_option maxRecDepth 100000 in
set_option maxHeartbeats 2000000 in
theorem S_rFlush {rb : Nat} {bv pv : Value} {ds : List Blk} {ps : List (Value × List Blk)} {last : Int} {D : DSt} (h : St w0 w (refL rb bv pv ds ps (D.ops : Int) last ++ rs)) (hD : D.Wf) (hR : RefOk D ds ps last) (ho : D.ops + 1 ≤ 1000) :
    Calls Try.prog 80 #[.pointer (some ⟨rb, 0, none⟩)] w fun e w' => e = .returned (.int .i64 D.flushE) ∧ ∃ ds' ps', St w0 w' (refL rb bv pv ds' ps' (D.flush.ops : Int) last ++ rs) ∧ RefOk D.flush ds' ps' last := by
  have hops := hR.ops
  have hOFF := Lib.hid (S_rOff (show St w0 w (rst rb bv pv (D.ops : Int) last :: (bsR bv ds :: rowR 124 neBb 1 pv ps.length (ps.map (·.1)) :: (pnL ps ++ rs))) from h) ⟨by omega, by omega⟩)
  have EOFF := Lib.hid (hR.lst.off (by omega))
  have HOP := Lib.hid (hR.op ho)
  have HWF := Lib.hid (DSt.op_wf hD)
  have HW : Hid (D.off = true → D.flush = D.op ∧ D.flushE = 9) := Lib.hid fun e => by unfold DSt.flush DSt.flushE; rw [if_pos e, if_pos e]; exact ⟨rfl, rfl⟩
  have HW1 : Hid (D.off = false → D.flush = D.op.flushed ∧ D.flushE = 0) := Lib.hid fun e => by unfold DSt.flush DSt.flushE; simp [e]
  have H40 := Lib.hid hR.n40
  clear h hR hD
  go_enter Try.func80, Try.ntmps80
  go_wp2_with fail
  refine hOFF.out.mono ?_
  clear hOFF
  rintro e w1 ⟨rfl, h1⟩
  have H1 := Lib.hid (show St w0 w1 (refL rb bv pv ds ps (D.op.ops : Int) last ++ rs) from h1)
  rw [EOFF.out]
  clear h1 EOFF hops
  obtain ⟨s, hs⟩ : ∃ s, D.off = s := ⟨_, rfl⟩
  rw [hs]
  have HS := Lib.hid hs
  clear hs
  cases s with
  | true =>
    go_wp2
    go_ret
    obtain ⟨e1, e2⟩ := HW.out HS.out
    rw [e1, e2]
    exact ⟨rfl, ds, ps, H1.out, HOP.out⟩
  | false =>
    obtain ⟨ab, cb, rfl⟩ := H1.out.bsLen (i := 1) rfl
    obtain ⟨ap, cp0, rfl⟩ := H1.out.pnLen
    have hnb := HOP.out.nb
    have hnp := HOP.out.np
    obtain ⟨E, hE⟩ : ∃ E, D.op = E := ⟨_, rfl⟩
    rw [hE] at H1 HOP HWF hnb hnp
    have HE := Lib.hid hE
    have hn40 : E.n ≤ 40 := by have := H40.out; rw [← hE]; exact this
    clear hE
    obtain ⟨n, hn⟩ : ∃ n, E.n = n := ⟨_, rfl⟩
    have HN := Lib.hid hn
    have HL1 : Hid (ds.length = n) := Lib.hid (hnb.trans hn)
    have HL2 : Hid (ps.length = n) := Lib.hid (hnp.trans hn)
    rw [hnb, hnp, hn] at H1
    rw [hn] at hn40
    have H0 := Lib.hid (HOP.out.upTo0)
    clear hnb hnp hn HOP
    go_wp2_with fail
    go_loopw [3, 4] (fun t _ wr => ∃ (k : Nat) (ds' : List Blk) (ps' : List (Value × List Blk)), k ≤ n ∧ t = .int .i64 k ∧ St w0 wr (refL rb (.slice ab n cb) (.slice ap n cp0) ds' ps' (E.ops : Int) last ++ rs) ∧ RefOk (E.upTo k) ds' ps' last) (fun t _ _ => n - (intOf t).toNat)
    case atStart => exact ⟨0, ds, ps, Nat.zero_le _, rfl, H1.out, H0.out⟩
    case round =>
      clear H1 H0
      obtain ⟨k, ds', ps', hk, rfl, hst, hro⟩ := hrel
      have HST := Lib.hid hst
      have HRO := Lib.hid hro
      have hnb : ds'.length = n := hro.nb.trans HN.out
      have hnp : ps'.length = n := hro.np.trans HN.out
      have c0 : wr.cell? ⟨rb, 0, none⟩ = some (.slice ab n cb) := (hst.arrCell (i := 0) rfl 0).trans rfl
      have c1 : wr.cell? ⟨rb, 1, none⟩ = some (.slice ap n cp0) := (hst.arrCell (i := 0) rfl 1).trans rfl
      clear hst hro
      have hk0 : (0 : Int) ≤ (k : Int) := Int.natCast_nonneg _
      by_cases hlt : k < n
      · have hk1 : (k : Int) < (n : Int) := by omega
        have hkE : k < E.n := by have := HN.out; omega
        obtain ⟨pk, hpk⟩ := HRO.out.pend k hkE
        have hpe : (E.upTo k).pend k = E.pend k := by show (if k < k then [] else E.pend k) = _; rw [if_neg (Nat.lt_irrefl _)]
        rw [hpe] at hpk
        have hbk : ds'[k]? = some ((E.upTo k).base k) := HRO.out.base k hkE
        obtain ⟨gb, u0, e1, cu0, fu0, hu0⟩ := HST.out.bsCell (i := 1) rfl hbk
        subst e1
        obtain ⟨gp, e1, cpk, fpk⟩ := HST.out.pnCell hpk
        subst e1
        have hin := HST.out.pnGet hpk
        obtain ⟨aq, cq, rfl⟩ := HST.out.bsLen hin
        have HPK := Lib.hid hpk
        have HKN := Lib.hid hlt
        have HNB := Lib.hid hnb
        have HNP := Lib.hid hnp
        cases hp : E.pend k with
        | nil =>
          rw [hp] at cpk hin
          have HP := Lib.hid hp
          clear hp hin hpk hbk hu0 cu0 fu0 fpk hnb hnp hkE hlt hpe
          go_wp2
          first | exact ⟨⟨k + 1, ds', ps', HKN.out, by go_num, HST.out, HRO.out.upToSame HP.out⟩, by have := HKN.out; simp [intOf]; omega⟩ | (go_roundw; case rel => first | exact ⟨k + 1, ds', ps', HKN.out, by go_num, HST.out, HRO.out.upToSame HP.out⟩ | ((repeat apply Exists.intro); exact ⟨⟨k + 1, ds', ps', HKN.out, by go_num, HST.out, HRO.out.upToSame HP.out⟩, rfl⟩); case measure => have := HKN.out; simp [intOf]; omega)
        | cons a0 f0 =>
          obtain ⟨bl, hbl⟩ : ∃ bl, (E.pend k)[(E.pend k).length - 1]? = some bl := ⟨_, List.getElem?_eq_getElem (by rw [hp]; simp)⟩
          obtain ⟨gq, ul, e1, cul, _, hul⟩ := HST.out.bsCell hin hbl
          subst e1
          have HBL : Hid (E.last k = bl) := Lib.hid (by
            unfold DSt.last
            rw [List.getLastD_eq_getLast?, List.getLast?_eq_getElem?, hbl]; rfl)
          obtain ⟨m, hm⟩ : ∃ m, (E.pend k).length = m + 1 := ⟨f0.length, by rw [hp]; rfl⟩
          rw [hm] at cpk cul
          have cul : wr.cell? ⟨gq, m, none⟩ = some ul := cul
          have hm1 : (m : Int) ≤ 1000 := by
            have h1 := HWF.out.few k
            have h2 := HRO.out.ops
            have h3 : (E.upTo k).ops = E.ops := rfl
            omega
          obtain ⟨ubk, uof, ucp, hule, _⟩ := hul.cells
          subst hule
          have H8 : Hid (St w0 ((wr.setCell ⟨gb, k, none⟩ (.slice (some ⟨ubk, uof, none⟩) bl.length ucp)).drew) (refL rb (.slice (some ⟨gb, 0, none⟩) n cb) (.slice (some ⟨gp, 0, none⟩) n cp0) (ds'.set k bl) ps' (E.ops : Int) last ++ rs)) := Lib.hid ((HST.out.bsSet 1 k (rfl : (refL rb (.slice (some ⟨gb, 0, none⟩) n cb) (.slice (some ⟨gp, 0, none⟩) n cp0) ds' ps' (E.ops : Int) last ++ rs)[1]? = some (bsR (.slice (some ⟨gb, 0, none⟩) n cb) ds')) hul HNB.out.symm (by have := HNB.out; omega)).frm0 ((Frm.refl NoB _).drew))
          have HR9 : Hid (RefOk (E.upTo (k + 1)) (ds'.set k bl) (ps'.set k (.slice none 0 0, [])) last) := Lib.hid (by have := HRO.out.upToNext hkE; rw [HBL.out] at this; exact this)
          have hm0 : (0 : Int) ≤ (m : Int) := Int.natCast_nonneg _
          have e1 : IntKind.i64.wrap (m : Int) = (m : Int) := IntWalk.i64_in _ (by omega)
          have hm2 : (m : Int) < (m : Int) + 1 := by omega
          have HM := Lib.hid hm
          clear hp hin hpk hbk hu0 hul hnb hnp hkE hlt hpe hbl fpk hm
          go_upto_region 8 with (fail)
          refine wp_region_noPanic ?_
          refine wp_region_T (S := fun y => y = wr.drew) (by kernel_rfl) ?_
          have hHeld : (fun y : World => y = wr.drew) wr.drew := rfl
          refine wpAnyT_take (i := 0) (v := ?v0) rfl (by kernel_rfl) (fun _ _ _ h => h) (Or.inl ⟨by rfl, ?hy0⟩) hHeld ?rest0
          case hy0 => intro wq hSw; (try dsimp only at hSw); subst hSw; go_simp; try with_reducible rfl
          case rest0 =>
            show wpAnyT _ _ _ _ _ _ _ (Act.put _ (some 26) _) _
            try simp only [Act.put, List.setIfInBounds_toArray, List.set_cons_zero, List.set_cons_succ]
            refine wpAnyT_take (i := 1) (v := ?v1) rfl (by kernel_rfl) (fun _ _ _ h => h) (Or.inl ⟨by rfl, ?hy1⟩) hHeld ?rest1
            case hy1 => intro wq hSw; (try dsimp only at hSw); subst hSw; go_simp; try with_reducible rfl
            case rest1 =>
              show wpAnyT _ _ _ _ _ _ _ (Act.put _ (some 27) _) _
              try simp only [Act.put, List.setIfInBounds_toArray, List.set_cons_zero, List.set_cons_succ]
              refine wpAnyT_take (i := 2) (v := ?v2) rfl (by kernel_rfl) (fun _ _ _ h => h) (Or.inl ⟨by rfl, ?hy2⟩) hHeld ?rest2
              case hy2 => intro wq hSw; (try dsimp only at hSw); subst hSw; go_simp; try with_reducible rfl
              case rest2 =>
                show wpAnyT _ _ _ _ _ _ _ (Act.put _ (some 28) _) _
                try simp only [Act.put, List.setIfInBounds_toArray, List.set_cons_zero, List.set_cons_succ]
                refine wpAnyT_take (i := 3) (v := ?v3) rfl (by kernel_rfl) (fun _ _ _ h => h) (Or.inl ⟨by rfl, ?hy3⟩) hHeld ?rest3
                case hy3 => intro wq hSw; (try dsimp only at hSw); subst hSw; go_simp; try with_reducible rfl
                case rest3 =>
                  show wpAnyT _ _ _ _ _ _ _ (Act.put _ (some 29) _) _
                  try simp only [Act.put, List.setIfInBounds_toArray, List.set_cons_zero, List.set_cons_succ]
                  refine wpAnyT_take (i := 4) (v := ?v4) rfl (by kernel_rfl) (fun _ _ _ h => h) (Or.inl ⟨by rfl, ?hy4⟩) hHeld ?rest4
                  case hy4 => intro wq hSw; (try dsimp only at hSw); subst hSw; go_simp; try with_reducible rfl
                  case rest4 =>
                    show wpAnyT _ _ _ _ _ _ _ (Act.put _ (some 30) _) _
                    try simp only [Act.put, List.setIfInBounds_toArray, List.set_cons_zero, List.set_cons_succ]
                    refine wpAnyT_take (i := 5) (v := ?v5) rfl (by kernel_rfl) (fun _ _ _ h => h) (Or.inl ⟨by rfl, ?hy5⟩) hHeld ?rest5
                    case hy5 => intro wq hSw; (try dsimp only at hSw); subst hSw; go_simp; try with_reducible rfl
                    case rest5 =>
                      show wpAnyT _ _ _ _ _ _ _ (Act.put _ (some 31) _) _
                      try simp only [Act.put, List.setIfInBounds_toArray, List.set_cons_zero, List.set_cons_succ]
                      refine wpAnyT_take (i := 6) (v := ?v6) rfl (by kernel_rfl) (fun _ _ _ h => h) (Or.inl ⟨by rfl, ?hy6⟩) hHeld ?rest6
                      case hy6 => intro wq hSw; (try dsimp only at hSw); subst hSw; go_simp; try with_reducible rfl
                      case rest6 =>
                        show wpAnyT _ _ _ _ _ _ _ (Act.put _ (some 32) _) _
                        try simp only [Act.put, List.setIfInBounds_toArray, List.set_cons_zero, List.set_cons_succ]
                        refine wpAnyT_take (i := 7) (v := ?v7) rfl (by kernel_rfl) (fun _ _ _ h => h) (Or.inl ⟨by rfl, ?hy7⟩) hHeld ?rest7
                        case hy7 => intro wq hSw; (try dsimp only at hSw); subst hSw; go_simp; try with_reducible rfl
                        case rest7 =>
                          show wpAnyT _ _ _ _ _ _ _ (Act.put _ (some 33) _) _
                          try simp only [Act.put, List.setIfInBounds_toArray, List.set_cons_zero, List.set_cons_succ]
                          refine wpAnyT_take (i := 8) (v := ?v8) rfl (by kernel_rfl) (fun _ _ _ h => h) (Or.inl ⟨by rfl, ?hy8⟩) hHeld ?rest8
                          case hy8 => intro wq hSw; (try dsimp only at hSw); subst hSw; go_simp; try with_reducible rfl
                          case rest8 =>
                            show wpAnyT _ _ _ _ _ _ _ (Act.put _ (some 34) _) _
                            try simp only [Act.put, List.setIfInBounds_toArray, List.set_cons_zero, List.set_cons_succ]
                            refine wpAnyT_take (i := 9) (v := ?v9) rfl (by kernel_rfl) (fun _ _ _ h => h) (Or.inl ⟨by rfl, ?hy9⟩) hHeld ?rest9
                            case hy9 => intro wq hSw; (try dsimp only at hSw); subst hSw; go_simp; try with_reducible rfl
                            case rest9 =>
                              show wpAnyT _ _ _ _ _ _ _ (Act.put _ (some 35) _) _
                              try simp only [Act.put, List.setIfInBounds_toArray, List.set_cons_zero, List.set_cons_succ]
                              refine wpAnyT_take (i := 10) (v := ?v10) rfl (by kernel_rfl) (fun _ _ _ h => h) (Or.inl ⟨by rfl, ?hy10⟩) hHeld ?rest10
                              case hy10 => intro wq hSw; (try dsimp only at hSw); subst hSw; go_simp; try with_reducible rfl
                              case rest10 =>
                                show wpAnyT _ _ _ _ _ _ _ (Act.put _ (some 36) _) _
                                try simp only [Act.put, List.setIfInBounds_toArray, List.set_cons_zero, List.set_cons_succ]
                                refine wpAnyT_take (i := 11) (v := ?v11) rfl (by kernel_rfl) (fun _ _ _ h => h) (Or.inl ⟨by rfl, ?hy11⟩) hHeld ?rest11
                                case hy11 => intro wq hSw; (try dsimp only at hSw); subst hSw; go_simp; try with_reducible rfl
                                case rest11 =>
                                  show wpAnyT _ _ _ _ _ _ _ (Act.put _ (some 37) _) _
                                  try simp only [Act.put, List.setIfInBounds_toArray, List.set_cons_zero, List.set_cons_succ]
                                  refine wpAnyT_take (i := 12) (v := ?v12) rfl (by kernel_rfl) (fun _ _ _ h => h) (Or.inl ⟨by rfl, ?hy12⟩) hHeld ?rest12
                                  case hy12 => intro wq hSw; (try dsimp only at hSw); subst hSw; go_simp; try with_reducible rfl
                                  case rest12 =>
                                    show wpAnyT _ _ _ _ _ _ _ (Act.put _ (some 38) _) _
                                    try simp only [Act.put, List.setIfInBounds_toArray, List.set_cons_zero, List.set_cons_succ]
                                    refine wpAnyT_take (i := 13) (v := ?v13) rfl (by kernel_rfl) (fun _ _ _ h => h) (Or.inl ⟨by rfl, ?hy13⟩) hHeld ?rest13
                                    case hy13 => intro wq hSw; (try dsimp only at hSw); subst hSw; go_simp; try with_reducible rfl
                                    case rest13 =>
                                      show wpAnyT _ _ _ _ _ _ _ (Act.put _ (some 39) _) _
                                      try simp only [Act.put, List.setIfInBounds_toArray, List.set_cons_zero, List.set_cons_succ]
                                      refine wpAnyT_take (i := 14) (v := ?v14) rfl (by kernel_rfl) (fun _ _ _ h => h) (Or.inl ⟨by rfl, ?hy14⟩) hHeld ?rest14
                                      case hy14 => intro wq hSw; (try dsimp only at hSw); subst hSw; go_simp; try with_reducible rfl
                                      case rest14 =>
                                        show wpAnyT _ _ _ _ _ _ _ (Act.put _ (some 40) _) _
                                        try simp only [Act.put, List.setIfInBounds_toArray, List.set_cons_zero, List.set_cons_succ]
                                        refine wpAnyT_take (i := 15) (v := ?v15) rfl (by kernel_rfl) (fun _ _ _ h => h) (Or.inl ⟨by rfl, ?hy15⟩) hHeld ?rest15
                                        case hy15 => intro wq hSw; (try dsimp only at hSw); subst hSw; go_simp; try with_reducible rfl
                                        case rest15 =>
                                          show wpAnyT _ _ _ _ _ _ _ (Act.put _ (some 41) _) _
                                          try simp only [Act.put, List.setIfInBounds_toArray, List.set_cons_zero, List.set_cons_succ]
                                          refine wpAnyT_take (i := 16) (v := ?v16) rfl (by kernel_rfl) (fun _ _ _ h => h) (Or.inl ⟨by rfl, ?hy16⟩) hHeld ?rest16
                                          case hy16 => intro wq hSw; (try dsimp only at hSw); subst hSw; go_simp; try with_reducible rfl
                                          case rest16 =>
                                            show wpAnyT _ _ _ _ _ _ _ (Act.put _ (some 42) _) _
                                            try simp only [Act.put, List.setIfInBounds_toArray, List.set_cons_zero, List.set_cons_succ]
                                            refine wpAnyT_one (i := 17) rfl (by kernel_rfl) (fun K hK => ?_)
                                            go_simp
                                            refine hK.out _ _ (fun h => absurd (h.symm.trans (show allB _ _ = true by kernel_rfl)) (by decide)) ?_
                                            clear hK K hHeld
                                            try simp only [Act.put, List.setIfInBounds_toArray, List.set_cons_zero, List.set_cons_succ]
                                            refine wpAnyT_done (by kernel_rfl) ?_
                                            refine NoPanic.normal ?_
                                            obtain ⟨w2, hw2⟩ : ∃ w2, w2 = (wr.setCell ⟨gb, k, none⟩ (.slice (some ⟨ubk, uof, none⟩) bl.length ucp)).drew := ⟨_, rfl⟩
                                            rw [← hw2] at H8 ⊢
                                            clear hw2 c0 c1 cu0 fu0 cpk cul HST
                                            have hnp := HNP.out
                                            subst hnp
                                            have d1 : w2.cell? ⟨rb, 1, none⟩ = some (.slice (some ⟨gp, 0, none⟩) ps'.length cp0) := (H8.out.arrCell (i := 0) rfl 1).trans rfl
                                            obtain ⟨g', e', d2, d3⟩ := H8.out.pnCell HPK.out
                                            cases e'
                                            have H9 := Lib.hid ((H8.out.bsClear (3 + k) (H8.out.pnGet HPK.out)).rowSet1 2 (n := ps'.length) (cap := cp0) (g := gp) (t := 124) (ht := neBb) (xs := ps'.map (·.1)) (by rw [List.getElem?_set_ne (by omega)]; rfl) k (.slice none 0 0))
                                            rw [refL_turn HKN.out] at H9
                                            go_wp2
                                            first | exact ⟨⟨k + 1, _, _, HKN.out, by go_num, H9.out, HR9.out⟩, by have := HKN.out; simp [intOf]; omega⟩ | (go_roundw; case rel => first | exact ⟨k + 1, _, _, HKN.out, by go_num, H9.out, HR9.out⟩ | ((repeat apply Exists.intro); exact ⟨⟨k + 1, _, _, HKN.out, by go_num, H9.out, HR9.out⟩, rfl⟩); case measure => have := HKN.out; simp [intOf]; omega)
      · have hk1 : ¬ (k : Int) < (n : Int) := by omega
        obtain rfl : k = n := by omega
        have HFL := Lib.hid (show RefOk E.flushed ds' ps' last from by
          have := HRO.out
          rw [← HN.out] at this
          exact this.upToAll HWF.out)
        clear hlt
        go_wp2
        go_ret
        obtain ⟨e1, e2⟩ := HW1.out HS.out
        rw [e1, e2, HE.out, HL1.out, HL2.out]
        exact ⟨rfl, ds', ps', HST.out, HFL.out⟩
end
end Go.Proofs.Ytkanfpmmgaipnaa
