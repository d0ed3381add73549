/-
  The reference's Write.
-/
import Derived.Test.YtkanfpmmgaipnaaTlwL
namespace Go.Proofs.Ytkanfpmmgaipnaa
set_option linter.unusedVariables false
set_option linter.unusedSimpArgs false
open Go.ChangeMaps Go.MapKept Go.RowKit

theorem infoBy : (Try.prog.info? 31).map (fun i => (i.zero, i.size, i.bytes)) = some (some (.slice none 0 0), 1, 24) := by kernel_rfl

theorem RefOk.op {D : DSt} {ds : List Blk} {ps : List (Value × List Blk)} {last : Int} (h : RefOk D ds ps last) (ho : D.ops + 1 ≤ 1000) : RefOk D.op ds ps last :=
  ⟨h.nb, h.np, h.base, h.pend, h.lst.op (by have := h.ops; omega), h.n40, ho⟩

theorem RefOk.put {D : DSt} {ds : List Blk} {ps : List (Value × List Blk)} {last : Int} (h : RefOk D ds ps last) (k : Nat) (hk : k < D.n) (v' : Value) (b : Blk) : RefOk (D.put k b) ds (ps.set k (v', D.pend k ++ [b])) last := by
  refine ⟨h.nb, by rw [List.length_set]; exact h.np, h.base, fun a ha => ?_, h.lst, h.n40, h.ops⟩
  show ∃ v, (ps.set k (v', D.pend k ++ [b]))[a]? = some (v, if a = k then D.pend k ++ [b] else D.pend a)
  by_cases e : a = k
  · subst e
    rw [if_pos rfl]
    exact ⟨v', List.getElem?_set_self (by rw [h.np]; exact hk)⟩
  · rw [if_neg e, List.getElem?_set_ne (Ne.symm e)]
    exact h.pend a ha

section
variable {w0 : Gnd} {w : World} {rs : List Res}

theorem St.rowCell1 (h : St w0 w rs) {i n cap g : Nat} {t : TypeId} {ht : ¬ U8T t} {xs : List Value} (hr : rs[i]? = some (rowR t ht 1 (.slice (some ⟨g, 0, none⟩) n cap) n xs)) {j : Nat} {u : Value} (hu : xs[j]? = some u) :
    w.cell? ⟨g, j, none⟩ = some u ∧ w.frozen? ⟨g, j, none⟩ = false := by
  have H : w.ownsRow 0 t 1 (.slice (some ⟨g, 0, none⟩) n cap) n xs := h.get hr
  rcases H.2 with ⟨e, _⟩ | ⟨g', cap', cur, e, _, h2, _⟩
  · cases e
  · cases e
    have hrow := H.cells (g := g) rfl
    have add0 : ∀ m, (⟨g, 0, none⟩ : Addr).add m = ⟨g, m, none⟩ := fun m => by unfold Addr.add; split <;> simp_all
    refine ⟨?_, frozen_of_block h2⟩
    have := hrow j u hu
    rw [add0] at this
    exact this

theorem St.rowSet1 (h : St w0 w rs) (i : Nat) {n cap g : Nat} {t : TypeId} {ht : ¬ U8T t} {xs : List Value} (hr : rs[i]? = some (rowR t ht 1 (.slice (some ⟨g, 0, none⟩) n cap) n xs)) (j : Nat) (u : Value) :
    St w0 (w.setCell ⟨g, j, none⟩ u) (rs.set i (rowR t ht 1 (.slice (some ⟨g, 0, none⟩) n cap) n (xs.set j u))) := by
  have H : w.ownsRow 0 t 1 (.slice (some ⟨g, 0, none⟩) n cap) n xs := h.get hr
  have hf : Frm (rowR t ht 1 (.slice (some ⟨g, 0, none⟩) n cap) n xs).M w (w.setCell ⟨g, j, none⟩ u) := ((Frm.refl (Only g) w).setOnly u).mono (fun x _ e => by
    have e : x = g := e
    rw [e]; rfl)
  exact h.write i hr hf (rowR t ht 1 (.slice (some ⟨g, 0, none⟩) n cap) n (xs.set j u)) (H.stored j u).1 (fun x hx => .inl hx)

/-- A block's pending row, turned. -/
theorem refL_turn {rb : Nat} {bv pv : Value} {ds : List Blk} {ps : List (Value × List Blk)} {N last : Int} {k : Nat} (hk : k < ps.length) (v : Value) (f : List Blk) :
    ((refL rb bv pv ds ps N last ++ rs).set (3 + k) (bsR v f)).set 2 (rowR 124 neBb 1 pv ps.length ((ps.map (·.1)).set k v)) = refL rb bv pv ds (ps.set k (v, f)) N last ++ rs := by
  unfold refL
  rw [Nat.add_comm 3 k, List.length_set, List.map_set]
  show rst rb bv pv N last :: bsR bv ds :: rowR 124 neBb 1 pv ps.length ((ps.map (·.1)).set k v) :: ((pnL ps ++ rs).set k (bsR v f)) = _
  rw [List.set_append_left _ _ (by unfold pnL; rw [List.length_map]; exact hk)]
  unfold pnL
  rw [List.map_set]
  rfl

set_option maxRecDepth 100000 in
set_option maxHeartbeats 4000000 in
theorem S_rWrite {rb : Nat} {bv pv : Value} {ds : List Blk} {ps : List (Value × List Blk)} {last : Int} {D : DSt} (h : St w0 w (refL rb bv pv ds ps (D.ops : Int) last ++ rs)) (hD : D.Wf) (hR : RefOk D ds ps last) (ho : D.ops + 1 ≤ 1000) {i : Nat} {b : Value} {bs : Blk} (hb : rs[i]? = some (byt b bs)) (k : Int) (hk : okI k) (hbl : bs.length ≤ 1000000) :
    Calls Try.prog 79 #[.pointer (some ⟨rb, 0, none⟩), .int .i64 k, b] w fun e w' => e = .returned (.int .i64 (D.writeE k bs)) ∧ ∃ ps', St w0 w' (refL rb bv pv ds ps' ((D.write k bs).ops : Int) last ++ rs) ∧ RefOk (D.write k bs) ds ps' last := by
  have hops := hR.ops
  have hOFF := Lib.hid (S_rOff (show St w0 w (rst rb bv pv (D.ops : Int) last :: (bsR bv ds :: rowR 124 neBb 1 pv ps.length (ps.map (·.1)) :: (pnL ps ++ rs))) from h) ⟨by omega, by omega⟩)
  have EOFF := Lib.hid (hR.lst.off (by omega))
  have HOP := Lib.hid (hR.op ho)
  obtain ⟨a1, hb1⟩ : ∃ x, b = x := ⟨_, rfl⟩
  obtain ⟨blk, off, cp, rfl, hcp, hcell, _⟩ := (show BytesAt w b bs AnyB from (h.drop 3).get (i := ps.length + i) (by
    show ((pnL ps) ++ rs)[ps.length + i]? = _
    rw [List.getElem?_append_right (by unfold pnL; rw [List.length_map]; omega)]
    unfold pnL
    rw [List.length_map, Nat.add_sub_cancel_left]
    exact hb)).cells
  have hn40 := hR.n40
  have hnb := hR.nb
  have HW : Hid (D.off = true → D.write k bs = D.op ∧ D.writeE k bs = 9) := Lib.hid fun e => by unfold DSt.write DSt.writeE; rw [if_pos e, if_pos e]; exact ⟨rfl, rfl⟩
  have HW1 : Hid (D.off = false → D.may k bs = false → D.write k bs = D.op ∧ D.writeE k bs = 1) := Lib.hid fun e e2 => by unfold DSt.write DSt.writeE; simp [e, e2]
  have HW2 : Hid (D.off = false → D.may k bs = true → D.write k bs = D.op.put k.toNat bs ∧ D.writeE k bs = 0) := Lib.hid fun e e2 => by unfold DSt.write DSt.writeE; simp [e, e2]
  have HCP := Lib.hid hcp
  have HHR := Lib.hid hR
  have HHD := Lib.hid hD
  have HOK := Lib.hid ((okI_iff k).1 hk)
  have HBB := Lib.hid hb
  clear h hcell hcp hR hD hk hb hb1
  go_enter Try.func79, Try.ntmps79
  go_wp2_with fail
  refine hOFF.out.mono ?_
  clear hOFF
  rintro e w1 ⟨rfl, h1⟩
  have H1 := Lib.hid (show St w0 w1 (refL rb bv pv ds ps (D.op.ops : Int) last ++ rs) from h1)
  rw [EOFF.out]
  clear h1 EOFF
  obtain ⟨s, hs⟩ : ∃ s, D.off = s := ⟨_, rfl⟩
  rw [hs]
  have HS := Lib.hid hs
  clear hs
  cases s with
  | true =>
    go_wp2
    go_ret
    obtain ⟨e1, e2⟩ := HW.out HS.out
    rw [e1, e2]
    exact ⟨rfl, ps, H1.out, HOP.out⟩
  | false =>
    obtain ⟨ab, cb, rfl⟩ := H1.out.bsLen (i := 1) rfl
    have c0 : w1.cell? ⟨rb, 0, none⟩ = some (.slice ab ds.length cb) := (H1.out.arrCell (i := 0) rfl 0).trans rfl
    have HNB := Lib.hid hnb
    clear hnb
    by_cases k0 : k < 0
    · have e := HW1.out HS.out (by unfold DSt.may; exact decide_eq_false (by have := HNB.out; omega))
      have HE := Lib.hid e
      clear e
      go_wp2_with fail
      go_ret
      rw [HE.out.1, HE.out.2]
      exact ⟨rfl, ps, H1.out, HOP.out⟩
    · by_cases k1 : (ds.length : Int) ≤ k
      · have e := HW1.out HS.out (by unfold DSt.may; exact decide_eq_false (by have := HNB.out; omega))
        have HE := Lib.hid e
        clear e
        go_wp2_with fail
        go_ret
        rw [HE.out.1, HE.out.2]
        exact ⟨rfl, ps, H1.out, HOP.out⟩
      · by_cases k2 : (bs.length : Int) = 512
        · have hkn : k.toNat < D.n := by have := HNB.out; omega
          obtain ⟨k', rfl⟩ : ∃ k' : Nat, k = k' := ⟨k.toNat, by omega⟩
          have e := HW2.out HS.out (by unfold DSt.may; exact decide_eq_true ⟨by omega, by have := HNB.out; omega, by omega⟩)
          have HE := Lib.hid e
          clear e
          obtain ⟨pk, hpk⟩ := HHR.out.pend k' hkn
          obtain ⟨ap, cp0, rfl⟩ := H1.out.pnLen
          obtain ⟨gp, rfl, cpk, fpk⟩ := H1.out.pnCell hpk
          have hin := H1.out.pnGet hpk
          obtain ⟨aq, cq, rfl⟩ := H1.out.bsLen hin
          have hkp : k' < ps.length := by have := HHR.out.np; omega
          have hfl : (D.pend k').length ≤ 1000 := by have := HHD.out.few k'; omega
          obtain ⟨f, hf⟩ : ∃ f, D.pend k' = f := ⟨_, rfl⟩
          have HEF := Lib.hid hf
          rw [hf] at hin cpk hpk hfl
          clear hf
          have HIN := Lib.hid hin
          have HKP := Lib.hid hkp
          have hbA : BytesAt w1 (.slice (some ⟨blk, off, none⟩) bs.length cp) bs AnyB := (H1.out.drop 3).get (i := ps.length + i) (by
            show ((pnL ps) ++ rs)[ps.length + i]? = _
            rw [List.getElem?_append_right (by unfold pnL; rw [List.length_map]; omega)]
            unfold pnL
            rw [List.length_map, Nat.add_sub_cancel_left]
            exact HBB.out)
          have HCL : Hid (∀ j u, (bs.map B8)[j]? = some u → w1.drew.cell? ((⟨blk, off, none⟩ : Addr).add j) = some u) := Lib.hid (by
            obtain ⟨b1, o1, c1, e1, _, e3, _⟩ := hbA.cells
            cases e1
            exact e3)
          have KS : Hid (∀ y, St w0 y (refL rb (.slice ab ds.length cb) (.slice (some ⟨gp, 0, none⟩) ps.length cp0) ds ps (D.op.ops : Int) last ++ rs) → y.cell? ⟨rb, 1, none⟩ = some (.slice (some ⟨gp, 0, none⟩) ps.length cp0) ∧ y.cell? ⟨gp, k', none⟩ = some (.slice aq f.length cq)) := Lib.hid fun y hy =>
            ⟨(hy.arrCell (i := 0) rfl 1).trans rfl, (hy.rowCell1 (i := 2) rfl (by rw [List.getElem?_map, hpk]; rfl)).1⟩
          have PREP : Hid (∀ y v', y.ownsRow 0 5 1 v' bs.length ([] ++ bs.map B8) → w1.drew.grownBy y (Value.slice none 0 0).ownBlock → v' ≠ .slice none 0 0 → St w0 y (refL rb (.slice ab ds.length cb) (.slice (some ⟨gp, 0, none⟩) ps.length cp0) ds ps (D.op.ops : Int) last ++ rs) ∧ BytesAt y v' bs AnyB ∧ ∃ vs, y.ownsRow 0 31 1 (.slice aq f.length cq) f.length vs ∧ vs.length = f.length ∧ ∀ (i : Nat) u b, vs[i]? = some u → f[i]? = some b → BytesAt y u b AnyB) := Lib.hid fun y v' h1 h2 h3 => by
            have hF : Frm NoB w1 y := (Frm.refl NoB w1).drew.trans ((Frm.ofGrown h2).mono (fun x _ e => by simp [Value.ownBlock] at e)) (fun _ _ (e : False) => e.elim)
            have hS := H1.out.frm0 hF
            have hb1 := BytesAt_of_owns (bs := bs) (by simpa using h1) h3
            exact ⟨hS, hb1.any, hS.get HIN.out⟩
          have POST : Hid (∀ yA yB v1 g2 cap2 vs o, St w0 yA (refL rb (.slice ab ds.length cb) (.slice (some ⟨gp, 0, none⟩) ps.length cp0) ds ps (D.op.ops : Int) last ++ rs) → BytesAt yA v1 bs AnyB → (yA.ownsRow 0 31 1 (.slice aq f.length cq) f.length vs ∧ vs.length = f.length ∧ ∀ (i : Nat) u b, vs[i]? = some u → f[i]? = some b → BytesAt yA u b AnyB) →
              yB.ownsRow 0 31 1 (.slice (some ⟨g2, 0, none⟩) (f.length + 1) cap2) (f.length + 1) (vs ++ [v1]) → (yA.alloc o).grownBy yB (Value.slice aq f.length cq).ownBlock → ((Value.slice aq f.length cq).ownBlock = some g2 ∨ g2 = (yA.alloc o).heap.size) →
              yB.cell? ⟨rb, 1, none⟩ = some (.slice (some ⟨gp, 0, none⟩) ps.length cp0) ∧ yB.cell? ⟨gp, k', none⟩ = some (.slice aq f.length cq) ∧ yB.frozen? ⟨gp, k', none⟩ = false ∧
              St w0 (yB.setCell ⟨gp, k', none⟩ (.slice (some ⟨g2, 0, none⟩) (f.length + 1) cap2)) (refL rb (.slice ab ds.length cb) (.slice (some ⟨gp, 0, none⟩) ps.length cp0) ds (ps.set k' (.slice (some ⟨g2, 0, none⟩) (f.length + 1) cap2, f ++ [bs])) (D.op.ops : Int) last ++ rs)) := Lib.hid fun yA yB v1 g2 cap2 vs o hS hB hv hown hg hat => by
            have hB2 := hS.bsAppend (3 + k') HIN.out hv hB o hown hg (by
              rcases hat with e | e
              · left; rw [e]; simp [Value.ownBlock]
              · right; rw [← e]; simp [Value.ownBlock])
            have g0 : ∀ x : Res, ((refL rb (.slice ab ds.length cb) (.slice (some ⟨gp, 0, none⟩) ps.length cp0) ds ps (D.op.ops : Int) last ++ rs).set (3 + k') x)[0]? = some (rst rb (.slice ab ds.length cb) (.slice (some ⟨gp, 0, none⟩) ps.length cp0) (D.op.ops : Int) last) := fun x => by
              rw [List.getElem?_set_ne (by omega)]; rfl
            have g2' : ∀ x : Res, ((refL rb (.slice ab ds.length cb) (.slice (some ⟨gp, 0, none⟩) ps.length cp0) ds ps (D.op.ops : Int) last ++ rs).set (3 + k') x)[2]? = some (rowR 124 neBb 1 (.slice (some ⟨gp, 0, none⟩) ps.length cp0) ps.length (ps.map (·.1))) := fun x => by
              rw [List.getElem?_set_ne (by omega)]; rfl
            have hc := hB2.rowCell1 (i := 2) (g2' _) (j := k') (u := .slice aq f.length cq) (by rw [List.getElem?_map, hpk]; rfl)
            have hst := hB2.rowSet1 2 (g2' _) k' (.slice (some ⟨g2, 0, none⟩) (f.length + 1) cap2)
            rw [refL_turn HKP.out] at hst
            exact ⟨(hB2.arrCell (g0 _) 1).trans rfl, hc.1, hc.2, hst⟩
          obtain ⟨cs1, cs2⟩ := KS.out w1 H1.out
          obtain ⟨i0, hi0, hz0, hz1, hz2⟩ := info_parts infoU8
          obtain ⟨iy, hiy, hy0, hy1, hy2⟩ := info_parts infoBy
          have HO := Lib.hid (World.ownsRow_nil w1.drew 0 5 1)
          have HL : Hid ((bs.map B8).length = bs.length * 1) := Lib.hid (by simp)
          have HONE : Hid (∀ u ∈ bs.map B8, u.oneCell' = true) := Lib.hid (by intro u hu; obtain ⟨x, _, rfl⟩ := List.mem_map.1 hu; rfl)
          have HPO : Hid (0 < bs.length) := Lib.hid (by omega)
          have HMX : Hid (0 + bs.length ≤ maxLen) := Lib.hid (by simp only [maxLen]; omega)
          have HBY : Hid ((0 + bs.length) * 1 ≤ 140737488355328) := Lib.hid (by omega)
          have HMX2 : Hid (f.length + 1 ≤ maxLen) := Lib.hid (by simp only [maxLen]; omega)
          have HBY2 : Hid ((f.length + 1) * 24 ≤ 140737488355328) := Lib.hid (by omega)
          have hk0 : (0 : Int) ≤ (k' : Int) := Int.natCast_nonneg _
          have hk3 : (k' : Int) < (ps.length : Int) := by omega
          clear hbA hin hkp hfl hpk cpk fpk k0 hkn
          go_upto_region 6 with (fail)
          refine wp_region_noPanic ?_
          refine wp_region_T (S := fun y => y.cell? ⟨rb, 1, none⟩ = some (.slice (some ⟨gp, 0, none⟩) ps.length cp0) ∧ y.cell? ⟨gp, k', none⟩ = some (.slice aq f.length cq)) (by kernel_rfl) ?_
          have hHeld : (fun y : World => y.cell? ⟨rb, 1, none⟩ = some (.slice (some ⟨gp, 0, none⟩) ps.length cp0) ∧ y.cell? ⟨gp, k', none⟩ = some (.slice aq f.length cq)) w1.drew := KS.out _ (H1.out.frm0 (Frm.refl NoB w1).drew)
          refine wpAnyT_take (i := 0) (v := ?v0) rfl (by kernel_rfl) (fun _ _ _ h => h) (Or.inl ⟨by rfl, ?hy0⟩) hHeld ?rest0
          case hy0 => intro wq hSw; (try dsimp only at hSw); go_simp; try with_reducible rfl
          case rest0 =>
            show wpAnyT _ _ _ _ _ _ _ (Act.put _ (some 26) _) _
            try simp only [Act.put, List.setIfInBounds_toArray, List.set_cons_zero, List.set_cons_succ]
            refine wpAnyT_take (i := 1) (v := ?v1) rfl (by kernel_rfl) (fun _ _ _ h => h) (Or.inl ⟨by rfl, ?hy1⟩) hHeld ?rest1
            case hy1 => intro wq hSw; (try dsimp only at hSw); go_simp; try with_reducible rfl
            case rest1 =>
              show wpAnyT _ _ _ _ _ _ _ (Act.put _ (some 27) _) _
              try simp only [Act.put, List.setIfInBounds_toArray, List.set_cons_zero, List.set_cons_succ]
              refine wpAnyT_take (i := 2) (v := ?v2) rfl (by kernel_rfl) (fun _ _ _ h => h) (Or.inl ⟨by rfl, ?hy2⟩) hHeld ?rest2
              case hy2 => intro wq hSw; (try dsimp only at hSw); go_simp; try with_reducible rfl
              case rest2 =>
                show wpAnyT _ _ _ _ _ _ _ (Act.put _ (some 28) _) _
                try simp only [Act.put, List.setIfInBounds_toArray, List.set_cons_zero, List.set_cons_succ]
                refine wpAnyT_take (i := 3) (v := ?v3) rfl (by kernel_rfl) (fun _ _ _ h => h) (Or.inl ⟨by rfl, ?hy3⟩) hHeld ?rest3
                case hy3 => intro wq hSw; (try dsimp only at hSw); go_simp; try with_reducible rfl
                case rest3 =>
                  show wpAnyT _ _ _ _ _ _ _ (Act.put _ (some 29) _) _
                  try simp only [Act.put, List.setIfInBounds_toArray, List.set_cons_zero, List.set_cons_succ]
                  refine wpAnyT_take (i := 4) (v := ?v4) rfl (by kernel_rfl) (fun _ _ _ h => h) (Or.inl ⟨by rfl, ?hy4⟩) hHeld ?rest4
                  case hy4 => intro wq hSw; (try dsimp only at hSw); go_simp; try with_reducible rfl
                  case rest4 =>
                    show wpAnyT _ _ _ _ _ _ _ (Act.put _ (some 30) _) _
                    try simp only [Act.put, List.setIfInBounds_toArray, List.set_cons_zero, List.set_cons_succ]
                    refine wpAnyT_take (i := 5) (v := ?v5) rfl (by kernel_rfl) (fun _ _ _ h => h) (Or.inl ⟨by rfl, ?hy5⟩) hHeld ?rest5
                    case hy5 => intro wq hSw; (try dsimp only at hSw); go_simp; try with_reducible rfl
                    case rest5 =>
                      show wpAnyT _ _ _ _ _ _ _ (Act.put _ (some 31) _) _
                      try simp only [Act.put, List.setIfInBounds_toArray, List.set_cons_zero, List.set_cons_succ]
                      refine wpAnyT_take (i := 6) (v := ?v6) rfl (by kernel_rfl) (fun _ _ _ h => h) (Or.inl ⟨by rfl, ?hy6⟩) hHeld ?rest6
                      case hy6 => intro wq hSw; (try dsimp only at hSw); go_simp; try with_reducible rfl
                      case rest6 =>
                        show wpAnyT _ _ _ _ _ _ _ (Act.put _ (some 32) _) _
                        try simp only [Act.put, List.setIfInBounds_toArray, List.set_cons_zero, List.set_cons_succ]
                        refine wpAnyT_take (i := 7) (v := ?v7) rfl (by kernel_rfl) (fun _ _ _ h => h) (Or.inl ⟨by rfl, ?hy7⟩) hHeld ?rest7
                        case hy7 => intro wq hSw; (try dsimp only at hSw); go_simp; try with_reducible rfl
                        case rest7 =>
                          show wpAnyT _ _ _ _ _ _ _ (Act.put _ (some 33) _) _
                          try simp only [Act.put, List.setIfInBounds_toArray, List.set_cons_zero, List.set_cons_succ]
                          refine wpAnyT_take (i := 8) (v := ?v8) rfl (by kernel_rfl) (fun _ _ _ h => h) (Or.inl ⟨by rfl, ?hy8⟩) hHeld ?rest8
                          case hy8 => intro wq hSw; (try dsimp only at hSw); go_simp; try with_reducible rfl
                          case rest8 =>
                            show wpAnyT _ _ _ _ _ _ _ (Act.put _ (some 34) _) _
                            try simp only [Act.put, List.setIfInBounds_toArray, List.set_cons_zero, List.set_cons_succ]
                            refine wpAnyT_take (i := 9) (v := ?v9) rfl (by kernel_rfl) (fun _ _ _ h => h) (Or.inl ⟨by rfl, ?hy9⟩) hHeld ?rest9
                            case hy9 => intro wq hSw; (try dsimp only at hSw); go_simp; try with_reducible rfl
                            case rest9 =>
                              show wpAnyT _ _ _ _ _ _ _ (Act.put _ (some 35) _) _
                              try simp only [Act.put, List.setIfInBounds_toArray, List.set_cons_zero, List.set_cons_succ]
                              refine wpAnyT_take (i := 10) (v := ?v10) rfl (by kernel_rfl) (fun _ _ _ h => h) (Or.inl ⟨by rfl, ?hy10⟩) hHeld ?rest10
                              case hy10 => intro wq hSw; (try dsimp only at hSw); go_simp; try with_reducible rfl
                              case rest10 =>
                                show wpAnyT _ _ _ _ _ _ _ (Act.put _ (some 36) _) _
                                try simp only [Act.put, List.setIfInBounds_toArray, List.set_cons_zero, List.set_cons_succ]
                                refine wpAnyT_take (i := 11) (v := ?v11) rfl (by kernel_rfl) (fun _ _ _ h => h) (Or.inl ⟨by rfl, ?hy11⟩) hHeld ?rest11
                                case hy11 => intro wq hSw; (try dsimp only at hSw); go_simp; try with_reducible rfl
                                case rest11 =>
                                  show wpAnyT _ _ _ _ _ _ _ (Act.put _ (some 37) _) _
                                  try simp only [Act.put, List.setIfInBounds_toArray, List.set_cons_zero, List.set_cons_succ]
                                  refine wpAnyT_take (i := 12) (v := ?v12) rfl (by kernel_rfl) (fun _ _ _ h => h) (Or.inl ⟨by rfl, ?hy12⟩) hHeld ?rest12
                                  case hy12 => intro wq hSw; (try dsimp only at hSw); go_simp; try with_reducible rfl
                                  case rest12 =>
                                    show wpAnyT _ _ _ _ _ _ _ (Act.put _ (some 38) _) _
                                    try simp only [Act.put, List.setIfInBounds_toArray, List.set_cons_zero, List.set_cons_succ]
                                    refine wpAnyT_take (i := 13) (v := ?v13) rfl (by kernel_rfl) (fun _ _ _ h => h) (Or.inl ⟨by rfl, ?hy13⟩) hHeld ?rest13
                                    case hy13 => intro wq hSw; (try dsimp only at hSw); go_simp; try with_reducible rfl
                                    case rest13 =>
                                      show wpAnyT _ _ _ _ _ _ _ (Act.put _ (some 39) _) _
                                      try simp only [Act.put, List.setIfInBounds_toArray, List.set_cons_zero, List.set_cons_succ]
                                      refine wpAnyT_one (i := 14) rfl (by kernel_rfl) (fun K hK => ?_)
                                      refine step_append_lies _ rfl _ _ 31 rfl 0 5 i0 (.int .u8 0) 1 1 Try.underlying31 hi0 hz0 hz1 hz2 rfl (by decide) (.slice none 0 0) 0 [] rfl HO.out ⟨blk, off, none⟩ bs.length cp (bs.map B8) rfl HL.out HCL.out HONE.out HPO.out HMX.out HBY.out (Nat.zero_le _) _ rfl ?_
                                      intro g1 cap1 yA hown1 hgrow1 hat1 hlt1
                                      rw [Nat.zero_add] at hown1 ⊢
                                      obtain ⟨hS, hB, vs, hv1, hv2, hv3⟩ := PREP.out _ _ hown1 hgrow1 (by simp)
                                      have hHeld2 := KS.out yA hS
                                      refine hK.out _ _ (fun _ => hHeld2) ?_
                                      clear hK K hHeld
                                      show wpAnyT _ _ _ _ _ _ _ (Act.put _ (some 40) _) _
                                      try simp only [Act.put, List.setIfInBounds_toArray, List.set_cons_zero, List.set_cons_succ]
                                      refine wpAnyT_one (i := 15) rfl (by kernel_rfl) (fun K hK => ?_)
                                      go_simp
                                      have hHeld3 := KS.out (yA.alloc (.cells #[.slice (some ⟨g1, 0, none⟩) bs.length cap1] 31 (0, 0))) (hS.frm0 ((Frm.refl NoB yA).alloc _))
                                      refine hK.out _ _ (fun _ => hHeld3) ?_
                                      clear hK K
                                      try simp only [Act.put, List.setIfInBounds_toArray, List.set_cons_zero, List.set_cons_succ]
                                      refine wpAnyT_one (i := 16) rfl (by kernel_rfl) (fun K hK => ?_)
                                      refine step_append_lies _ rfl _ _ 124 rfl 0 31 iy (.slice none 0 0) 1 24 Try.underlying124 hiy hy0 hy1 hy2 rfl (by decide) (.slice aq f.length cq) f.length vs rfl (hv1.alloc _) ⟨yA.heap.size, 0, none⟩ 1 1 [.slice (some ⟨g1, 0, none⟩) bs.length cap1] rfl rfl (new_one _ _ _) (by intro u hu; simp at hu; subst hu; rfl) (by decide) HMX2.out HBY2.out (Nat.zero_le _) _ rfl ?_
                                      intro g2 cap2 yB hown2 hgrow2 hat2 hlt2
                                      obtain ⟨hq1, hq2, hq3, hq4⟩ := POST.out yA yB _ g2 cap2 vs _ hS hB ⟨hv1, hv2, hv3⟩ hown2 hgrow2 hat2
                                      refine hK.out _ _ (fun _ => ⟨hq1, hq2⟩) ?_
                                      clear hK K hHeld3
                                      show wpAnyT _ _ _ _ _ _ _ (Act.put _ (some 42) _) _
                                      try simp only [Act.put, List.setIfInBounds_toArray, List.set_cons_zero, List.set_cons_succ]
                                      refine wpAnyT_one (i := 17) rfl (by kernel_rfl) (fun K hK => ?_)
                                      go_simp
                                      refine hK.out _ _ (fun _ => ⟨hq1, hq2⟩) ?_
                                      clear hK K
                                      try simp only [Act.put, List.setIfInBounds_toArray, List.set_cons_zero, List.set_cons_succ]
                                      refine wpAnyT_one (i := 18) rfl (by kernel_rfl) (fun K hK => ?_)
                                      go_simp
                                      refine hK.out _ _ (fun h => absurd (h.symm.trans (show allB _ _ = true by kernel_rfl)) (by decide)) ?_
                                      clear hK K
                                      try simp only [Act.put, List.setIfInBounds_toArray, List.set_cons_zero, List.set_cons_succ]
                                      refine wpAnyT_done (by kernel_rfl) ?_
                                      refine NoPanic.normal ?_
                                      go_wp2
                                      go_ret
                                      rw [HE.out.1, HE.out.2]
                                      refine ⟨rfl, _, hq4, ?_⟩
                                      rw [← HEF.out]
                                      exact HOP.out.put k' (by have := HHR.out.np; have := HKP.out; show k' < D.n; omega) _ bs
        · have e := HW1.out HS.out (by unfold DSt.may; exact decide_eq_false (by have := HNB.out; omega))
          have HE := Lib.hid e
          clear e
          have k2' : ((bs.length : Int) != 512) = true := by simpa using k2
          go_wp2_with fail
          go_ret
          rw [HE.out.1, HE.out.2]
          exact ⟨rfl, ps, H1.out, HOP.out⟩
end
end Go.Proofs.Ytkanfpmmgaipnaa
