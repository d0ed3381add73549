/-
  The reference's Copy.
-/
import Derived.Test.YtkanfpmmgaipnaaTlwN
namespace Go.Proofs.Ytkanfpmmgaipnaa
set_option linter.unusedVariables false
set_option linter.unusedSimpArgs false
open Go.ChangeMaps Go.MapKept Go.RowKit

/-- append of whatever slice to a row of one's own, as a step of a region that draws its order. -/
theorem step_append_src {P : Program} {ops : Array Oper} {o : Oper} {a : Act} {w : World} {K : Act → World → Prop} {Q : Exit → Act → World → Prop} {E : Prop} (hgd : o.guard = none) (s x : Operand) (t : TypeId)
    (ho : o.op = .call { callee := .builtin .append, args := #[s, x], argTypes := #[t, t] })
    (base : Nat) (e : TypeId) (i : TypeInfo) (z : Value) (size bytes : Nat) (ht : P.underlying t = some (.slice e)) (hi : P.info? e = some i) (hz : i.zero = some z) (hsize : i.size = size) (hby : i.bytes = bytes) (hzs : z.cells.size = size) (hsz : 0 < size)
    (v : Value) (n : Nat) (xs : List Value) (hs : a.eval s = v) (hown : w.ownsRow base e size v n xs) (ao : Option Addr) (m c : Nat) (news : List Value) (hx : a.eval x = .slice ao m c) (hl : news.length = m * size)
    (hnil : ao = none → m = 0 ∧ c = 0) (hnews : ∀ ad, ao = some ad → ∀ j u, news[j]? = some u → w.cell? (ad.add j) = some u) (h1 : ∀ u ∈ news, u.oneCell' = true) (h63 : n + m ≤ maxLen) (hbytes : (n + m) * bytes ≤ 140737488355328) (hbase : base ≤ w.heap.size)
    (h : ∀ bo cap w', w'.ownsRow base e size (.slice bo (n + m) cap) (n + m) (xs ++ news) → w.grownBy w' v.ownBlock → ((Value.slice bo (n + m) cap).ownBlock = v.ownBlock ∨ (Value.slice bo (n + m) cap).ownBlock = some w.heap.size) → K (a.put o.dst (.slice bo (n + m) cap)) w') :
    if Region.wanted o (yielded ops a.tmps) = true then Oper.wp P o a w K Q else E := by
  rw [if_pos (show Region.wanted o (yielded ops a.tmps) = true by simp [Region.wanted, hgd])]
  have form : ∀ (w' : World) (v' : Value) (k : Nat) (ys : List Value), w'.ownsRow base e size v' k ys → ∃ bo cap, v' = .slice bo k cap := fun w' v' k ys H => by
    rcases H.2 with ⟨rfl, hk⟩ | ⟨g, cap, cur, rfl, _⟩
    · exact ⟨none, 0, by rw [hk]⟩
    · exact ⟨_, _, rfl⟩
  cases ao with
  | none =>
    obtain ⟨rfl, rfl⟩ := hnil rfl
    have hn : news = [] := by rw [Nat.zero_mul] at hl; exact List.eq_nil_of_length_eq_zero hl
    subst hn
    have hr := run_append_owned_none (P := P) (w := w) base t o.type e i size ht hi v n xs hown
    obtain ⟨bo, cap, rfl⟩ := form w v n xs hown
    unfold Oper.wp execOp
    simp only [ho, resolve, invoke, builtin, Sem.run_bind, Sem.run_pure, Result.andThen_ok, List.map_toArray, List.map_cons, List.map_nil, hs, hx, hr]
    exact h bo cap w (by rw [List.append_nil]; exact hown) (World.grownBy.refl _ _) (.inl rfl)
  | some ad =>
    obtain ⟨v', w', hr, h2, h3, h4, h5⟩ := run_append_own_at (P := P) w base t o.type e i z size bytes ht hi hz hsize hby hzs hsz v n xs hown ad m c news hl (hnews ad rfl) h1 h63 hbytes hbase
    obtain ⟨bo, cap, rfl⟩ := form w' v' _ _ h2
    unfold Oper.wp execOp
    simp only [ho, resolve, invoke, builtin, Sem.run_bind, Sem.run_pure, Result.andThen_ok, List.map_toArray, List.map_cons, List.map_nil, hs, hx, hr]
    exact h bo cap w' h2 h3 h5

section
variable {w0 : Gnd} {w : World} {rs : List Res}

/-- An empty row is filled with slices that lie elsewhere. -/
theorem St.bsFill (h : St w0 w rs) (i : Nat) {ds : List Blk} (hr : rs[i]? = some (bsR (.slice none 0 0) [])) {us : List Value} (hl : us.length = ds.length) (hu : ∀ (i : Nat) u b, us[i]? = some u → ds[i]? = some b → BytesAt w u b AnyB) {v' : Value} {w' : World}
    (ho : w'.ownsRow 0 31 1 v' ds.length us) (hg : w.grownBy w' (Value.slice none 0 0).ownBlock) (hat : v'.ownBlock = (Value.slice none 0 0).ownBlock ∨ v'.ownBlock = some w.heap.size) :
    St w0 w' (rs.set i (bsR v' ds)) := by
  have hf : Frm NoB w w' := (Frm.ofGrown hg).mono (fun y _ e => by cases e)
  refine h.write i hr (hf.mono (fun y _ e => e.elim)) (bsR v' ds) ⟨us, ho, hl, fun q x b hx hb' => (hu q x b hx hb').frmZ hf (fun _ _ e => e.elim)⟩ (fun x hx => ?_)
  have hx : v'.ownBlock = some x := hx
  rcases hat with e | e
  · rw [e] at hx; cases hx
  · rw [e] at hx
    have e' : w.heap.size = x := by injection hx
    exact .inr (by omega)

theorem St.float {x : Res} {A B : List Res} (h : St w0 w (x :: (A ++ (B ++ rs)))) : St w0 w (B ++ (x :: (A ++ rs))) := by
  refine h.perm ?_
  rw [← List.append_assoc]
  refine ((List.perm_append_comm.append_right rs).cons x).trans ?_
  rw [List.append_assoc]
  exact List.perm_middle.symm

theorem St.sink {x : Res} {B X : List Res} (h : St w0 w (B ++ (x :: X))) : St w0 w (x :: (B ++ X)) := h.perm List.perm_middle

/-- The slices of a row, and what they hold. -/
theorem St.bsRow (h : St w0 w rs) {i n cap : Nat} {a : Option Addr} {ds : List Blk} (hr : rs[i]? = some (bsR (.slice a n cap) ds)) :
    n = ds.length ∧ (a = none → n = 0 ∧ cap = 0) ∧ ∃ vs : List Value, vs.length = ds.length ∧ (∀ (j : Nat) u b, vs[j]? = some u → ds[j]? = some b → BytesAt w u b AnyB) ∧ (∀ u ∈ vs, u.oneCell' = true) ∧ ∀ ad, a = some ad → ∀ y, Frm NoB w y → ∀ j u, vs[j]? = some u → y.cell? (ad.add j) = some u := by
  obtain ⟨vs, H, hl, hby⟩ := h.get hr
  have h1 : ∀ u ∈ vs, u.oneCell' = true := fun u hu => by
    obtain ⟨j, hj⟩ := List.getElem?_of_mem hu
    have hjl := (List.getElem?_eq_some_iff.1 hj).1
    obtain ⟨_, _, _, e, _⟩ := (hby j u _ hj (List.getElem?_eq_getElem (by omega))).cells
    rw [e]; rfl
  rcases H.2 with ⟨e, hl0⟩ | ⟨g, cap', cur, e, _, h2, _⟩
  · injection e with e1 e2 e3
    exact ⟨by omega, fun _ => ⟨by omega, e3⟩, vs, hl, hby, h1, fun ad e => by rw [e1] at e; cases e⟩
  · injection e with e1 e2 e3
    refine ⟨e2, (fun e => by rw [e1] at e; cases e), vs, hl, hby, h1, fun ad e y hy j u hj => ?_⟩
    rw [e1] at e
    injection e with e
    have hrow := H.cells (g := g) (by rw [e1]; rfl)
    have := hrow j u hj
    rw [e] at this
    rw [← this]
    refine hy.cell ?_ (fun e => e)
    rw [← e, show (⟨g, 0, none⟩ : Addr).add j = ⟨g, j, none⟩ from by unfold Addr.add; split <;> simp_all]
    exact lt_of_block h2

set_option maxRecDepth 100000 in
set_option maxHeartbeats 2000000 in
theorem S_rCopy {rb : Nat} {bv pv : Value} {ds : List Blk} {ps : List (Value × List Blk)} {last : Int} {D : DSt} (h : St w0 w (refL rb bv pv ds ps (D.ops : Int) last ++ rs)) (hD : D.Wf) (hR : RefOk D ds ps last) :
    Calls Try.prog 83 #[.pointer (some ⟨rb, 0, none⟩)] w fun e w' => ∃ nb nv qv ds' ps', e = .returned (.pointer (some ⟨nb, 0, none⟩)) ∧ St w0 w' (refL nb nv qv ds' ps' (D.ops : Int) last ++ (refL rb bv pv ds ps (D.ops : Int) last ++ rs)) ∧ RefOk D ds' ps' last := by
  obtain ⟨ab, cb, rfl⟩ := h.bsLen (i := 1) rfl
  obtain ⟨ap, cp0, rfl⟩ := h.pnLen
  have hnb := hR.nb
  have hnp := hR.np
  obtain ⟨n, hn⟩ : ∃ n, D.n = n := ⟨_, rfl⟩
  have hn1 : 1 ≤ n := by have := hD.n1; omega
  have hn40 : n ≤ 40 := by have := hR.n40; omega
  rw [hnb, hnp, hn] at h
  rw [hnb, hnp, hn]
  rw [hn] at hnb hnp
  obtain ⟨gb, _, rfl, -⟩ := h.bsCell (i := 1) rfl (hR.base 0 (by omega))
  obtain ⟨p0, hp0⟩ := hR.pend 0 (by omega)
  obtain ⟨gp, rfl, -⟩ := h.pnCell hp0
  clear hp0 p0
  have c2 : w.cell? ⟨rb, 2, none⟩ = some (.int .i64 D.ops) := (h.arrCell (i := 0) rfl 2).trans rfl
  have c3 : w.cell? ⟨rb, 3, none⟩ = some (.int .i64 last) := (h.arrCell (i := 0) rfl 3).trans rfl
  have H1 := Lib.hid ((St.flip (A := refL w.heap.size (.slice none 0 0) (.slice none 0 0) [] [] (D.ops : Int) last) (h.refNew (D.ops : Int) last)).frm0 (Frm.refl NoB _).drew)
  have HR := Lib.hid hR
  have HFEW : Hid (∀ k, (D.pend k).length ≤ 1000) := Lib.hid fun k => Nat.le_trans (hD.few k) hR.ops
  have HNB := Lib.hid hnb
  have HNP := Lib.hid hnp
  have HN := Lib.hid hn
  obtain ⟨iy, hiy, hy0, hy1, hy2⟩ := info_parts infoBy
  obtain ⟨ib, hib, hb0, hb1, hb2⟩ := info_parts infoBb
  have KS0 : Hid (∀ y, Frm NoB w y → y.cell? ⟨rb, 2, none⟩ = some (.int .i64 D.ops) ∧ y.cell? ⟨rb, 3, none⟩ = some (.int .i64 last)) := Lib.hid fun y hy => ⟨((h.frm0 hy).arrCell (i := 0) rfl 2).trans rfl, ((h.frm0 hy).arrCell (i := 0) rfl 3).trans rfl⟩
  clear h hR hD hnb hnp hn
  go_enter Try.func83, Try.ntmps83
  go_upto_region 1 with (fail)
  go_region_held3 (fun y => y.cell? ⟨rb, 2, none⟩ = some (.int .i64 D.ops) ∧ y.cell? ⟨rb, 3, none⟩ = some (.int .i64 last))
    (first | (refine KS0.out _ ?_; first | exact Frm.refl _ _ | exact (Frm.refl NoB w).drew | exact ((Frm.refl NoB w).drew).alloc _ | exact ((Frm.refl NoB w).alloc _).drew))
    (first | fail)
  obtain ⟨y1, hy1'⟩ : ∃ y, y = (w.alloc (.cells #[.slice none 0 0, .slice none 0 0, .int .i64 (D.ops : Int), .int .i64 last] 127 (0, 0))).drew := ⟨_, rfl⟩
  rw [← hy1'] at H1 ⊢
  clear hy1' c2 c3 KS0
  generalize w.heap.size = nb at *
  obtain ⟨hcn, hnil, vs, hv1, hv2, hv3, hv4⟩ := H1.out.bsRow (i := 1) rfl
  have KS : Hid (∀ y, St w0 y (refL rb (.slice (some ⟨gb, 0, none⟩) n cb) (.slice (some ⟨gp, 0, none⟩) n cp0) ds ps (D.ops : Int) last ++ (refL nb (.slice none 0 0) (.slice none 0 0) [] [] (D.ops : Int) last ++ rs)) → y.cell? ⟨nb, 0, none⟩ = some (.slice none 0 0) ∧ y.cell? ⟨rb, 0, none⟩ = some (.slice (some ⟨gb, 0, none⟩) n cb)) := Lib.hid fun y hy => ⟨((St.flip hy).arrCell (i := 0) rfl 0).trans rfl, (hy.arrCell (i := 0) rfl 0).trans rfl⟩
  have POST : Hid (∀ yB g2 cap2, yB.ownsRow 0 31 1 (.slice (some ⟨g2, 0, none⟩) n cap2) n vs → y1.drew.grownBy yB (Value.slice none 0 0).ownBlock → ((Value.slice none 0 0).ownBlock = some g2 ∨ g2 = y1.drew.heap.size) →
      yB.cell? ⟨nb, 0, none⟩ = some (.slice none 0 0) ∧ yB.cell? ⟨rb, 0, none⟩ = some (.slice (some ⟨gb, 0, none⟩) n cb) ∧ yB.frozen? ⟨nb, 0, none⟩ = false ∧ St w0 (yB.setCell ⟨nb, 0, none⟩ (.slice (some ⟨g2, 0, none⟩) n cap2)) (refL rb (.slice (some ⟨gb, 0, none⟩) n cb) (.slice (some ⟨gp, 0, none⟩) n cp0) ds ps (D.ops : Int) last ++ (refL nb (.slice (some ⟨g2, 0, none⟩) n cap2) (.slice none 0 0) ds [] (D.ops : Int) last ++ rs))) := Lib.hid fun yB g2 cap2 hown hg hat => by
    have hS := (St.flip H1.out).frm0 (Frm.refl NoB _).drew
    have h2 : St w0 yB (rst nb (.slice none 0 0) (.slice none 0 0) (D.ops : Int) last :: bsR (.slice (some ⟨g2, 0, none⟩) n cap2) ds :: rowR 124 neBb 1 (.slice none 0 0) 0 [] :: (refL rb (.slice (some ⟨gb, 0, none⟩) n cb) (.slice (some ⟨gp, 0, none⟩) n cp0) ds ps (D.ops : Int) last ++ rs)) :=
      hS.bsFill 1 rfl hv1 (fun i u b h1 h2 => (hv2 i u b h1 h2).frmZ (Frm.refl NoB _).drew (fun _ _ e => e.elim)) (by rw [HNB.out]; exact hown) hg (by
        rcases hat with e | e
        · cases e
        · right; rw [e]; simp [Value.ownBlock])
    have h3 := h2.setArr 0 rfl 0 (.slice (some ⟨g2, 0, none⟩) n cap2)
    exact ⟨(h2.arrCell (i := 0) rfl 0).trans rfl, (h2.arrCell (i := 3) rfl 0).trans rfl, h2.arrFree (i := 0) rfl 0, St.flip (A := refL nb (.slice (some ⟨g2, 0, none⟩) n cap2) (.slice none 0 0) ds [] (D.ops : Int) last) h3⟩
  have HCL : Hid (∀ j u, vs[j]? = some u → y1.drew.cell? ((⟨gb, 0, none⟩ : Addr).add j) = some u) := Lib.hid (hv4 _ rfl _ (Frm.refl NoB _).drew)
  have HL : Hid (vs.length = n * 1) := Lib.hid (by rw [hv1, HNB.out, Nat.mul_one])
  have HONE := Lib.hid hv3
  have HO := Lib.hid (World.ownsRow_nil y1.drew 0 31 1)
  have HPO : Hid (0 < n) := Lib.hid (by omega)
  have HMX : Hid (0 + n ≤ maxLen) := Lib.hid (by simp only [maxLen]; omega)
  have HBY : Hid ((0 + n) * 24 ≤ 140737488355328) := Lib.hid (by omega)
  have k0 := KS.out _ (H1.out.frm0 (Frm.refl NoB _).drew)
  clear hv1 hv2 hv3 hv4 hnil hcn
  go_upto_region 2 with (fail)
  refine wp_region_noPanic ?_
  refine wp_region_T (S := fun y => y.cell? ⟨nb, 0, none⟩ = some (.slice none 0 0) ∧ y.cell? ⟨rb, 0, none⟩ = some (.slice (some ⟨gb, 0, none⟩) n cb)) (by kernel_rfl) ?_
  have hHeld : (fun y => y.cell? ⟨nb, 0, none⟩ = some (.slice none 0 0) ∧ y.cell? ⟨rb, 0, none⟩ = some (.slice (some ⟨gb, 0, none⟩) n cb)) y1.drew := k0
  refine wpAnyT_take (i := 0) (v := ?v16) rfl (by kernel_rfl) (fun _ _ _ h => h) (Or.inl ⟨by rfl, ?hy16⟩) hHeld ?rest16
  case hy16 => intro wq hSw; (try dsimp only at hSw); go_simp; try with_reducible rfl
  case rest16 =>
    show wpAnyT _ _ _ _ _ _ _ (Act.put _ (some 16) _) _
    try simp only [Act.put, List.setIfInBounds_toArray, List.set_cons_zero, List.set_cons_succ]
    refine wpAnyT_take (i := 1) (v := ?v17) rfl (by kernel_rfl) (fun _ _ _ h => h) (Or.inl ⟨by rfl, ?hy17⟩) hHeld ?rest17
    case hy17 => intro wq hSw; (try dsimp only at hSw); go_simp; try with_reducible rfl
    case rest17 =>
      show wpAnyT _ _ _ _ _ _ _ (Act.put _ (some 17) _) _
      try simp only [Act.put, List.setIfInBounds_toArray, List.set_cons_zero, List.set_cons_succ]
      refine wpAnyT_take (i := 2) (v := ?v18) rfl (by kernel_rfl) (fun _ _ _ h => h) (Or.inl ⟨by rfl, ?hy18⟩) hHeld ?rest18
      case hy18 => intro wq hSw; (try dsimp only at hSw); go_simp; try with_reducible rfl
      case rest18 =>
        show wpAnyT _ _ _ _ _ _ _ (Act.put _ (some 18) _) _
        try simp only [Act.put, List.setIfInBounds_toArray, List.set_cons_zero, List.set_cons_succ]
        refine wpAnyT_take (i := 3) (v := ?v19) rfl (by kernel_rfl) (fun _ _ _ h => h) (Or.inl ⟨by rfl, ?hy19⟩) hHeld ?rest19
        case hy19 => intro wq hSw; (try dsimp only at hSw); go_simp; try with_reducible rfl
        case rest19 =>
          show wpAnyT _ _ _ _ _ _ _ (Act.put _ (some 19) _) _
          try simp only [Act.put, List.setIfInBounds_toArray, List.set_cons_zero, List.set_cons_succ]
          refine wpAnyT_take (i := 4) (v := ?v20) rfl (by kernel_rfl) (fun _ _ _ h => h) (Or.inl ⟨by rfl, ?hy20⟩) hHeld ?rest20
          case hy20 => intro wq hSw; (try dsimp only at hSw); go_simp; try with_reducible rfl
          case rest20 =>
            show wpAnyT _ _ _ _ _ _ _ (Act.put _ (some 20) _) _
            try simp only [Act.put, List.setIfInBounds_toArray, List.set_cons_zero, List.set_cons_succ]
            refine wpAnyT_take (i := 5) (v := ?v21) rfl (by kernel_rfl) (fun _ _ _ h => h) (Or.inl ⟨by rfl, ?hy21⟩) hHeld ?rest21
            case hy21 => intro wq hSw; (try dsimp only at hSw); go_simp; try with_reducible rfl
            case rest21 =>
              show wpAnyT _ _ _ _ _ _ _ (Act.put _ (some 21) _) _
              try simp only [Act.put, List.setIfInBounds_toArray, List.set_cons_zero, List.set_cons_succ]
              refine wpAnyT_take (i := 6) (v := ?v22) rfl (by kernel_rfl) (fun _ _ _ h => h) (Or.inl ⟨by rfl, ?hy22⟩) hHeld ?rest22
              case hy22 => intro wq hSw; (try dsimp only at hSw); go_simp; try with_reducible rfl
              case rest22 =>
                show wpAnyT _ _ _ _ _ _ _ (Act.put _ (some 22) _) _
                try simp only [Act.put, List.setIfInBounds_toArray, List.set_cons_zero, List.set_cons_succ]
                refine wpAnyT_take (i := 7) (v := ?v23) rfl (by kernel_rfl) (fun _ _ _ h => h) (Or.inl ⟨by rfl, ?hy23⟩) hHeld ?rest23
                case hy23 => intro wq hSw; (try dsimp only at hSw); go_simp; try with_reducible rfl
                case rest23 =>
                  show wpAnyT _ _ _ _ _ _ _ (Act.put _ (some 23) _) _
                  try simp only [Act.put, List.setIfInBounds_toArray, List.set_cons_zero, List.set_cons_succ]
                  refine wpAnyT_take (i := 8) (v := ?v24) rfl (by kernel_rfl) (fun _ _ _ h => h) (Or.inl ⟨by rfl, ?hy24⟩) hHeld ?rest24
                  case hy24 => intro wq hSw; (try dsimp only at hSw); go_simp; try with_reducible rfl
                  case rest24 =>
                    show wpAnyT _ _ _ _ _ _ _ (Act.put _ (some 24) _) _
                    try simp only [Act.put, List.setIfInBounds_toArray, List.set_cons_zero, List.set_cons_succ]
                    refine wpAnyT_one (i := 9) rfl (by kernel_rfl) (fun K hK => ?_)
                    refine step_append_lies _ rfl _ _ 124 rfl 0 31 iy (.slice none 0 0) 1 24 Try.underlying124 hiy hy0 hy1 hy2 rfl (by decide) (.slice none 0 0) 0 [] rfl HO.out ⟨gb, 0, none⟩ n cb vs rfl HL.out HCL.out HONE.out HPO.out HMX.out HBY.out (Nat.zero_le _) _ rfl ?_
                    intro g2 cap2 yB hown2 hgrow2 hat2 hlt2
                    rw [Nat.zero_add] at hown2 ⊢
                    obtain ⟨hq1, hq2, hq3, hq4⟩ := POST.out yB g2 cap2 hown2 hgrow2 hat2
                    have H8 := Lib.hid hq4
                    refine hK.out _ _ (fun _ => ⟨hq1, hq2⟩) ?_
                    clear hK K hHeld hown2 hgrow2 hat2 hlt2 hq4
                    try simp only [Act.put, List.setIfInBounds_toArray, List.set_cons_zero, List.set_cons_succ]
                    refine wpAnyT_one (i := 10) rfl (by kernel_rfl) (fun K hK => ?_)
                    go_simp
                    refine hK.out _ _ (fun _ => ⟨hq1, hq2⟩) ?_
                    clear hK K
                    try simp only [Act.put, List.setIfInBounds_toArray, List.set_cons_zero, List.set_cons_succ]
                    refine wpAnyT_one (i := 11) rfl (by kernel_rfl) (fun K hK => ?_)
                    go_simp
                    refine hK.out _ _ (fun _ => ⟨hq1, hq2⟩) ?_
                    clear hK K
                    try simp only [Act.put, List.setIfInBounds_toArray, List.set_cons_zero, List.set_cons_succ]
                    refine wpAnyT_one (i := 12) rfl (by kernel_rfl) (fun K hK => ?_)
                    go_simp
                    refine hK.out _ _ (fun h => absurd (h.symm.trans (show allB _ _ = true by kernel_rfl)) (by decide)) ?_
                    clear hK K
                    try simp only [Act.put, List.setIfInBounds_toArray, List.set_cons_zero, List.set_cons_succ]
                    refine wpAnyT_done (by kernel_rfl) ?_
                    refine NoPanic.normal ?_
                    obtain ⟨y2, hy2'⟩ : ∃ y, y = yB.setCell ⟨nb, 0, none⟩ (.slice (some ⟨g2, 0, none⟩) n cap2) := ⟨_, rfl⟩
                    rw [← hy2'] at H8 ⊢
                    clear hy2' hq1 hq2 hq3 POST KS k0 H1 HCL HL HONE HO HPO HMX HBY
                    go_wp2_with fail
                    go_loopw [4, 5] (fun t4 _ wr => ∃ (k : Nat) (qv : Value) (qs : List (Value × List Blk)), k ≤ n ∧ t4 = .int .i64 k ∧ qs.length = k ∧ (∀ j, j < k → ∃ v, qs[j]? = some (v, D.pend j)) ∧ St w0 wr (refL rb (.slice (some ⟨gb, 0, none⟩) n cb) (.slice (some ⟨gp, 0, none⟩) n cp0) ds ps (D.ops : Int) last ++ (refL nb (.slice (some ⟨g2, 0, none⟩) n cap2) qv ds qs (D.ops : Int) last ++ rs))) (fun t4 _ _ => n - (intOf t4).toNat)
                    case atStart => exact ⟨0, _, [], Nat.zero_le _, rfl, rfl, (fun j hj => by omega), H8.out⟩
                    case round =>
                      clear H8
                      obtain ⟨k, qv, qs, hk, rfl, hql, hqs, hst⟩ := hrel
                      obtain ⟨aqv, cqv, rfl⟩ := (St.flip hst).pnLen
                      rw [hql] at hst
                      have HQL := Lib.hid hql
                      have HQS := Lib.hid hqs
                      have HST := Lib.hid hst
                      have c0 : wr.cell? ⟨rb, 1, none⟩ = some (.slice (some ⟨gp, 0, none⟩) n cp0) := (hst.arrCell (i := 0) rfl 1).trans rfl
                      have hk0 : (0 : Int) ≤ (k : Int) := Int.natCast_nonneg _
                      clear hst hql hqs
                      by_cases hlt : k < n
                      · have hk1 : (k : Int) < (n : Int) := by omega
                        have hkn : k < D.n := by have := HN.out; omega
                        obtain ⟨pk, hpk⟩ := HR.out.pend k hkn
                        obtain ⟨_, e1, cpk, -⟩ := HST.out.pnCell hpk
                        cases e1
                        have hin := HST.out.pnGet hpk
                        obtain ⟨aq, cq, rfl⟩ := HST.out.bsLen hin
                        have hm1 : (D.pend k).length ≤ 1000 := HFEW.out k
                        obtain ⟨f, hf⟩ : ∃ f, D.pend k = f := ⟨_, rfl⟩
                        rw [hf] at hin cpk hpk hm1
                        obtain ⟨-, hnil, vs, hv1, hv2, hv3, hv4⟩ := HST.out.bsRow hin
                        have KS : Hid (∀ y, St w0 y (refL rb (.slice (some ⟨gb, 0, none⟩) n cb) (.slice (some ⟨gp, 0, none⟩) n cp0) ds ps (D.ops : Int) last ++ (refL nb (.slice (some ⟨g2, 0, none⟩) n cap2) (.slice aqv k cqv) ds qs (D.ops : Int) last ++ rs)) → y.cell? ⟨nb, 1, none⟩ = some (.slice aqv k cqv) ∧ y.cell? ⟨rb, 1, none⟩ = some (.slice (some ⟨gp, 0, none⟩) n cp0) ∧ y.cell? ⟨gp, k, none⟩ = some (.slice aq f.length cq)) := Lib.hid fun y hy =>
                          ⟨((St.flip hy).arrCell (i := 0) rfl 1).trans rfl, (hy.arrCell (i := 0) rfl 1).trans rfl, (by obtain ⟨_, e, h, -⟩ := hy.pnCell hpk; cases e; exact h)⟩
                        have PREP : Hid (∀ y bo cap, y.ownsRow 0 31 1 (.slice bo f.length cap) f.length vs → wr.drew.grownBy y (Value.slice none 0 0).ownBlock → ((Value.slice bo f.length cap).ownBlock = (Value.slice none 0 0).ownBlock ∨ (Value.slice bo f.length cap).ownBlock = some wr.drew.heap.size) →
                            St w0 y (bsR (.slice bo f.length cap) f :: (refL rb (.slice (some ⟨gb, 0, none⟩) n cb) (.slice (some ⟨gp, 0, none⟩) n cp0) ds ps (D.ops : Int) last ++ (refL nb (.slice (some ⟨g2, 0, none⟩) n cap2) (.slice aqv k cqv) ds qs (D.ops : Int) last ++ rs)))) := Lib.hid fun y bo cap hown hg hat =>
                          (HST.out.frm0 (Frm.refl NoB wr).drew).bsNil.bsFill 0 rfl hv1 (fun i u b h1 h2 => (hv2 i u b h1 h2).frmZ (Frm.refl NoB _).drew (fun _ _ e => e.elim)) hown hg hat
                        have POST : Hid (∀ yA yB v1 g3 cap3 o, St w0 yA (bsR v1 f :: (refL rb (.slice (some ⟨gb, 0, none⟩) n cb) (.slice (some ⟨gp, 0, none⟩) n cp0) ds ps (D.ops : Int) last ++ (refL nb (.slice (some ⟨g2, 0, none⟩) n cap2) (.slice aqv k cqv) ds qs (D.ops : Int) last ++ rs))) →
                            yB.ownsRow 0 124 1 (.slice (some ⟨g3, 0, none⟩) (k + 1) cap3) (k + 1) (qs.map (·.1) ++ [v1]) → (yA.alloc o).grownBy yB (Value.slice aqv k cqv).ownBlock → ((Value.slice aqv k cqv).ownBlock = some g3 ∨ g3 = (yA.alloc o).heap.size) →
                            (yB.cell? ⟨nb, 1, none⟩ = some (.slice aqv k cqv) ∧ yB.cell? ⟨rb, 1, none⟩ = some (.slice (some ⟨gp, 0, none⟩) n cp0) ∧ yB.cell? ⟨gp, k, none⟩ = some (.slice aq f.length cq)) ∧ yB.frozen? ⟨nb, 1, none⟩ = false ∧
                            St w0 (yB.setCell ⟨nb, 1, none⟩ (.slice (some ⟨g3, 0, none⟩) (k + 1) cap3)) (refL rb (.slice (some ⟨gb, 0, none⟩) n cb) (.slice (some ⟨gp, 0, none⟩) n cp0) ds ps (D.ops : Int) last ++ (refL nb (.slice (some ⟨g2, 0, none⟩) n cap2) (.slice (some ⟨g3, 0, none⟩) (k + 1) cap3) ds (qs ++ [(v1, f)]) (D.ops : Int) last ++ rs))) := Lib.hid fun yA yB v1 g3 cap3 o hS hown hg hat => by
                          have h1 := hS.float
                          have h2 : St w0 yB (rst nb (.slice (some ⟨g2, 0, none⟩) n cap2) (.slice aqv k cqv) (D.ops : Int) last :: bsR (.slice (some ⟨g2, 0, none⟩) n cap2) ds :: rowR 124 neBb 1 (.slice (some ⟨g3, 0, none⟩) (k + 1) cap3) (k + 1) (qs.map (·.1) ++ [v1]) :: (pnL qs ++ (bsR v1 f :: (refL rb (.slice (some ⟨gb, 0, none⟩) n cb) (.slice (some ⟨gp, 0, none⟩) n cp0) ds ps (D.ops : Int) last ++ rs)))) :=
                            h1.rowAppend 2 rfl o hown hg (by
                              rcases hat with e | e
                              · left; rw [e]; simp [Value.ownBlock]
                              · right; rw [e]; simp [Value.ownBlock])
                          have h3 := h2.setArr 0 rfl 1 (.slice (some ⟨g3, 0, none⟩) (k + 1) cap3)
                          have h4 := (St.sink (B := rst nb (.slice (some ⟨g2, 0, none⟩) n cap2) (.slice aqv k cqv) (D.ops : Int) last :: bsR (.slice (some ⟨g2, 0, none⟩) n cap2) ds :: rowR 124 neBb 1 (.slice (some ⟨g3, 0, none⟩) (k + 1) cap3) (k + 1) (qs.map (·.1) ++ [v1]) :: pnL qs) h2).drop 1
                          have h5 := (St.sink (B := rst nb (.slice (some ⟨g2, 0, none⟩) n cap2) (.slice (some ⟨g3, 0, none⟩) (k + 1) cap3) (D.ops : Int) last :: bsR (.slice (some ⟨g2, 0, none⟩) n cap2) ds :: rowR 124 neBb 1 (.slice (some ⟨g3, 0, none⟩) (k + 1) cap3) (k + 1) (qs.map (·.1) ++ [v1]) :: pnL qs) h3)
                          have h6 := St.flip (A := rst nb (.slice (some ⟨g2, 0, none⟩) n cap2) (.slice aqv k cqv) (D.ops : Int) last :: bsR (.slice (some ⟨g2, 0, none⟩) n cap2) ds :: rowR 124 neBb 1 (.slice (some ⟨g3, 0, none⟩) (k + 1) cap3) (k + 1) (qs.map (·.1) ++ [v1]) :: pnL qs) h4
                          refine ⟨⟨(h2.arrCell (i := 0) rfl 1).trans rfl, (h6.arrCell (i := 0) rfl 1).trans rfl, (by obtain ⟨_, e, h, -⟩ := h6.pnCell hpk; cases e; exact h)⟩, h2.arrFree (i := 0) rfl 1, St.flip (St.refSnoc ?_)⟩
                          rw [HQL.out]
                          exact h5
                        have HV : Hid (wr.drew.ownsRow 0 124 1 (.slice aqv k cqv) k (qs.map (·.1))) := Lib.hid (by have := ((St.flip HST.out).frm0 (Frm.refl NoB wr).drew).get (i := 2) rfl; rw [← HQL.out]; rw [← HQL.out] at this; exact this)
                        have HVY : Hid (∀ y, St w0 y (refL rb (.slice (some ⟨gb, 0, none⟩) n cb) (.slice (some ⟨gp, 0, none⟩) n cp0) ds ps (D.ops : Int) last ++ (refL nb (.slice (some ⟨g2, 0, none⟩) n cap2) (.slice aqv k cqv) ds qs (D.ops : Int) last ++ rs)) → y.ownsRow 0 124 1 (.slice aqv k cqv) k (qs.map (·.1))) := Lib.hid fun y hy => by have := (St.flip hy).get (i := 2) rfl; rw [← HQL.out]; rw [← HQL.out] at this; exact this
                        have HCL : Hid (∀ ad, aq = some ad → ∀ j u, vs[j]? = some u → wr.drew.cell? (ad.add j) = some u) := Lib.hid fun ad e => hv4 ad e _ (Frm.refl NoB _).drew
                        have HNIL := Lib.hid hnil
                        have HL : Hid (vs.length = f.length * 1) := Lib.hid (by rw [hv1, Nat.mul_one])
                        have HONE := Lib.hid hv3
                        have HO := Lib.hid (World.ownsRow_nil wr.drew 0 31 1)
                        have HMX : Hid (0 + f.length ≤ maxLen) := Lib.hid (by simp only [maxLen]; omega)
                        have HBY : Hid ((0 + f.length) * 24 ≤ 140737488355328) := Lib.hid (by omega)
                        have HMX2 : Hid (k + 1 ≤ maxLen) := Lib.hid (by simp only [maxLen]; omega)
                        have HBY2 : Hid ((k + 1) * 24 ≤ 140737488355328) := Lib.hid (by omega)
                        have HLT := Lib.hid hlt
                        have HF := Lib.hid hf
                        have k0 := KS.out _ (HST.out.frm0 (Frm.refl NoB _).drew)
                        obtain ⟨k1, k2, k3⟩ := KS.out _ HST.out
                        have hk3 : (k : Int) < (n : Int) := hk1
                        clear hv1 hv2 hv3 hv4 hnil hin hpk hf hkn hm1
                        go_upto_region 7 with (fail)
                        refine wp_region_noPanic ?_
                        refine wp_region_T (S := fun y => y.cell? ⟨nb, 1, none⟩ = some (.slice aqv k cqv) ∧ y.cell? ⟨rb, 1, none⟩ = some (.slice (some ⟨gp, 0, none⟩) n cp0) ∧ y.cell? ⟨gp, k, none⟩ = some (.slice aq f.length cq)) (by kernel_rfl) ?_
                        have hHeld : (fun y => y.cell? ⟨nb, 1, none⟩ = some (.slice aqv k cqv) ∧ y.cell? ⟨rb, 1, none⟩ = some (.slice (some ⟨gp, 0, none⟩) n cp0) ∧ y.cell? ⟨gp, k, none⟩ = some (.slice aq f.length cq)) wr.drew := k0
                        refine wpAnyT_take (i := 0) (v := ?v37) rfl (by kernel_rfl) (fun _ _ _ h => h) (Or.inl ⟨by rfl, ?hy37⟩) hHeld ?rest37
                        case hy37 => intro wq hSw; (try dsimp only at hSw); go_simp; try with_reducible rfl
                        case rest37 =>
                          show wpAnyT _ _ _ _ _ _ _ (Act.put _ (some 37) _) _
                          try simp only [Act.put, List.setIfInBounds_toArray, List.set_cons_zero, List.set_cons_succ]
                          refine wpAnyT_take (i := 1) (v := ?v38) rfl (by kernel_rfl) (fun _ _ _ h => h) (Or.inl ⟨by rfl, ?hy38⟩) hHeld ?rest38
                          case hy38 => intro wq hSw; (try dsimp only at hSw); go_simp; try with_reducible rfl
                          case rest38 =>
                            show wpAnyT _ _ _ _ _ _ _ (Act.put _ (some 38) _) _
                            try simp only [Act.put, List.setIfInBounds_toArray, List.set_cons_zero, List.set_cons_succ]
                            refine wpAnyT_take (i := 2) (v := ?v39) rfl (by kernel_rfl) (fun _ _ _ h => h) (Or.inl ⟨by rfl, ?hy39⟩) hHeld ?rest39
                            case hy39 => intro wq hSw; (try dsimp only at hSw); go_simp; try with_reducible rfl
                            case rest39 =>
                              show wpAnyT _ _ _ _ _ _ _ (Act.put _ (some 39) _) _
                              try simp only [Act.put, List.setIfInBounds_toArray, List.set_cons_zero, List.set_cons_succ]
                              refine wpAnyT_take (i := 3) (v := ?v40) rfl (by kernel_rfl) (fun _ _ _ h => h) (Or.inl ⟨by rfl, ?hy40⟩) hHeld ?rest40
                              case hy40 => intro wq hSw; (try dsimp only at hSw); go_simp; try with_reducible rfl
                              case rest40 =>
                                show wpAnyT _ _ _ _ _ _ _ (Act.put _ (some 40) _) _
                                try simp only [Act.put, List.setIfInBounds_toArray, List.set_cons_zero, List.set_cons_succ]
                                refine wpAnyT_take (i := 4) (v := ?v41) rfl (by kernel_rfl) (fun _ _ _ h => h) (Or.inl ⟨by rfl, ?hy41⟩) hHeld ?rest41
                                case hy41 => intro wq hSw; (try dsimp only at hSw); go_simp; try with_reducible rfl
                                case rest41 =>
                                  show wpAnyT _ _ _ _ _ _ _ (Act.put _ (some 41) _) _
                                  try simp only [Act.put, List.setIfInBounds_toArray, List.set_cons_zero, List.set_cons_succ]
                                  refine wpAnyT_take (i := 5) (v := ?v42) rfl (by kernel_rfl) (fun _ _ _ h => h) (Or.inl ⟨by rfl, ?hy42⟩) hHeld ?rest42
                                  case hy42 => intro wq hSw; (try dsimp only at hSw); go_simp; try with_reducible rfl
                                  case rest42 =>
                                    show wpAnyT _ _ _ _ _ _ _ (Act.put _ (some 42) _) _
                                    try simp only [Act.put, List.setIfInBounds_toArray, List.set_cons_zero, List.set_cons_succ]
                                    refine wpAnyT_take (i := 6) (v := ?v43) rfl (by kernel_rfl) (fun _ _ _ h => h) (Or.inl ⟨by rfl, ?hy43⟩) hHeld ?rest43
                                    case hy43 => intro wq hSw; (try dsimp only at hSw); go_simp; try with_reducible rfl
                                    case rest43 =>
                                      show wpAnyT _ _ _ _ _ _ _ (Act.put _ (some 43) _) _
                                      try simp only [Act.put, List.setIfInBounds_toArray, List.set_cons_zero, List.set_cons_succ]
                                      refine wpAnyT_take (i := 7) (v := ?v44) rfl (by kernel_rfl) (fun _ _ _ h => h) (Or.inl ⟨by rfl, ?hy44⟩) hHeld ?rest44
                                      case hy44 => intro wq hSw; (try dsimp only at hSw); go_simp; try with_reducible rfl
                                      case rest44 =>
                                        show wpAnyT _ _ _ _ _ _ _ (Act.put _ (some 44) _) _
                                        try simp only [Act.put, List.setIfInBounds_toArray, List.set_cons_zero, List.set_cons_succ]
                                        refine wpAnyT_take (i := 8) (v := ?v45) rfl (by kernel_rfl) (fun _ _ _ h => h) (Or.inl ⟨by rfl, ?hy45⟩) hHeld ?rest45
                                        case hy45 => intro wq hSw; (try dsimp only at hSw); go_simp; try with_reducible rfl
                                        case rest45 =>
                                          show wpAnyT _ _ _ _ _ _ _ (Act.put _ (some 45) _) _
                                          try simp only [Act.put, List.setIfInBounds_toArray, List.set_cons_zero, List.set_cons_succ]
                                          refine wpAnyT_take (i := 9) (v := ?v46) rfl (by kernel_rfl) (fun _ _ _ h => h) (Or.inl ⟨by rfl, ?hy46⟩) hHeld ?rest46
                                          case hy46 => intro wq hSw; (try dsimp only at hSw); go_simp; try with_reducible rfl
                                          case rest46 =>
                                            show wpAnyT _ _ _ _ _ _ _ (Act.put _ (some 46) _) _
                                            try simp only [Act.put, List.setIfInBounds_toArray, List.set_cons_zero, List.set_cons_succ]
                                            refine wpAnyT_take (i := 10) (v := ?v47) rfl (by kernel_rfl) (fun _ _ _ h => h) (Or.inl ⟨by rfl, ?hy47⟩) hHeld ?rest47
                                            case hy47 => intro wq hSw; (try dsimp only at hSw); go_simp; try with_reducible rfl
                                            case rest47 =>
                                              show wpAnyT _ _ _ _ _ _ _ (Act.put _ (some 47) _) _
                                              try simp only [Act.put, List.setIfInBounds_toArray, List.set_cons_zero, List.set_cons_succ]
                                              refine wpAnyT_take (i := 11) (v := ?v48) rfl (by kernel_rfl) (fun _ _ _ h => h) (Or.inl ⟨by rfl, ?hy48⟩) hHeld ?rest48
                                              case hy48 => intro wq hSw; (try dsimp only at hSw); go_simp; try with_reducible rfl
                                              case rest48 =>
                                                show wpAnyT _ _ _ _ _ _ _ (Act.put _ (some 48) _) _
                                                try simp only [Act.put, List.setIfInBounds_toArray, List.set_cons_zero, List.set_cons_succ]
                                                refine wpAnyT_take (i := 12) (v := ?v49) rfl (by kernel_rfl) (fun _ _ _ h => h) (Or.inl ⟨by rfl, ?hy49⟩) hHeld ?rest49
                                                case hy49 => intro wq hSw; (try dsimp only at hSw); go_simp; try with_reducible rfl
                                                case rest49 =>
                                                  show wpAnyT _ _ _ _ _ _ _ (Act.put _ (some 49) _) _
                                                  try simp only [Act.put, List.setIfInBounds_toArray, List.set_cons_zero, List.set_cons_succ]
                                                  refine wpAnyT_one (i := 13) rfl (by kernel_rfl) (fun K hK => ?_)
                                                  refine step_append_src rfl _ _ 124 rfl 0 31 iy (.slice none 0 0) 1 24 Try.underlying124 hiy hy0 hy1 hy2 rfl (by decide) (.slice none 0 0) 0 [] rfl HO.out aq f.length cq vs rfl HL.out HNIL.out HCL.out HONE.out HMX.out HBY.out (Nat.zero_le _) ?_
                                                  intro bo cap yA hown2 hgrow2 hat2
                                                  rw [Nat.zero_add] at hown2 hat2 ⊢
                                                  have hS := PREP.out yA bo cap hown2 hgrow2 hat2
                                                  have hHeld2 := KS.out yA (hS.drop 1)
                                                  refine hK.out _ _ (fun _ => hHeld2) ?_
                                                  clear hK K hHeld hown2 hgrow2 hat2
                                                  try simp only [Act.put, List.setIfInBounds_toArray, List.set_cons_zero, List.set_cons_succ]
                                                  refine wpAnyT_one (i := 14) rfl (by kernel_rfl) (fun K hK => ?_)
                                                  go_simp
                                                  have hHeld3 := KS.out (yA.alloc (.cells #[.slice bo f.length cap] 124 (0, 0))) ((hS.drop 1).frm0 ((Frm.refl NoB yA).alloc _))
                                                  refine hK.out _ _ (fun _ => hHeld3) ?_
                                                  clear hK K
                                                  try simp only [Act.put, List.setIfInBounds_toArray, List.set_cons_zero, List.set_cons_succ]
                                                  refine wpAnyT_one (i := 15) rfl (by kernel_rfl) (fun K hK => ?_)
                                                  refine step_append_lies _ rfl _ _ 125 rfl 0 124 ib (.slice none 0 0) 1 24 Try.underlying125 hib hb0 hb1 hb2 rfl (by decide) (.slice aqv k cqv) k (qs.map (·.1)) rfl ((HVY.out yA (hS.drop 1)).alloc _) ⟨yA.heap.size, 0, none⟩ 1 1 [.slice bo f.length cap] rfl rfl (new_one _ _ _) (by intro u hu; simp at hu; subst hu; rfl) (by decide) HMX2.out HBY2.out (Nat.zero_le _) _ rfl ?_
                                                  intro g3 cap3 yB hown3 hgrow3 hat3 hlt3
                                                  obtain ⟨hq1, hq2, hq3⟩ := POST.out yA yB _ g3 cap3 _ hS hown3 hgrow3 hat3
                                                  refine hK.out _ _ (fun _ => hq1) ?_
                                                  clear hK K hHeld2 hHeld3 hown3 hgrow3 hat3 hlt3
                                                  try simp only [Act.put, List.setIfInBounds_toArray, List.set_cons_zero, List.set_cons_succ]
                                                  refine wpAnyT_one (i := 16) rfl (by kernel_rfl) (fun K hK => ?_)
                                                  go_simp
                                                  refine hK.out _ _ (fun _ => hq1) ?_
                                                  clear hK K
                                                  try simp only [Act.put, List.setIfInBounds_toArray, List.set_cons_zero, List.set_cons_succ]
                                                  refine wpAnyT_one (i := 17) rfl (by kernel_rfl) (fun K hK => ?_)
                                                  go_simp
                                                  refine hK.out _ _ (fun _ => hq1) ?_
                                                  clear hK K
                                                  try simp only [Act.put, List.setIfInBounds_toArray, List.set_cons_zero, List.set_cons_succ]
                                                  refine wpAnyT_one (i := 18) rfl (by kernel_rfl) (fun K hK => ?_)
                                                  go_simp
                                                  refine hK.out _ _ (fun h => absurd (h.symm.trans (show allB _ _ = true by kernel_rfl)) (by decide)) ?_
                                                  clear hK K
                                                  try simp only [Act.put, List.setIfInBounds_toArray, List.set_cons_zero, List.set_cons_succ]
                                                  refine wpAnyT_done (by kernel_rfl) ?_
                                                  refine NoPanic.normal ?_
                                                  have H9 := Lib.hid hq3
                                                  have HQ9 : Hid (∀ j, j < k + 1 → ∃ v, (qs ++ [(.slice bo f.length cap, f)])[j]? = some (v, D.pend j)) := Lib.hid fun j hj => by
                                                    by_cases e : j < k
                                                    · obtain ⟨v, hv⟩ := HQS.out j e
                                                      exact ⟨v, by rw [List.getElem?_append_left (by rw [HQL.out]; exact e)]; exact hv⟩
                                                    · obtain rfl : j = k := by omega
                                                      exact ⟨_, by rw [List.getElem?_append_right (by rw [HQL.out]; exact Nat.le_refl _), HQL.out, Nat.sub_self, HF.out]; rfl⟩
                                                  have HL9 : Hid ((qs ++ [(Value.slice bo f.length cap, f)]).length = k + 1) := Lib.hid (by rw [List.length_append, HQL.out]; rfl)
                                                  clear hq3 hq1 hq2 KS PREP POST HV HVY HCL HONE HO k0 k1 k2 k3 HST hS c0
                                                  go_wp2
                                                  first | exact ⟨⟨k + 1, _, _, HLT.out, by go_num, HL9.out, HQ9.out, H9.out⟩, by have := HLT.out; simp [intOf]; omega⟩ | (go_roundw; case rel => first | exact ⟨k + 1, _, _, HLT.out, by go_num, HL9.out, HQ9.out, H9.out⟩ | ((repeat apply Exists.intro); exact ⟨⟨k + 1, _, _, HLT.out, by go_num, HL9.out, HQ9.out, H9.out⟩, rfl⟩); case measure => have := HLT.out; simp [intOf]; omega)
                      · have hk1 : ¬ (k : Int) < (n : Int) := by omega
                        obtain rfl : k = n := by omega
                        have HF := Lib.hid (St.flip HST.out)
                        have HRR : Hid (RefOk D ds qs last) := Lib.hid ⟨HR.out.nb, HQL.out.trans HN.out.symm, HR.out.base, fun j hj => HQS.out j (by have := HN.out; omega), HR.out.lst, HR.out.n40, HR.out.ops⟩
                        clear hlt hk HST
                        go_wp2
                        go_ret
                        exact ⟨nb, rfl, _, _, _, _, HF.out, HRR.out⟩
end
end Go.Proofs.Ytkanfpmmgaipnaa
