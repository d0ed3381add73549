/-
  The device's Write.
-/
import Derived.Test.YtkanfpmmgaipnaaDevE
namespace Go.Proofs.Ytkanfpmmgaipnaa
open Go.ChangeMaps Go.MapKept Go.RowKit

theorem Write_off (w : World) (h : Hdl) (D : DSt) (R : Nat → Prop) (H : DevAt w h D R) (ho : D.ops < 4611686018427387904) (hoff : D.off = true) (k : Int) (v : Value) :
    Calls Try.prog 31 #[.pointer (some ⟨h.b, 0, none⟩), .int .i64 k, v] w fun e w' =>
      e = .returned (.int .i64 9) ∧ DevAt w' h D.op R ∧ Frm h.M w w' := by
  have HC := Lib.hid (op_any w h D R H ho)
  go_enter Try.func31, Try.ntmps31
  go_wp2_with fail
  refine HC.out.mono ?_
  rintro e w1 ⟨rfl, hd, hf, hs⟩
  rw [hoff]
  have HP := Lib.hid (And.intro hd (hf.mono (N := h.M) fun x _ e => by obtain rfl : x = h.b := e; exact h.Mb))
  clear hd hf hs HC
  go_wp2
  go_ret
  exact ⟨rfl, HP.out.1, HP.out.2⟩

theorem Write_arg (w : World) (h : Hdl) (D : DSt) (R : Nat → Prop) (H : DevAt w h D R) (ho : D.ops < 4611686018427387904) (hoff : D.off = false) (k : Int) (a : Option Addr) (n c : Nat)
    (hk : k < 0 ∨ (D.n : Int) ≤ k ∨ n ≠ 512) (_hn : n ≤ 4611686018427387904) :
    Calls Try.prog 31 #[.pointer (some ⟨h.b, 0, none⟩), .int .i64 k, .slice a n c] w fun e w' =>
      e = .returned (.int .i64 1) ∧ DevAt w' h D.op R ∧ Frm h.M w w' := by
  have HC := Lib.hid (op_any w h D R H ho)
  go_enter Try.func31, Try.ntmps31
  go_wp2_with fail
  refine HC.out.mono ?_
  rintro e w1 ⟨rfl, hd, hf, hs⟩
  rw [hoff]
  obtain ⟨left, hb, _, _⟩ := hd.blk
  obtain ⟨c0, _, _, _, _, _, _, _⟩ := devObj_cells h _ _ _ _ hb
  rw [show D.op.n = D.n from rfl] at c0
  have HP := Lib.hid (And.intro hd (hf.mono (N := h.M) fun x _ e => by obtain rfl : x = h.b := e; exact h.Mb))
  clear hd hf hs HC hb
  by_cases h1 : k < 0
  · clear hk
    go_wp2
    go_ret
    exact ⟨rfl, HP.out.1, HP.out.2⟩
  · have h1' : 0 ≤ k := by omega
    by_cases h2 : (D.n : Int) ≤ k
    · clear hk
      go_wp2
      go_ret
      exact ⟨rfl, HP.out.1, HP.out.2⟩
    · have h2' : k < (D.n : Int) := by omega
      have h3 : ((n : Int) != 512) = true := by rw [bne_iff_ne]; omega
      clear hk
      go_wp2
      go_ret
      exact ⟨rfl, HP.out.1, HP.out.2⟩

/-- Worlds that are alike in the blocks that there were. -/
def Agree (w w' : World) : Prop := ∀ b, b < w.heap.size → w'.heap[b]? = w.heap[b]?
theorem Agree.refl (w : World) : Agree w w := fun _ _ => rfl
theorem Agree.drew {w w' : World} (h : Agree w w') : Agree w w'.drew := h
theorem Agree.frm {w a b : World} (h : Agree w a) (hf : Frm NoB a b) (hs : w.heap.size ≤ a.heap.size) : Agree w b := fun x hx => (hf.block x (by omega) (fun e => e)).trans (h x hx)
theorem Agree.cell {w w' : World} (h : Agree w w') {b i : Nat} (hb : b < w.heap.size) : w'.cell? ⟨b, i, none⟩ = w.cell? ⟨b, i, none⟩ := World.cell?_of_block (w := w) (h b hb)

theorem DevAt.putAt {w1 w4 : World} {h : Hdl} {D : DSt} {R R4 : Nat → Prop} (H : DevAt w1 h D R) {nm ng : Nat} {m : Int → Option Value} {g : Int × Int → Option Value}
    (m1 : ∀ k : Nat, okI (k : Int) → m k = if D.pend k = [] then none else some (.int .i64 ((D.pend k).length : Nat))) (m2 : ∀ k, okI k → k < 0 → m k = none)
    (g1 : ∀ k i : Nat, i < (D.pend k).length → ∃ v, g (k, (i : Int) + 1) = some v ∧ BytesAt w1 v ((D.pend k).getD i []) R)
    (g2 : ∀ k i : Nat, (D.pend k).length ≤ i → okP ((k : Int), (i : Int) + 1) → g (k, (i : Int) + 1) = none)
    (k : Nat) (hk : k < D.n) (bs : Blk) (hbs : bs.length = 512) (hf : (D.pend k).length + 1 ≤ D.ops) (v : Value) (hv : BytesAt w4 v bs R4) (hR : ∀ x, R x → R4 x)
    (hag : ∀ b, b < w1.heap.size → b ≠ h.mm → b ≠ h.wm → w4.heap[b]? = w1.heap[b]?)
    (M4 : MapAt IntK okI w4 h.mm nm (upd m k (some (.int .i64 (((D.pend k).length : Int) + 1))))) (G4 : MapAt PairK okP w4 h.wm ng (upd g ((k : Int), ((D.pend k).length : Int) + 1) (some v))) :
    DevAt w4 h (D.put k bs) R4 := by
  have hnb := H.noBytes
  obtain ⟨wf, ⟨left, hb, hl, hok⟩, ⟨nf, f, Mf, f1, f2⟩, _, _, ap⟩ := H
  have hB : ∀ v bs, BytesAt w1 v bs R → BytesAt w4 v bs R4 := fun v bs hv => (hv.of_block (fun x c _ hc => hag x (lt_of_block hc) (fun e => hnb x (by rw [e]; exact h.Mm) c hc) (fun e => hnb x (by rw [e]; exact h.Mw) c hc))).mono (fun x _ hx => hR x hx)
  refine ⟨DSt.put_wf wf hk hbs hf, ⟨left, (hag _ (lt_of_block hb) ap.2.2.1 ap.2.1).trans hb, hl, hok⟩, ⟨nf, f, Mf.of_block (hag _ Mf.lt ap.2.2.2.2.1 ap.2.2.2.1), f1, fun k v h1 h2 => ?_⟩,
    ⟨ng, _, G4, fun x i hi => ?_, fun x i hi ho => ?_⟩, ⟨nm, _, M4, fun x hx => ?_, fun x hx hx0 => ?_⟩, ap⟩
  · obtain ⟨a, b, c⟩ := f2 k v h1 h2
    exact ⟨a, b, hB _ _ c⟩
  · simp only [DSt.put] at hi ⊢
    by_cases hxk : x = k
    · subst hxk
      simp only [if_pos] at hi ⊢
      rw [List.length_append, List.length_singleton] at hi
      by_cases hil : i = (D.pend x).length
      · subst hil
        refine ⟨v, by simp [upd], ?_⟩
        rw [List.getD_eq_getElem?_getD, List.getElem?_append_right (Nat.le_refl _)]
        simpa using hv
      · have hlt : i < (D.pend x).length := by omega
        obtain ⟨v0, hv0, hb0⟩ := g1 x i hlt
        refine ⟨v0, ?_, ?_⟩
        · unfold upd
          rw [if_neg (fun e => hil (by have := congrArg Prod.snd e; simp at this; omega))]
          exact hv0
        · rw [List.getD_eq_getElem?_getD, List.getElem?_append_left hlt, ← List.getD_eq_getElem?_getD]
          exact hB _ _ hb0
    · simp only [if_neg hxk] at hi ⊢
      obtain ⟨v0, hv0, hb0⟩ := g1 x i hi
      refine ⟨v0, ?_, hB _ _ hb0⟩
      unfold upd
      rw [if_neg (fun e => hxk (by have := congrArg Prod.fst e; simp at this; omega))]
      exact hv0
  · simp only [DSt.put] at hi
    unfold upd
    by_cases hxk : x = k
    · subst hxk
      simp only [if_pos] at hi
      rw [List.length_append, List.length_singleton] at hi
      rw [if_neg (fun e => by have := congrArg Prod.snd e; simp at this; omega)]
      exact g2 x i (by omega) ho
    · rw [if_neg hxk] at hi
      rw [if_neg (fun e => hxk (by have := congrArg Prod.fst e; simp at this; omega))]
      exact g2 x i hi ho
  · simp only [DSt.put]
    unfold upd
    by_cases hxk : x = k
    · subst hxk
      simp
    · have hxk' : ¬ (x : Int) = (k : Int) := fun e => hxk (by omega)
      simp only [if_neg hxk, if_neg hxk']
      exact m1 x hx
  · unfold upd
    rw [if_neg (by omega)]
    exact m2 x hx hx0

set_option maxRecDepth 100000 in
theorem Write_ok (w : World) (h : Hdl) (D : DSt) (R : Nat → Prop) (H : DevAt w h D R) (ho : D.ops < 4611686018427387904) (hoff : D.off = false) (k : Int) (v : Value) (bs : Blk) (Rv : Nat → Prop)
    (h0 : 0 ≤ k) (hk : k < D.n) (hbs : bs.length = 512) (hv : BytesAt w v bs Rv) :
    Calls Try.prog 31 #[.pointer (some ⟨h.b, 0, none⟩), .int .i64 k, v] w fun e w' =>
      e = .returned (.int .i64 0) ∧ DevAt w' h (D.op.put k.toNat bs) (grow R w w') ∧ Frm h.M w w' := by
  have hok := H.okn h0 hk
  have hnb := H.noBytes
  obtain ⟨blk, off, cap, hve, hcap, _⟩ := hv.cells
  rw [hbs] at hve
  subst hve
  have HC := Lib.hid (op_any w h D R H ho)
  go_enter Try.func31, Try.ntmps31
  go_wp2_with fail
  refine HC.out.mono ?_
  rintro e w1 ⟨rfl, hd, hf, hs⟩
  rw [hoff]
  clear HC
  have hv1 : BytesAt w1 _ bs Rv := hv.frmB hf (fun x hx c => by obtain rfl : x = h.b := hx; exact hnb _ h.Mb c)
  obtain ⟨left, hb, hl, hokl⟩ := hd.blk
  obtain ⟨c0, c1, c2, c3, c4, c5, c6, fz⟩ := devObj_cells h _ _ _ _ hb
  rw [show D.op.n = D.n from rfl] at c0
  obtain ⟨nm, m, Mm, m1, m2⟩ := hd.mn
  obtain ⟨ng, g, Mg, g1, g2⟩ := hd.wr
  have hap := hd.apart
  have hkn : ((k.toNat : Nat) : Int) = k := by omega
  have hm := m1 k.toNat (by rw [hkn]; exact hok)
  rw [hkn, show D.op.pend = D.pend from rfl] at hm
  have hmm : (m k).getD (.int .i64 0) = .int .i64 ((D.pend k.toNat).length : Nat) := by
    rw [hm]; split
    · rename_i e; rw [e]; rfl
    · rfl
  have hfew := H.wf.few k.toNat
  have l1 := Mm.lookup kindInt Try.underlying96 hok zeroInt w1 rfl
  rw [hmm] at l1
  obtain ⟨o, u1, u2⟩ := Mm.update kindInt Try.underlying96 hok (.int .i64 (((D.pend k.toNat).length : Int) + 1))
  have u1' := u1 w1 rfl
  have h1' : ¬ k < 0 := by omega
  have h2' : ¬ (D.n : Int) ≤ k := by omega
  generalize hln : (D.pend k.toNat).length = ln at *
  have HD := Lib.hid hd
  have HV := Lib.hid hv1
  have HM := Lib.hid hm
  have HU := Lib.hid u2
  have HB := Lib.hid hb
  have HN := Lib.hid hkn
  have HL := Lib.hid hln
  have HG := Lib.hid g1
  have HG2 := Lib.hid g2
  have HM1 := Lib.hid m1
  have HM2' := Lib.hid m2
  have HFEW := Lib.hid hfew
  have HS1 := Lib.hid hs
  have HF := Lib.hid hf
  clear hd hv1 hm u1 u2 hb hkn hln g1 g2 m1 m2 hf hmm hv hs
  have hokj : okI ((ln : Int) + 1) := by have := HFEW.out; rw [okI_iff]; omega
  have HUP : ∀ v', ∃ o2, (∀ W, W.heap[h.wm]? = w1.heap[h.wm]? → (Instr.mapUpdate 110 (.map (some h.wm)) (.agg #[.int .i64 k, .int .i64 ((ln : Int) + 1)]) v').run Try.prog W = .ok () (setBlock W h.wm o2)) ∧
      (∀ W, h.wm < W.heap.size → ∃ n', MapAt PairK okP (setBlock W h.wm o2) h.wm n' (upd g (k, (ln : Int) + 1) (some v'))) := fun v' => by
    obtain ⟨o2, q1, q2⟩ := Mg.update kindPair Try.underlying110 (a := (k, (ln : Int) + 1)) ⟨hok, hokj⟩ v'
    exact ⟨o2, q1, fun W hW => ⟨_, q2 W hW⟩⟩
  have HUP' := Lib.hid HUP
  clear HUP
  have HAP := Lib.hid hap
  clear hap hokj
  go_wp2_with fail
  have ap := HAP.out
  obtain ⟨w2, hw2⟩ : ∃ w2, w2 = setBlock w1 h.mm o := ⟨_, rfl⟩
  rw [← hw2]
  have A12 : ∀ b, b ≠ h.mm → w2.heap[b]? = w1.heap[b]? := fun b hb => by rw [hw2]; exact block_setBlock_other _ rfl hb
  have S12 : w2.heap.size = w1.heap.size := by rw [hw2]; simp [ChangeMaps.setBlock]
  obtain ⟨n2, M2⟩ : ∃ n2, MapAt IntK okI (setBlock w1 h.mm o) h.mm n2 (upd m k (some (.int .i64 ((ln : Int) + 1)))) := ⟨_, HU.out w1 Mm.lt⟩
  rw [← hw2] at M2
  have HW2 := Lib.hid hw2
  clear hw2
  have F : ∀ x, x.heap[h.b]? = w2.heap[h.b]? → x.heap[h.mm]? = w2.heap[h.mm]? → x.cell? ⟨h.b, 2, none⟩ = some (.map (some h.wm)) ∧ x.cell? ⟨h.b, 3, none⟩ = some (.map (some h.mm)) ∧
      (Instr.lookup 96 (.map (some h.mm)) (.int .i64 k) false).run Try.prog x = .ok (.int .i64 ((ln : Int) + 1)) x := fun x hx1 hx2 => by
    have hbx : x.heap[h.b]? = some (devObj h D.op.n D.op.ops D.op.lim.isSome left) := by
      rw [hx1, A12 _ ap.2.2.1]; exact HB.out
    obtain ⟨_, _, d2, d3, _⟩ := devObj_cells h _ _ _ _ hbx
    refine ⟨d2, d3, ?_⟩
    have := M2.lookup kindInt Try.underlying96 hok zeroInt x hx2
    simpa [upd] using this
  have HF2 := Lib.hid F
  have HV2 : Hid (∀ x, Agree w2 x → BytesAt x (.slice (some ⟨blk, off, none⟩) 512 cap) bs Rv) := Lib.hid fun x hx => by
    refine HV.out.of_block fun y c _ hc => ?_
    rw [hx _ (by rw [S12]; exact lt_of_block hc)]
    refine A12 _ fun e => ?_
    subst e
    obtain ⟨es, cl, h1, _⟩ := Mm
    rw [h1] at hc; cases hc
  have HWM : Hid (∀ x, Agree w2 x → x.heap[h.wm]? = w1.heap[h.wm]?) := Lib.hid fun x hx => by
    rw [hx _ (by rw [S12]; exact Mg.lt), A12 _ ap.2.2.2.2.2]
  obtain ⟨F1, F2, F3⟩ := F w2 rfl rfl
  have HA12 := Lib.hid A12
  have HO := Lib.hid ho
  clear hfew ho H hl hokl hcap Mm hoff F A12 l1 u1' c0 c1 c2 c3 c4 c5 c6 fz
  have KA : Hid (∀ x, Agree w2 x → x.cell? ⟨h.b, 2, none⟩ = some (.map (some h.wm)) ∧ x.cell? ⟨h.b, 3, none⟩ = some (.map (some h.mm)) ∧
      (Instr.lookup 96 (.map (some h.mm)) (.int .i64 k) false).run Try.prog x = .ok (.int .i64 ((ln : Int) + 1)) x) := Lib.hid fun x hx => HF2.out x (hx _ (by rw [S12]; exact lt_of_block HB.out)) (hx _ M2.lt)
  have KB : Hid (∀ x o, Agree w2 x → (setBlock x h.wm o).cell? ⟨h.b, 2, none⟩ = some (.map (some h.wm)) ∧ (setBlock x h.wm o).cell? ⟨h.b, 3, none⟩ = some (.map (some h.mm)) ∧
      (Instr.lookup 96 (.map (some h.mm)) (.int .i64 k) false).run Try.prog (setBlock x h.wm o) = .ok (.int .i64 ((ln : Int) + 1)) (setBlock x h.wm o)) := Lib.hid fun x o hx =>
    HF2.out _ (block_setBlock_other _ (hx _ (by rw [S12]; exact lt_of_block HB.out)) ap.2.1) (block_setBlock_other _ (hx _ M2.lt) (Ne.symm ap.2.2.2.2.2))
  have HM2 := Lib.hid M2
  have HS12 := Lib.hid S12
  have HMg := Lib.hid Mg
  clear M2 S12 Mg ap
  go_region_held3 (fun x => x.cell? ⟨h.b, 2, none⟩ = some (.map (some h.wm)) ∧ x.cell? ⟨h.b, 3, none⟩ = some (.map (some h.mm)) ∧
      (Instr.lookup 96 (.map (some h.mm)) (.int .i64 k) false).run Try.prog x = .ok (.int .i64 ((ln : Int) + 1)) x)
    (first | (refine KB.out _ _ ?_; assumption) | (refine KA.out _ ?_; assumption) | (refine KA.out _ ?_; intro _ _; rfl))
    (first | (go_at_call 70; refine (Clone_any _ _ bs Rv (HV2.out _ ?_) ?_).mono ?_; exact (fun _ _ => rfl); omega; rintro e w3 ⟨hf3, v', rfl, hb3⟩; have hA3 : Agree w2 w3 := Agree.frm (Agree.refl w2).drew hf3 (Nat.le_refl _); obtain ⟨o2, q1, q2⟩ := HUP'.out v'; have q1' := q1 w3 (HWM.out _ hA3); clear q1))
  all_goals
    have hw34 : w2.heap.size ≤ w3.heap.size := hf3.size
    have S4 : (setBlock w3 h.wm o2).heap.size = w3.heap.size := by simp [ChangeMaps.setBlock]
    obtain ⟨n4, G4⟩ := q2 w3 (by have := HMg.out.lt; have := HS12.out; omega)
    have ap := HAP.out
    have hag : ∀ b, b < w1.heap.size → b ≠ h.mm → b ≠ h.wm → (setBlock w3 h.wm o2).heap[b]? = w1.heap[b]? := fun b hb hb1 hb2 => by
      rw [block_setBlock_other _ rfl hb2, hA3 b (by have := HS12.out; omega), HA12.out b hb1]
    have FIN : DevAt (setBlock w3 h.wm o2) h (D.op.put k.toNat bs) (grow R w (setBlock w3 h.wm o2)) := by
      have e1 : (D.op.pend k.toNat).length = ln := HL.out
      refine HD.out.putAt HM1.out HM2'.out HG.out HG2.out k.toNat (by show k.toNat < D.n; omega) bs hbs (by rw [e1]; exact Nat.succ_le_succ HFEW.out) v' ?_ (fun x hx => .inl hx) hag (nm := n2) (ng := n4) ?_ ?_
      · have : BytesAt (setBlock w3 h.wm o2) v' bs (Fresh w2.drew) := hb3.of_block fun x c hx hc => block_setBlock_other _ rfl fun e => by
          have hx' : w2.heap.size ≤ x := hx
          have := HMg.out.lt; have := HS12.out; omega
        refine this.mono fun x hx1 hx2 => .inr ⟨?_, hx1⟩
        have hx' : w2.heap.size ≤ x := hx2
        have := HS12.out; have := HS1.out; omega
      · rw [e1, HN.out]
        refine MapAt.of_block HM2.out ?_
        rw [block_setBlock_other _ rfl (Ne.symm ap.2.2.2.2.2), hA3 _ HM2.out.lt]
      · rw [e1, HN.out]; exact G4
    have FRM : Frm h.M w (setBlock w3 h.wm o2) := by
      have f1 : Frm h.M w w1 := HF.out.mono fun x _ e => by obtain rfl : x = h.b := e; exact h.Mb
      have f2 : Frm h.M w w2 := by rw [HW2.out]; exact f1.setBlock (.inl h.Mm) _
      have f3 : Frm h.M w w3 := f2.drew.trans (c := w3) (N := NoB) hf3 (fun _ _ (e : False) => e.elim)
      exact f3.setBlock (.inl h.Mw) _
    have HFIN := Lib.hid FIN
    have HFRM := Lib.hid FRM
    clear FIN FRM hag ap G4 S4 hw34
    go_wp2
    go_ret
    exact ⟨rfl, HFIN.out, HFRM.out⟩
end Go.Proofs.Ytkanfpmmgaipnaa
