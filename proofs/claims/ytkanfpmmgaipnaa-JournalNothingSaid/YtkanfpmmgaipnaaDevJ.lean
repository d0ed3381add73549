/-
  The device's Crash.
-/
import Derived.Test.YtkanfpmmgaipnaaDevI
namespace Go.Proofs.Ytkanfpmmgaipnaa
open Go.ChangeMaps Go.MapKept Go.RowKit

/-! ### Which key comes how manieth -/

theorem sorted_ext : ∀ (l l' : List Int), l.Pairwise (· < ·) → l'.Pairwise (· < ·) → (∀ a, a ∈ l ↔ a ∈ l') → l = l'
  | [], [], _, _, _ => rfl
  | [], b :: l', _, _, h => absurd ((h b).2 (by simp)) (by simp)
  | a :: l, [], _, _, h => absurd ((h a).1 (by simp)) (by simp)
  | a :: l, b :: l', h1, h2, h => by
    obtain ⟨p1, p2⟩ := List.pairwise_cons.1 h1
    obtain ⟨q1, q2⟩ := List.pairwise_cons.1 h2
    have hab : a = b := by
      have e1 : a ∈ b :: l' := (h a).1 (by simp)
      have e2 : b ∈ a :: l := (h b).2 (by simp)
      rcases List.mem_cons.1 e1 with e1 | e1
      · exact e1
      · rcases List.mem_cons.1 e2 with e2 | e2
        · exact e2.symm
        · have := q1 a e1; have := p1 b e2; omega
    subst hab
    rw [sorted_ext l l' p2 q2 (fun x => ?_)]
    constructor
    · intro hx
      rcases List.mem_cons.1 ((h x).1 (List.mem_cons_of_mem _ hx)) with e | e
      · subst e; have := p1 x hx; omega
      · exact e
    · intro hx
      rcases List.mem_cons.1 ((h x).2 (List.mem_cons_of_mem _ hx)) with e | e
      · subst e; have := q1 x hx; omega
      · exact e

def DSt.dirty (D : DSt) : List Nat := (List.range D.n).filter (fun j => !(D.pend j).isEmpty)

theorem DSt.dirty_rank (D : DSt) (i k : Nat) (h : D.dirty[i]? = some k) : D.rank k = i := by
  have hk : k ∈ D.dirty := List.mem_of_getElem? h
  obtain ⟨hk1, hk2⟩ := List.mem_filter.1 hk
  have hlt : k < D.n := List.mem_range.1 hk1
  have hsplit : List.range D.n = List.range k ++ k :: (List.range' (k + 1) (D.n - (k + 1))) := by
    have h1 := List.range'_append_1 (s := 0) (m := k) (n := D.n - (k + 1) + 1)
    rw [Nat.zero_add] at h1
    rw [List.range_eq_range', List.range_eq_range', ← List.range'_succ, h1]
    congr 1
    omega
  have hd : D.dirty = (List.range k).filter (fun j => !(D.pend j).isEmpty) ++ k :: (List.range' (k + 1) (D.n - (k + 1))).filter (fun j => !(D.pend j).isEmpty) := by
    unfold DSt.dirty
    rw [hsplit, List.filter_append, List.filter_cons, if_pos hk2]
  have hnd : D.dirty.Nodup := (List.nodup_range).filter _
  have h2 : D.dirty[D.rank k]? = some k := by
    unfold DSt.rank
    rw [hd, List.getElem?_append_right (Nat.le_refl _), Nat.sub_self]
    rfl
  obtain ⟨a1, a2⟩ := List.getElem?_eq_some_iff.1 h
  obtain ⟨b1, b2⟩ := List.getElem?_eq_some_iff.1 h2
  have hp := List.pairwise_iff_getElem.1 hnd
  rcases Nat.lt_trichotomy i (D.rank k) with hlt | heq | hlt
  · exact absurd (a2.trans b2.symm) (hp i _ a1 b1 hlt)
  · exact heq.symm
  · exact absurd (b2.trans a2.symm) (hp _ i b1 a1 hlt)

theorem DSt.keys_dirty {D : DSt} (wf : D.Wf) {m : Int → Option Value} {n : Nat} {ks : List Int} (m1 : ∀ k : Nat, okI (k : Int) → m k = if D.pend k = [] then none else some (.int .i64 ((D.pend k).length : Nat)))
    (m2 : ∀ k, okI k → k < 0 → m k = none) (hk : SortedKeys m n ks) : ks = D.dirty.map (fun (k : Nat) => (k : Int)) := by
  refine sorted_ext _ _ hk.sorted ?_ (fun a => ?_)
  · rw [List.pairwise_map]
    exact ((List.pairwise_lt_range).filter _).imp (fun h => by omega)
  · rw [hk.mem, List.mem_map]
    constructor
    · rintro ⟨ha, hs⟩
      have h0 : 0 ≤ a := by
        rcases Int.lt_or_le a 0 with h | h
        · rw [m2 a ha h] at hs; cases hs
        · exact h
      obtain ⟨k, rfl⟩ := Int.eq_ofNat_of_zero_le h0
      rw [m1 k ha] at hs
      have hp : D.pend k ≠ [] := fun e => by rw [if_pos e] at hs; cases hs
      refine ⟨k, List.mem_filter.2 ⟨List.mem_range.2 ?_, by simpa using hp⟩, rfl⟩
      rcases Nat.lt_or_ge k D.n with h | h
      · exact h
      · exact absurd (wf.far k h) hp
    · rintro ⟨k, hk, rfl⟩
      obtain ⟨hk1, hk2⟩ := List.mem_filter.1 hk
      have hlt : k < D.n := List.mem_range.1 hk1
      have hok : okI (k : Int) := by have := wf.n; rw [okI_iff]; omega
      refine ⟨hok, ?_⟩
      rw [m1 k hok, if_neg (by simpa using hk2)]
      rfl

/-! ### The copy of what was flushed -/

theorem nodup_lt_length : ∀ (N : Nat) (L : List Nat), L.Nodup → (∀ x ∈ L, x < N) → L.length ≤ N
  | 0, L, _, h => by
    cases L with
    | nil => exact Nat.le_refl _
    | cons a l => exact absurd (h a (by simp)) (by omega)
  | N + 1, L, hn, h => by
    have h1 := nodup_lt_length N (L.erase N) (hn.erase N) (fun x hx => by
      have hx' := (hn.mem_erase_iff).1 hx
      have := h x hx'.2
      have := hx'.1
      omega)
    have h2 := List.length_erase (a := N) (l := L)
    split at h2 <;> omega

theorem MapAt.card {w : World} {b n N : Nat} {f : Int → Option Value} (h : MapAt IntK okI w b n f) (hN : ∀ a, okI a → (f a).isSome = true → 0 ≤ a ∧ a < N) : n ≤ N := by
  obtain ⟨es, clock, hb, hst, hk, rfl, hf⟩ := h
  have hex : ∀ x ∈ es.toList, ∃ k : Nat, x.key = IntK k ∧ k < N := fun x hx => by
    obtain ⟨a, ha, e⟩ := hk x hx
    have := hN a ha (by rw [(hf a x.val ha).2 ⟨x, hx, e, rfl⟩]; rfl)
    exact ⟨a.toNat, by rw [e, Int.toNat_of_nonneg this.1], by omega⟩
  have hnat : ∀ x ∈ es.toList, x.key = IntK ((RowKit.intOf x.key).toNat : Nat) ∧ (RowKit.intOf x.key).toNat < N := fun x hx => by
    obtain ⟨k, e, hlt⟩ := hex x hx
    rw [e]
    exact ⟨rfl, hlt⟩
  have h1 := nodup_lt_length N (es.toList.map fun x => (RowKit.intOf x.key).toNat) (by
    rw [List.Nodup, List.pairwise_map]
    have hpw : es.toList.Pairwise (fun x y => x.key ≠ y.key) := ((stamped_iff es clock).1 hst).2.2
    refine List.Pairwise.imp_of_mem ?_ hpw
    intro x y hx hy hne e
    exact hne (by rw [(hnat x hx).1, (hnat y hy).1, e])) (fun x hx => by
    obtain ⟨y, hy, rfl⟩ := List.mem_map.1 hx
    exact (hnat y hy).2)
  simpa using h1

theorem DevAt.copied {w w1 w' : World} {h h1 : Hdl} {D : DSt} {R : Nat → Prop} (H : DevAt w h D R) {nf : Nat} {f f' : Int → Option Value}
    (f1 : ∀ k, okI k → f k = none → 0 ≤ k → k < D.n → D.base k.toNat = zeros) (f2 : ∀ k v, okI k → f k = some v → 0 ≤ k ∧ k < D.n ∧ BytesAt w v (D.base k.toNat) R)
    (H1 : DevAt w1 h1 (DSt.new D.n) NoB) (hfr : Frm (Only h1.fm) w1 w') (hb : ∀ v bs, BytesAt w v bs R → BytesAt w' v bs R) (M : MapAt IntK okI w' h1.fm nf f') (hff : ∀ a, okI a → f' a = f a) :
    DevAt w' h1 { DSt.new D.n with base := D.base } R := by
  obtain ⟨wf, ⟨left, hblk, hl⟩, _, ⟨ng, g, Mg, g1, g2⟩, ⟨nm, m, Mm, hm⟩, ap⟩ := H1
  refine ⟨⟨wf.n, wf.n1, H.wf.base, fun _ _ hc => (by cases hc), fun _ _ => rfl, fun _ => Nat.zero_le _⟩, ⟨left, (hfr.block _ (lt_of_block hblk) (fun e => ap.1 e)).trans hblk, hl⟩, ⟨nf, f', M, fun k hk hf => f1 k hk (by rw [← hff k hk]; exact hf), fun k v hk hf => ?_⟩,
    ⟨ng, g, Mg.frm hfr (fun e => ap.2.2.2.1 e.symm), fun _ _ hi => (by cases hi), g2⟩, ⟨nm, m, Mm.frm hfr (fun e => ap.2.2.2.2.1 e.symm), hm⟩, ap⟩
  obtain ⟨a, b, c⟩ := f2 k v hk (by rw [← hff k hk]; exact hf)
  exact ⟨a, b, hb _ _ c⟩

theorem RowAt.cases {w : World} {t : TypeId} {v : Value} {xs : List Value} {R : Nat → Prop} (h : RowAt w t v xs R) :
    ∃ a cap, v = .slice a xs.length cap ∧ xs.length ≤ cap ∧ ∀ i x, xs[i]? = some x → ∃ blk off, a = some ⟨blk, off, none⟩ ∧ blk < w.heap.size ∧ w.cell? ⟨blk, off + i, none⟩ = some x ∧ (∃ c, w.heap[blk]? = some (.cells c t (0, 0))) ∧ R blk := by
  rcases h with ⟨rfl, rfl⟩ | ⟨blk, off, cap, c, h1, h2, h3, h4, h5⟩
  · exact ⟨none, 0, rfl, Nat.le_refl _, fun i x hx => by simp at hx⟩
  · refine ⟨_, cap, h1, h2, fun i x hx => ⟨blk, off, rfl, lt_of_block h3, ?_, ⟨c, h3⟩, h5⟩⟩
    rw [cell_of_block h3, h4 i (List.getElem?_eq_some_iff.1 hx).1, hx]

/-- What Crash has done behind i rounds. -/
def CrashRel (w2 : World) (h1 : Hdl) (D : DSt) (picks : List Int) (R : Nat → Prop) (i : Nat) (wr : World) : Prop :=
  ∃ B : Nat → Blk, DevAt wr h1 { DSt.new D.n with base := B } R ∧ (∀ a : Nat, a < D.n → B a = if a ∈ D.dirty.take i then D.crashBlk picks a else D.base a) ∧ Frm (Only h1.fm) w2 wr

theorem take_succ_mem {l : List Nat} {i k : Nat} (h : l[i]? = some k) (a : Nat) : a ∈ l.take (i + 1) ↔ a ∈ l.take i ∨ a = k := by
  obtain ⟨h1, h2⟩ := List.getElem?_eq_some_iff.1 h
  rw [List.take_succ_eq_append_getElem h1, List.mem_append, List.mem_singleton, h2]

theorem DSt.pick_eq (D : DSt) (picks : List Int) {i k : Nat} (h : D.dirty[i]? = some k) : D.pick picks k = ((picks.getD i 0) % (((D.pend k).length : Int) + 1)).toNat := by
  unfold DSt.pick
  rw [D.dirty_rank i k h]

theorem CrashRel.skip {w2 wr : World} {h1 : Hdl} {D : DSt} {picks : List Int} {R : Nat → Prop} {i k : Nat} (H : CrashRel w2 h1 D picks R i wr) (hk : D.dirty[i]? = some k) (hp : D.pick picks k = 0) : CrashRel w2 h1 D picks R (i + 1) wr := by
  obtain ⟨B, hd, hB, hf⟩ := H
  refine ⟨B, hd, fun a ha => ?_, hf⟩
  rw [hB a ha]
  by_cases hm : a ∈ D.dirty.take i
  · rw [if_pos hm, if_pos ((take_succ_mem hk a).2 (.inl hm))]
  · rw [if_neg hm]
    by_cases hak : a = k
    · subst hak
      rw [if_pos ((take_succ_mem hk a).2 (.inr rfl))]
      unfold DSt.crashBlk
      rw [if_pos hp]
    · rw [if_neg (fun h => ((take_succ_mem hk a).1 h).elim hm hak)]

theorem CrashRel.step {w2 wr wr' : World} {h1 : Hdl} {D : DSt} {picks : List Int} {R : Nat → Prop} {i k : Nat} {B : Nat → Blk} (hB : ∀ a : Nat, a < D.n → B a = if a ∈ D.dirty.take i then D.crashBlk picks a else D.base a)
    (hf : Frm (Only h1.fm) w2 wr) (hk : D.dirty[i]? = some k) (hf' : Frm (Only h1.fm) wr wr') (hd : DevAt wr' h1 (DSt.rebase { DSt.new D.n with base := B } k (D.crashBlk picks k)) R) : CrashRel w2 h1 D picks R (i + 1) wr' := by
  refine ⟨fun x => if x = k then D.crashBlk picks k else B x, hd, fun a ha => ?_, hf.trans hf' (fun _ _ h => h)⟩
  show (if a = k then D.crashBlk picks k else B a) = _
  by_cases hak : a = k
  · subst hak
    rw [if_pos rfl, if_pos ((take_succ_mem hk a).2 (.inr rfl))]
  · rw [if_neg hak, hB a ha]
    by_cases hm : a ∈ D.dirty.take i
    · rw [if_pos hm, if_pos ((take_succ_mem hk a).2 (.inl hm))]
    · rw [if_neg hm, if_neg (fun h => ((take_succ_mem hk a).1 h).elim hm hak)]

theorem CrashRel.drew {w2 wr : World} {h1 : Hdl} {D : DSt} {picks : List Int} {R : Nat → Prop} {i : Nat} (H : CrashRel w2 h1 D picks R i wr) : CrashRel w2 h1 D picks R i wr.drew := by
  obtain ⟨B, hd, hB, hf⟩ := H
  exact ⟨B, hd.keep (fun _ _ _ => rfl), hB, hf.drew⟩

set_option maxRecDepth 100000 in
theorem Crash_any (w : World) (h : Hdl) (D : DSt) (R : Nat → Prop) (H : DevAt w h D R) (ho : D.ops < 4611686018427387904) (vp : Value) (picks : List Int) (hvp : Elems w vp (picks.map IntK)) (hpk : ∀ p ∈ picks, okI p)
    (hpl : picks.length < 4611686018427387904) :
    Calls Try.prog 34 #[.pointer (some ⟨h.b, 0, none⟩), vp] w fun e w' => ∃ v, e = .returned v ∧ Made w (D.crash picks) R v w' := by
  obtain ⟨a, cap, rfl, hcells⟩ := hvp
  rw [List.length_map]
  obtain ⟨left, hb, _, _⟩ := H.blk
  obtain ⟨c0, c1, c2, c3, _, _, _, _⟩ := devObj_cells h _ _ _ _ hb
  have HB := Lib.hid hb
  have HCELLS := Lib.hid hcells
  have HC := Lib.hid (made_any w D.n H.wf.n1 H.wf.n)
  clear hb hcells
  go_enter Try.func34, Try.ntmps34
  go_wp2_with fail
  refine HC.out.mono ?_
  rintro e w1 ⟨hf1, hs1, h1, rfl, hd1, hm1⟩
  clear HC
  obtain ⟨nf, f, Mf, f1, f2⟩ := H.fl
  obtain ⟨ng, g, Mg, g1, g2⟩ := H.wr
  obtain ⟨nm, m, Mm, m1, m2⟩ := H.mn
  obtain ⟨lt1, hb1, _, _⟩ := hd1.blk
  obtain ⟨_, e1, _, _, _, _, _, _⟩ := devObj_cells h1 _ _ _ _ hb1
  have hbl := lt_of_block HB.out
  have k1 : w1.cell? ⟨h.b, 1, none⟩ = some (.map (some h.fm)) := by rw [← c1]; exact hf1.cell hbl (fun e => e)
  have k3 : w1.cell? ⟨h.b, 3, none⟩ = some (.map (some h.mm)) := by rw [← c3]; exact hf1.cell hbl (fun e => e)
  have HD1 := Lib.hid hd1
  have HB1 := Lib.hid hb1
  have HF1 := Lib.hid hf1
  have HM1 := Lib.hid hm1
  have HMf := Lib.hid Mf
  have HMg := Lib.hid Mg
  have HMm := Lib.hid Mm
  have Hf1 := Lib.hid f1
  have Hf2 := Lib.hid f2
  have Hg1 := Lib.hid g1
  have Hm1 := Lib.hid m1
  have Hm2 := Lib.hid m2
  have HPK := Lib.hid hpk
  have HC0 := Lib.hid (And.intro c1 (And.intro c2 c3))
  have HOPS := Lib.hid ho
  clear hd1 hb1 hf1 hm1 Mf Mg Mm f1 f2 g1 g2 m1 m2 hpk c0 c1 c2 c3 hs1 ho
  have L1 : h1.b ≥ w.heap.size := HM1.out _ h1.Mb
  have L2 : h1.fm ≥ w.heap.size := HM1.out _ h1.Mf
  have N1 : h1.b ≠ h.fm := fun e => by have := HMf.out.lt; omega
  go_wp2_with fail
  obtain ⟨nf1, f0, Mf1, f01, f02⟩ := HD1.out.fl
  have hf0 : ∀ a, okI a → f0 a = none := fun a ha => by
    cases hx : f0 a with
    | none => rfl
    | some v => obtain ⟨_, _, c⟩ := f02 a v ha hx; obtain ⟨_, _, _, _, _, _, _, _, hno⟩ := c; exact hno.elim
  have hmf1 : MapAt IntK okI w1 h.fm nf f := HMf.out.frm HF1.out (fun e => e)
  have KA : Hid (∀ y, Agree w1 y → y.cell? ⟨h1.b, 1, none⟩ = some (.map (some h1.fm)) ∧ y.cell? ⟨h.b, 1, none⟩ = some (.map (some h.fm))) := Lib.hid fun y hy =>
    ⟨by rw [← e1]; exact hy.cell (lt_of_block HB1.out), by rw [← k1]; exact hy.cell (Nat.lt_of_lt_of_le hbl HF1.out.size)⟩
  have KC : Hid (∀ y, Frm (Only h1.fm) w1 y → y.cell? ⟨h1.b, 1, none⟩ = some (.map (some h1.fm)) ∧ y.cell? ⟨h.b, 1, none⟩ = some (.map (some h.fm))) := Lib.hid fun y hy =>
    ⟨by rw [← e1]; exact hy.cell (lt_of_block HB1.out) (fun e => HD1.out.apart.1 e), by rw [← k1]; exact hy.cell (Nat.lt_of_lt_of_le hbl HF1.out.size) (fun e => by have e' : h.b = h1.fm := e; omega)⟩
  have HCP := Lib.hid (fun W (hW : Agree w1 W) => mapsCopy_any W h1.fm h.fm nf1 nf f0 f (Mf1.of_block (hW _ Mf1.lt)) (hmf1.of_block (hW _ hmf1.lt)) (fun e => by have := HMf.out.lt; omega))
  have HMF1 := Lib.hid hmf1
  have HMF0 := Lib.hid Mf1
  clear hmf1 Mf1 f01 f02
  go_region_held3 (fun y => y.cell? ⟨h1.b, 1, none⟩ = some (.map (some h1.fm)) ∧ y.cell? ⟨h.b, 1, none⟩ = some (.map (some h.fm)))
    (first | (refine KA.out _ ?_; intro _ _; rfl) | (refine KC.out _ ?_; assumption))
    (first | (go_at_call 72; refine (HCP.out _ ?_).mono ?_; (intro _ _; rfl); rintro e w2 ⟨rfl, ⟨nf2, Mf2⟩, hf2⟩; have hf2' : Frm (Only h1.fm) w1 w2 := (Frm.refl _ w1).drew.trans hf2 (fun _ _ e => e)))
  have hnmN : nm ≤ D.n := HMm.out.card fun x hx hs => by
    have h0 : 0 ≤ x := by
      rcases Int.lt_or_le x 0 with h | h
      · rw [Hm2.out x hx h] at hs; cases hs
      · exact h
    obtain ⟨y, rfl⟩ := Int.eq_ofNat_of_zero_le h0
    rw [Hm1.out y hx] at hs
    refine ⟨h0, ?_⟩
    have hp : D.pend y ≠ [] := fun e => by rw [if_pos e] at hs; cases hs
    rcases Nat.lt_or_ge y D.n with h | h
    · omega
    · exact absurd (H.wf.far y h) hp
  have hB12 : ∀ v bs, BytesAt w v bs R → BytesAt w2 v bs R := fun v bs hv => by
    have h1' : BytesAt w1 v bs R := hv.of_block fun x c _ hc => HF1.out.block x (lt_of_block hc) (fun e => e)
    exact h1'.frmB hf2' (fun x hx c => by obtain rfl : x = h1.fm := hx; exact HD1.out.noBytes _ h1.Mf c)
  have D1c : DevAt w2 h1 { DSt.new D.n with base := D.base } R := H.copied Hf1.out Hf2.out HD1.out hf2' hB12 Mf2 (fun x hx => by rw [hf0 x hx]; simp)
  have W2 : Frm NoB w w2 := HF1.out.trans hf2' (fun x hx e => by have e' : x = h1.fm := e; omega)
  have j3 : w2.cell? ⟨h.b, 3, none⟩ = some (.map (some h.mm)) := by rw [← HC0.out.2.2]; exact W2.cell hbl (fun e => e)
  have Mm2 : MapAt IntK okI w2 h.mm nm m := HMm.out.frm W2 (fun e => e)
  have HK := Lib.hid (Keys_any h.mm w2)
  have HS := Lib.hid (Sorted_any h.mm nm m w2 Mm2 (by have := H.wf.n; omega))
  have HD1c := Lib.hid D1c
  have HW2 := Lib.hid W2
  have HMm2 := Lib.hid Mm2
  have HB12 := Lib.hid hB12
  have HH := Lib.hid H
  have HMf2 := Lib.hid Mf2
  have HCELL := Lib.hid (And.intro e1 (And.intro k1 k3))
  have Hhf2 := Lib.hid hf2
  have Hhf2' := Lib.hid hf2'
  have Hhf0 := Lib.hid hf0
  have HBL := Lib.hid hbl
  have HL := Lib.hid (And.intro L1 (And.intro L2 N1))
  have HNM := Lib.hid hnmN
  clear hB12 D1c W2 Mm2 H Mf2 e1 k1 k3 hf2 hf2' hf0 hbl L1 L2 N1 hnmN
  have hdl : D.dirty.length ≤ 65536 := by
    have h1 := List.length_filter_le (fun j => !(D.pend j).isEmpty) (List.range D.n)
    rw [List.length_range] at h1
    have := HH.out.wf.n
    unfold DSt.dirty
    omega
  go_wp2_with (first
    | (go_at_call 74; refine HK.out.mono ?_; rintro e w2k ⟨rfl, rfl⟩)
    | (go_at_call 73; refine HS.out.mono ?_; rintro e w3 ⟨vk, ks, rfl, hks, hrow, hf3⟩; obtain rfl := DSt.keys_dirty HH.out.wf Hm1.out Hm2.out hks; obtain ⟨ak, capk, rfl, hcapk, hkc⟩ := hrow.cases; rw [List.length_map, List.length_map] at *; have HKC := Lib.hid hkc; have HF3 := Lib.hid hf3; clear hkc hf3 hks hrow))
  clear HK HS
  go_loopw [6, 7, 8, 34] (fun _ _ _ t wr => ∃ i : Nat, i ≤ D.dirty.length ∧ t = .int .i64 i ∧ CrashRel w3 h1 D picks R i wr) (fun _ _ _ t _ => D.dirty.length - (intOf t).toNat)
  case atStart =>
    refine ⟨0, Nat.zero_le _, rfl, D.base, HD1c.out.frm HF3.out (fun _ _ _ e => e), fun a _ => by simp, Frm.refl _ _⟩
  case round =>
    obtain ⟨i, hi, rfl, hrel⟩ := hrel
    by_cases hlt : i < D.dirty.length
    · obtain ⟨k, hk⟩ : ∃ k, D.dirty[i]? = some k := ⟨_, List.getElem?_eq_getElem hlt⟩
      obtain ⟨blk, off, rfl, hblk, hcell, ⟨cc, hcc⟩, hfresh⟩ := HKC.out i (IntK k) (by rw [List.getElem?_map, List.getElem?_map, hk]; rfl)
      have HREL := Lib.hid hrel
      obtain ⟨B, hdr, hB, hfr⟩ := hrel
      have hkn : k < D.n := List.mem_range.1 (List.mem_filter.1 (List.mem_of_getElem? hk)).1
      have OLD : ∀ b, b < w.heap.size → wr.heap[b]? = w.heap[b]? := fun b hb => by
        have q1 := HW2.out.block b hb (fun e => e)
        have q2 := HF3.out.block b (Nat.lt_of_lt_of_le hb HW2.out.size) (fun e => e)
        have q3 := hfr.block b (Nat.lt_of_lt_of_le (Nat.lt_of_lt_of_le hb HW2.out.size) HF3.out.size) (fun e => by have e' : b = h1.fm := e; have := HL.out.2.1; omega)
        rw [q3, q2, q1]
      have hbl := HBL.out
      have d2 : wr.cell? ⟨h.b, 2, none⟩ = some (.map (some h.wm)) := by rw [← HC0.out.2.1]; exact World.cell?_of_block (w := w) (OLD _ hbl)
      have d3 : wr.cell? ⟨h.b, 3, none⟩ = some (.map (some h.mm)) := by rw [← HC0.out.2.2]; exact World.cell?_of_block (w := w) (OLD _ hbl)
      obtain ⟨lr, hbr, _, _⟩ := hdr.blk
      obtain ⟨_, d1, _, _, _, _, _, _⟩ := devObj_cells h1 _ _ _ _ hbr
      have hkc : wr.cell? ⟨blk, off + i, none⟩ = some (.int .i64 k) := by
        rw [← hcell]
        exact hfr.cell hblk (fun e => by have e' : blk = h1.fm := e; have := HMf2.out.lt; have : w2.heap.size ≤ blk := hfresh; omega)
      have hi0 : (0 : Int) ≤ (i : Int) := Int.natCast_nonneg _
      have hi1 : (i : Int) < (D.dirty.length : Int) := by omega
      have HK' := Lib.hid hk
      have HHB := Lib.hid hB
      have HFR := Lib.hid hfr
      have HDR := Lib.hid hdr
      have HBR := Lib.hid hbr
      have HOLD := Lib.hid OLD
      clear hk hB hfr hdr hbr OLD hcell hcc hfresh hblk
      by_cases hip : i < picks.length
      · obtain ⟨pv, hpv⟩ : ∃ pv, picks[i]? = some pv := ⟨_, List.getElem?_eq_getElem hip⟩
        obtain ⟨pb, po, rfl, hpb, hpc⟩ := HCELLS.out i (IntK pv) (by rw [List.getElem?_map, hpv]; rfl)
        have hpc' : wr.cell? ⟨pb, po + i, none⟩ = some (.int .i64 pv) := by
          rw [← hpc]; exact World.cell?_of_block (w := w) (HOLD.out _ hpb)
        have hokk : okI (k : Int) := HH.out.okn (by omega) (by omega)
        have hlk := HMm.out.lookup kindInt Try.underlying96 hokk zeroInt
        have hmk := Hm1.out k hokk
        have hdk : D.pend k ≠ [] := by
          have := (List.mem_filter.1 (List.mem_of_getElem? HK'.out)).2
          simpa using this
        rw [if_neg hdk] at hmk
        have hfew := HH.out.wf.few k
        have hpo : D.ops < 4611686018427387904 := HOPS.out
        obtain ⟨ln, hln⟩ : ∃ ln, ln = (D.pend k).length := ⟨_, rfl⟩
        rw [← hln] at hmk hfew
        rw [hmk] at hlk
        obtain ⟨r, hr⟩ : ∃ r, r = pv % ((ln : Int) + 1) := ⟨_, rfl⟩
        have hr0 : 0 ≤ r := by rw [hr]; exact Int.emod_nonneg _ (by omega)
        have hr1 : r ≤ ln := by have := Int.emod_lt_of_pos pv (by omega : (0 : Int) < (ln : Int) + 1); omega
        have hpick : D.pick picks k = r.toNat := by rw [D.pick_eq picks HK'.out, hr, hln, List.getD_eq_getElem?_getD, hpv]; rfl
        have HMOD : Hid (∀ W, Calls Try.prog 75 #[.int .i64 pv, .int .i64 ((ln : Int) + 1)] W fun e w' => W = w' ∧ e = .returned (.int .i64 r)) := Lib.hid fun W => by
          rw [hr]; exact modulo_any W pv ((ln : Int) + 1) (HPK.out pv (List.mem_of_getElem? hpv)) (by omega) (by omega)
        have KA : Hid (∀ y, Agree wr y → y.cell? ⟨pb, po + i, none⟩ = some (.int .i64 pv) ∧ y.cell? ⟨h.b, 3, none⟩ = some (.map (some h.mm)) ∧ (Instr.lookup 96 (.map (some h.mm)) (.int .i64 k) false).run Try.prog y = .ok (.int .i64 ln) y) := Lib.hid fun y hy => by
          have hsz : w.heap.size ≤ wr.heap.size := Nat.le_trans HW2.out.size (Nat.le_trans HF3.out.size HFR.out.size)
          exact ⟨by rw [← hpc']; exact hy.cell (by omega), by rw [← d3]; exact hy.cell (by omega), hlk y ((hy _ (Nat.lt_of_lt_of_le HMm.out.lt hsz)).trans (HOLD.out _ HMm.out.lt))⟩
        have l3 := (KA.out wr (Agree.refl _)).2.2
        have hpi1 : (i : Int) < (picks.length : Int) := by omega
        have HR := Lib.hid hr
        have HPICK := Lib.hid hpick
        have HLN := Lib.hid hln
        have HFEW := Lib.hid hfew
        have HDK := Lib.hid hdk
        have HOKK := Lib.hid hokk
        have HPO := Lib.hid hpo
        clear hr hpick hln hdk hokk hmk hlk hpv hpc hpb
        by_cases hr2 : r = 0
        · have REL := Lib.hid (HREL.out.skip HK'.out (by rw [HPICK.out, hr2]; rfl))
          have hr3 : ¬ 0 < r := by omega
          have HR2 := Lib.hid hr2
          have hln2 : ln < 4611686018427387904 := Nat.lt_of_le_of_lt HFEW.out HPO.out
          have hln3 : (0 : Int) ≤ (ln : Int) + 1 := by omega
          have hwr : IntKind.i64.wrap ((ln : Int) + 1) = (ln : Int) + 1 := IntWalk.i64_in _ (by omega)
          clear hr2
          go_wp2_with fail
          go_region_held3 (fun y => y.cell? ⟨pb, po + i, none⟩ = some (.int .i64 pv) ∧ y.cell? ⟨h.b, 3, none⟩ = some (.map (some h.mm)) ∧ (Instr.lookup 96 (.map (some h.mm)) (.int .i64 k) false).run Try.prog y = .ok (.int .i64 ln) y)
            (first | (refine KA.out _ ?_; intro _ _; rfl))
            (first | (go_at_call 75; refine (HMOD.out _).mono ?_; rintro e w' ⟨rfl, rfl⟩))
          have REL' := Lib.hid REL.out.drew
          have HI := Lib.hid hlt
          clear hwr hln2 hln3 l3
          go_wp2
          go_roundw
          case rel => first | exact ⟨i + 1, HI.out, by go_num, REL'.out⟩ | ((repeat apply Exists.intro); exact ⟨⟨HI.out, by go_num, REL'.out⟩, rfl⟩)
          case measure => simp [intOf]; omega
        · have hr3 : 0 < r := by omega
          obtain ⟨j, rfl⟩ : ∃ j : Nat, r = (j : Int) + 1 := ⟨r.toNat - 1, by omega⟩
          have hokj : okI ((j : Int) + 1) := by have := HFEW.out; have := HPO.out; rw [okI_iff]; omega
          obtain ⟨vj, hvj, hbj⟩ := Hg1.out k j (by rw [← HLN.out]; omega)
          have hlw := HMg.out.lookup kindPair Try.underlying110 (a := ((k : Int), (j : Int) + 1)) ⟨HOKK.out, hokj⟩ zeroBytes
          rw [hvj] at hlw
          have hsz : w.heap.size ≤ wr.heap.size := Nat.le_trans HW2.out.size (Nat.le_trans HF3.out.size HFR.out.size)
          have hbr : BytesAt wr vj ((D.pend k).getD j []) R := hbj.of_block fun x c _ hc => HOLD.out x (lt_of_block hc)
          obtain ⟨o3, u1, u2⟩ := HDR.out.setBase (k := (k : Int)) (by omega) (by show (k : Int) < (D.n : Int); omega) (HH.out.wf.pend k _ (by
            rw [List.getD_eq_getElem?_getD]
            cases hx : (D.pend k)[j]? with
            | none => rw [List.getElem?_eq_none_iff] at hx; have := HLN.out; omega
            | some b => exact List.mem_of_getElem? hx)) hbr
          have hcb : D.crashBlk picks k = (D.pend k).getD j [] := by
            unfold DSt.crashBlk
            have hp : D.pick picks k = j + 1 := by rw [HPICK.out]; omega
            rw [hp, if_neg (by omega), Nat.add_sub_cancel]
            rw [List.getD_eq_getElem?_getD, List.getD_eq_getElem?_getD, List.getElem?_eq_getElem (by have := HLN.out; omega)]
            rfl
          have KB : Hid (∀ y, Agree wr y → y.cell? ⟨h1.b, 1, none⟩ = some (.map (some h1.fm)) ∧ y.cell? ⟨h.b, 2, none⟩ = some (.map (some h.wm)) ∧
              (Instr.lookup 110 (.map (some h.wm)) (.agg #[.int .i64 k, .int .i64 ((j : Int) + 1)]) false).run Try.prog y = .ok vj y) := Lib.hid fun y hy =>
            ⟨by rw [← d1]; exact hy.cell (lt_of_block HBR.out), by rw [← d2]; exact hy.cell (by omega), hlw y ((hy _ (Nat.lt_of_lt_of_le HMg.out.lt hsz)).trans (HOLD.out _ HMg.out.lt))⟩
          have KC : Hid (∀ y o, Agree wr y → (setBlock y h1.fm o).cell? ⟨h1.b, 1, none⟩ = some (.map (some h1.fm)) ∧ (setBlock y h1.fm o).cell? ⟨h.b, 2, none⟩ = some (.map (some h.wm)) ∧
              (Instr.lookup 110 (.map (some h.wm)) (.agg #[.int .i64 k, .int .i64 ((j : Int) + 1)]) false).run Try.prog (setBlock y h1.fm o) = .ok vj (setBlock y h1.fm o)) := Lib.hid fun y o hy => by
            have hL := HL.out
            have hlt1 := HMg.out.lt
            have e8 : y.heap[h.wm]? = wr.heap[h.wm]? := hy h.wm (by omega)
            have e9 : (setBlock y h1.fm o).heap[h.wm]? = w.heap[h.wm]? := (block_setBlock_other o e8 (by omega)).trans (HOLD.out _ hlt1)
            refine ⟨?_, ?_, hlw _ e9⟩
            · rw [← d1]; exact World.cell?_of_block (w := wr) (block_setBlock_other _ (hy _ (lt_of_block HBR.out)) HDR.out.apart.1)
            · have e7 : y.heap[h.b]? = wr.heap[h.b]? := hy h.b (by omega)
              have hne : h.b ≠ h1.fm := by omega
              have e6 : (setBlock y h1.fm o).heap[h.b]? = wr.heap[h.b]? := block_setBlock_other o e7 hne
              rw [← d2]; exact World.cell?_of_block (w := wr) e6
          have q1 := u1 wr.drew.drew rfl
          have hw4 := u2 wr.drew.drew (fun _ _ => rfl) (Nat.le_refl _)
          have REL : CrashRel w3 h1 D picks R (i + 1) (setBlock wr.drew.drew h1.fm o3) := by
            rw [← hcb] at hw4
            exact CrashRel.step HHB.out HFR.out HK'.out ((Frm.refl (Only h1.fm) wr).drew.drew.setBlock (.inl (Only.self _)) _) hw4
          have HREL' := Lib.hid REL
          have HI := Lib.hid hlt
          have HQ := Lib.hid q1
          have HOKJ := Lib.hid hokj
          have hln2 : ln < 4611686018427387904 := Nat.lt_of_le_of_lt HFEW.out HPO.out
          have hln3 : (0 : Int) ≤ (ln : Int) + 1 := by omega
          have hwr : IntKind.i64.wrap ((ln : Int) + 1) = (ln : Int) + 1 := IntWalk.i64_in _ (by omega)
          clear hr2 hokj hvj hbj hlw hsz hbr u1 u2 hcb q1 hw4 REL
          go_wp2_with fail
          go_region_held3 (fun y => y.cell? ⟨pb, po + i, none⟩ = some (.int .i64 pv) ∧ y.cell? ⟨h.b, 3, none⟩ = some (.map (some h.mm)) ∧ (Instr.lookup 96 (.map (some h.mm)) (.int .i64 k) false).run Try.prog y = .ok (.int .i64 ln) y)
            (first | (refine KA.out _ ?_; intro _ _; rfl))
            (first | (go_at_call 75; refine (HMOD.out _).mono ?_; rintro e w' ⟨rfl, rfl⟩))
          clear hwr hln2 hln3 l3
          go_wp2_with fail
          have q1 := HQ.out
          go_region_held3 (fun y => y.cell? ⟨h1.b, 1, none⟩ = some (.map (some h1.fm)) ∧ y.cell? ⟨h.b, 2, none⟩ = some (.map (some h.wm)) ∧
              (Instr.lookup 110 (.map (some h.wm)) (.agg #[.int .i64 k, .int .i64 ((j : Int) + 1)]) false).run Try.prog y = .ok vj y)
            (first | (refine KB.out _ ?_; intro _ _; rfl) | (refine KC.out _ _ ?_; intro _ _; rfl))
            (first | fail)
          clear q1
          go_wp2
          go_roundw
          case rel => first | exact ⟨i + 1, HI.out, by go_num, HREL'.out⟩ | ((repeat apply Exists.intro); exact ⟨⟨HI.out, by go_num, HREL'.out⟩, rfl⟩)
          case measure => simp [intOf]; omega
      · have hip' : ¬ (i : Int) < (picks.length : Int) := by omega
        have REL := Lib.hid (HREL.out.skip HK'.out (by rw [D.pick_eq picks HK'.out, List.getD_eq_getElem?_getD, List.getElem?_eq_none (by omega)]; simp))
        have HI := Lib.hid hlt
        go_wp2
        go_roundw
        case rel => first | exact ⟨i + 1, HI.out, by go_num, REL.out⟩ | ((repeat apply Exists.intro); exact ⟨⟨HI.out, by go_num, REL.out⟩, rfl⟩)
        case measure => simp [intOf]; omega
    · obtain rfl : i = D.dirty.length := by omega
      obtain ⟨B, hdr, hB, hfr⟩ := hrel
      have FIN : Made w (D.crash picks) R (.pointer (some ⟨h1.b, 0, none⟩)) wr := by
        refine ⟨(HW2.out.trans HF3.out (fun _ _ e => e)).trans hfr (fun x hx e => by have e' : x = h1.fm := e; have := HL.out.2.1; omega), h1, rfl, ?_, HM1.out⟩
        refine hdr.rebased rfl rfl rfl rfl (DSt.crash_wf HH.out.wf picks) (fun a ha => ?_)
        have ha' : a < D.n := ha
        show B a = if (D.pend a).isEmpty then D.base a else D.crashBlk picks a
        rw [hB a ha', List.take_length]
        by_cases hm : a ∈ D.dirty
        · rw [if_pos hm]
          have := (List.mem_filter.1 hm).2
          rw [if_neg (by simpa using this)]
        · rw [if_neg hm]
          by_cases hp : (D.pend a).isEmpty = true
          · rw [if_pos hp]
          · exact absurd (List.mem_filter.2 ⟨List.mem_range.2 ha', by simpa using hp⟩) hm
      have HFIN := Lib.hid FIN
      clear FIN hdr hB hfr hi
      go_wp2
      go_ret
      exact ⟨_, rfl, HFIN.out⟩

theorem Crash_nil (w : World) (vp : Value) :
    Calls Try.prog 34 #[.pointer none, vp] w fun e w' => e = .returned (.pointer (some ⟨w.heap.size, 0, none⟩)) ∧ w' = w.alloc (.cells #[.int .i64 0, .map none, .map none, .map none, .int .i64 0, .bool false, .int .i64 0] 112 (0, 0)) := by
  go_enter Try.func34, Try.ntmps34
  go_wp2
  go_ret
  exact ⟨rfl, rfl⟩
end Go.Proofs.Ytkanfpmmgaipnaa
