/-
  Keys of a map, sorted; rows of one-cell elements.; maps.Copy of a map of blocks.; The device's Crash.; The device's Copy.; bollardalike: Round, Block, Bytes.; The device's functions for a caller who keeps no bytes of his own.; What a call holds in memory, object by object: each in blocks of its own, none of which was there when the call began.; bollardlaw3.awake.; An array of slices of ints that grow by append, as an object.
-/
import Derived.Test.YtkanfpmmgaipnaaM0
import Derived.Test.YtkanfpmmgaipnaaShelf
import Derived.Deep.QuietTactic
import Derived.BigQuiet
import Derived.Maps.AppendAt

/-
  Keys of a map, sorted; rows of one-cell elements.
-/
namespace Go.Proofs.Ytkanfpmmgaipnaa
open Go.MapKept Go.RowKit Go.Shelf
open Go.WideElems (Fit)

/-- Elements are held as they are. -/
def heldR (v : Value) : Option (DataW Value × List MemPlace) := some (.held v, [])

theorem intKeys_perm {H : Type} (g : MapEntry → Lit × DataW H) (l : List MapEntry) : (intKeys (.map ((l.map g).foldr DataW.insert []))).Perm (l.map fun x => Go.intOf (g x).1) := by
  show (List.map (fun p : Lit × DataW H => Go.intOf p.1) _).Perm _
  have := (WideShapes.sorted_perm (l.map g)).map (fun p : Lit × DataW H => Go.intOf p.1)
  rw [List.map_map] at this
  exact this

theorem MapAt.owns {w : World} {b n : Nat} {f : Int → Option Value} (h : MapAt IntK okI w b n f) (hn : n ≤ maxLen) :
    ∃ D, w.ownsMap Try.prog 3 heldR b n D ∧ Maps.size D = n ∧ (intKeys D).Nodup ∧ (intKeys D).length = n ∧ ∀ a, a ∈ intKeys D ↔ okI a ∧ (f a).isSome = true := by
  obtain ⟨es, clock, hb, hst, hk, rfl, hf⟩ := h
  have hrd : ∀ x ∈ es.toList, ∃ a, okI a ∧ x.key = IntK a ∧ WideElems.rd Try.prog 3 heldR x = some (.int .i64 a, .held x.val) := fun x hx => by
    obtain ⟨a, ha, e⟩ := hk x hx
    refine ⟨a, ha, e, ?_⟩
    unfold WideElems.rd
    rw [e]
    have : keyOf Try.prog 3 (IntK a) = some (.int .i64 a) := Go.Maps.keyOf_int_mk Try.underlying3 ha
    rw [this]
    rfl
  have F : Fit Try.prog 3 heldR es clock := ⟨hn, hst, fun x hx => by obtain ⟨a, _, _, e⟩ := hrd x hx; exact ⟨_, e⟩⟩
  have hlen : ((es.toList.map (WideElems.rg Try.prog 3 heldR)).foldr DataW.insert []).length = es.size := by rw [length_sorted]; simp
  have hperm := intKeys_perm (WideElems.rg Try.prog 3 heldR) es.toList
  have hkey : ∀ x ∈ es.toList, ∀ a, x.key = IntK a → Go.intOf (WideElems.rg Try.prog 3 heldR x).1 = a := fun x hx a e => by
    obtain ⟨a', _, e', hr⟩ := hrd x hx
    rw [WideElems.rg_of hr]
    have : IntK a = IntK a' := e.symm.trans e'
    show a' = a
    exact (Value.int.inj this).2.symm
  refine ⟨_, ⟨es, clock, hb, F, Nat.le_refl _, rfl⟩, ?_, ?_, ?_, fun a => ?_⟩
  · show ((es.toList.map (WideElems.rg Try.prog 3 heldR)).foldr DataW.insert []).length = es.size
    exact hlen
  · refine (hperm.nodup_iff).2 ?_
    rw [List.Nodup, List.pairwise_map]
    have hpw : es.toList.Pairwise (fun x y => x.key ≠ y.key) := ((stamped_iff es clock).1 hst).2.2
    refine List.Pairwise.imp_of_mem ?_ hpw
    intro x y hx hy hne e
    obtain ⟨a, _, ea⟩ := hk x hx
    obtain ⟨b', _, eb⟩ := hk y hy
    rw [hkey x hx a ea, hkey y hy b' eb] at e
    exact hne (by rw [ea, eb, e])
  · rw [hperm.length_eq]; simp
  · rw [hperm.mem_iff, List.mem_map]
    constructor
    · rintro ⟨x, hx, e⟩
      obtain ⟨a', ha', ea⟩ := hk x hx
      rw [hkey x hx a' ea] at e
      subst e
      exact ⟨ha', by rw [(hf a' x.val ha').2 ⟨x, hx, ea, rfl⟩]; rfl⟩
    · rintro ⟨ha, hs⟩
      obtain ⟨v, hv⟩ := Option.isSome_iff_exists.1 hs
      obtain ⟨x, hx, ex, _⟩ := (hf a v ha).1 hv
      exact ⟨x, hx, hkey x hx a ex⟩

/-- The slice v holds the elements xs, of one cell each, of type t, in a block of R. -/
def RowAt (w : World) (t : TypeId) (v : Value) (xs : List Value) (R : Nat → Prop) : Prop :=
  (v = .slice none 0 0 ∧ xs = []) ∨
  ∃ blk off cap c, v = .slice (some ⟨blk, off, none⟩) xs.length cap ∧ xs.length ≤ cap ∧ w.heap[blk]? = some (.cells c t (0, 0)) ∧ (∀ i, i < xs.length → c[off + i]? = xs[i]?) ∧ R blk

theorem RowAt.of_block {w w' : World} {t : TypeId} {v : Value} {xs : List Value} {R : Nat → Prop} (h : RowAt w t v xs R) (hb : ∀ x c, R x → w.heap[x]? = some (.cells c t (0, 0)) → w'.heap[x]? = w.heap[x]?) : RowAt w' t v xs R := by
  rcases h with h | ⟨blk, off, cap, c, h1, h2, h3, h4, h5⟩
  · exact .inl h
  · exact .inr ⟨blk, off, cap, c, h1, h2, (hb blk c h5 h3).trans h3, h4, h5⟩

theorem RowAt.of_owns {w : World} {base : Nat} {t : TypeId} {v : Value} {n : Nat} {xs : List Value} (h : w.ownsRow base t 1 v n xs) : RowAt w t v xs (fun x => base ≤ x) := by
  obtain ⟨hl, h | ⟨g, cap, cur, rfl, hb, hh, hn, _, hsz, ht⟩⟩ := h
  · obtain ⟨rfl, rfl⟩ := h
    exact .inl ⟨rfl, List.eq_nil_of_length_eq_zero (by rw [hl])⟩
  · rw [Nat.mul_one] at hl ht
    subst hl
    refine .inr ⟨g, 0, cap, cur, rfl, hn, hh, fun i hi => ?_, hb⟩
    have h1 : (cur.toList.take xs.length)[i]? = xs[i]? := by rw [ht]
    rw [List.getElem?_take, if_pos hi] at h1
    rw [Nat.zero_add, ← h1, Array.getElem?_toList]

/-- The slice v, which may be nil, has the elements xs, of one cell each. -/
def Elems (w : World) (v : Value) (xs : List Value) : Prop :=
  ∃ a cap, v = .slice a xs.length cap ∧ ∀ i x, xs[i]? = some x → ∃ blk off, a = some ⟨blk, off, none⟩ ∧ blk < w.heap.size ∧ w.cell? ⟨blk, off + i, none⟩ = some x

theorem RowAt.elems {w : World} {t : TypeId} {v : Value} {xs : List Value} {R : Nat → Prop} (h : RowAt w t v xs R) : Elems w v xs := by
  rcases h with ⟨rfl, rfl⟩ | ⟨blk, off, cap, c, h1, h2, h3, h4, h5⟩
  · exact ⟨none, 0, rfl, fun i x hx => by simp at hx⟩
  · refine ⟨_, cap, h1, fun i x hx => ⟨blk, off, rfl, lt_of_block h3, ?_⟩⟩
    rw [cell_of_block h3, h4 i (List.getElem?_eq_some_iff.1 hx).1, hx]

theorem Elems.keep {w w' : World} {v : Value} {xs : List Value} (h : Elems w v xs) (hk : ∀ b, b < w.heap.size → w'.heap[b]? = w.heap[b]?) (hs : w.heap.size ≤ w'.heap.size) : Elems w' v xs := by
  obtain ⟨a, cap, rfl, h1⟩ := h
  refine ⟨a, cap, rfl, fun i b hb => ?_⟩
  obtain ⟨blk, off, e, hlt, hc⟩ := h1 i b hb
  exact ⟨blk, off, e, Nat.lt_of_lt_of_le hlt hs, by rw [← hc]; exact World.cell?_of_block (w := w) (hk blk hlt)⟩

theorem Elems.frm {w w' : World} {v : Value} {xs : List Value} (h : Elems w v xs) (hf : Frm NoB w w') : Elems w' v xs := h.keep (fun b hb => hf.block b hb (fun e => e)) hf.size

/-- The keys of a partial function, sorted. -/
structure SortedKeys (f : Int → Option Value) (n : Nat) (ks : List Int) : Prop where
  sorted : ks.Pairwise (· < ·)
  mem : ∀ a, a ∈ ks ↔ okI a ∧ (f a).isSome = true
  len : ks.length = n

theorem sortedKeys_of {f : Int → Option Value} {n : Nat} {D : DataW Value} {ss : List Int} (hp : ss.Perm (intKeys D)) (hnd : (intKeys D).Nodup) (hlen : (intKeys D).length = n)
    (hm : ∀ a, a ∈ intKeys D ↔ okI a ∧ (f a).isSome = true) : SortedKeys f n (ss.mergeSort (fun x y => decide (x ≤ y))) := by
  have hp2 : (ss.mergeSort (fun x y => decide (x ≤ y))).Perm (intKeys D) := (List.mergeSort_perm ss _).trans hp
  have hs : (ss.mergeSort (fun x y => decide (x ≤ y))).Pairwise (fun x y => decide (x ≤ y) = true) :=
    List.pairwise_mergeSort (fun a b c h1 h2 => by simp at *; omega) (fun a b => by simp; omega) ss
  have hn2 : (ss.mergeSort (fun x y => decide (x ≤ y))).Nodup := (hp2.nodup_iff).2 hnd
  refine ⟨?_, fun a => hp2.mem_iff.trans (hm a), by rw [hp2.length_eq, hlen]⟩
  refine (hs.and hn2).imp ?_
  rintro a b ⟨h1, h2⟩
  simp at h1
  omega

theorem sortsA (m : Nat) : AnyZI.SortsIn Try.prog Try.sortedA_ren Fence.wide m :=
  ⟨fun blk off cap ss W hH hblk hsz => callsIn_wide.2 (AnyM.slices_Sort_int Try.sortA blk off cap ss W hH hblk hsz),
   fun p cap W => callsIn_wide.2 (AnyM.slices_Sort_int_none Try.sortA p cap W)⟩

theorem Keys_any (b : Nat) (w : World) :
    Calls Try.prog 74 #[.map (some b)] w fun e w' => e = .returned (.func (.func 103) #[] #[.pointer (some ⟨w.heap.size, 0, none⟩)]) ∧ w' = w.alloc (.cells #[.map (some b)] 96) :=
  (callsIn_wide (n := 5)).1 (AnyZI.keys_in Try.keysA Fence.wide 5 trivial rfl (some b) w)

theorem Sorted_any (b n : Nat) (f : Int → Option Value) (w : World) (h : MapAt IntK okI w b n f) (hn : n ≤ 1000000000) :
    Calls Try.prog 73 #[.func (.func 103) #[] #[.pointer (some ⟨w.heap.size, 0, none⟩)]] (w.alloc (.cells #[.map (some b)] 96)) fun e w' =>
      ∃ v ks, e = .returned v ∧ SortedKeys f n ks ∧ RowAt w' 3 v (ks.map IntK) (Fresh w) ∧ Frm NoB w w' := by
  obtain ⟨D, hown, hsz, hnd, hlen, hm⟩ := h.owns (by unfold maxLen; omega)
  have hbl := hown.lt
  have hseq : SeqGives Fence.wide 2 Try.prog 103 #[.pointer (some ⟨w.heap.size, 0, none⟩)] encZ (fun ss => ss.Perm (intKeys D)) (Maps.size D) (w.alloc (.cells #[.map (some b)] 96)) :=
    AnyZI.keys_gives (ρ := Try.keysA_ren) { Try.keysA with } Fence.wide _ trivial rfl (by omega) w.heap.size b n D _ (by simp) (by simp) (by
      obtain ⟨es, clock, hb, Ft, hs, hD⟩ := hown
      exact ⟨es, clock, (Below.heap_alloc _ _ b hbl).trans hb, Ft, hs, hD⟩)
  have cS := AnyZI.sorted_in Try.sortedA Fence.wide 5 trivial trivial trivial trivial rfl (by omega) (sortsA _) (enters_of Try.func102 (by kernel_rfl) rfl) 103 #[.pointer (some ⟨w.heap.size, 0, none⟩)] trivial (enters_of Try.func103 (by kernel_rfl) rfl) _ _ (by rw [hsz]; unfold maxLen; omega) (by rw [hsz]; omega) _ hseq
  change CallsIn _ _ Try.prog 73 _ _ _ at cS
  refine ((callsIn_wide (n := 5)).1 cS).mono ?_
  rintro e w' ⟨v, ss, rfl, hS, hrow, hnil, hb⟩
  refine ⟨v, _, rfl, sortedKeys_of hS hnd hlen hm, ?_, ?_⟩
  · rcases RowAt.of_owns hrow with h1 | ⟨blk, off, cap, c, h1, h2, h3, h4, h5⟩
    · exact .inl h1
    · exact .inr ⟨blk, off, cap, c, h1, h2, h3, h4, by simp at h5; unfold Fresh; omega⟩
  · exact ((Frm.refl NoB w).alloc _).trans (Frm.ofBelow hb rfl NoB) (fun _ _ e => e)
end Go.Proofs.Ytkanfpmmgaipnaa

/-
  maps.Copy of a map of blocks.
-/
namespace Go.Proofs.Ytkanfpmmgaipnaa
open Go.ChangeMaps Go.MapKept Go.RowKit

def CopyRel (w : World) (bd bs n : Nat) (f0 f : Int → Option Value) (wr : World) : Prop :=
  ∃ (left : Int → Prop) (cnt n' : Nat) (f' : Int → Option Value), RangeAt IntK okI wr bs w.heap.size n f left cnt ∧ MapAt IntK okI wr bd n' f' ∧
    (∀ a, okI a → left a → f' a = f0 a) ∧ (∀ a, okI a → ¬ left a → f' a = (f a).or (f0 a)) ∧ Frm (Only bd) w wr

theorem mapsCopy_any (w : World) (bd bs n0 n : Nat) (f0 f : Int → Option Value) (hd : MapAt IntK okI w bd n0 f0) (hs : MapAt IntK okI w bs n f) (hne : bd ≠ bs) :
    Calls Try.prog 72 #[.map (some bd), .map (some bs)] w fun e w' =>
      e = .returned (.tuple #[]) ∧ (∃ n', MapAt IntK okI w' bd n' (fun a => (f a).or (f0 a))) ∧ Frm (Only bd) w w' := by
  have hbd := hd.lt
  have HD := Lib.hid hd
  clear hd
  go_enter Try.func72, Try.ntmps72
  go_wp2_with (at_range; refine wpList_range_at rfl _ 109 rfl 3 31 Try.underlying109 rfl hs ?_; intro o' hrg)
  go_frame
  go_loopw [4, 5] (fun _ _ wr => CopyRel w bd bs n f0 f wr) (fun _ _ wr => wr.rangeLeft bs w.heap.size)
  case atStart =>
    refine ⟨_, _, n0, f0, hrg, HD.out.of_block (Below.heap_alloc _ _ _ hbd), fun _ _ _ => rfl, fun a _ hna => ?_, (Frm.refl _ _).alloc _⟩
    have : f a = none := by
      cases hf : f a with
      | none => rfl
      | some v => rw [hf] at hna; exact absurd rfl hna
    rw [this]; rfl
  case round =>
    clear hrg
    obtain ⟨left, cnt, n', f', hrg, hm', hl1, hl2, hfr⟩ := hrel
    have HL1 := Lib.hid hl1
    have HL2 := Lib.hid hl2
    have HFR := Lib.hid hfr
    clear hl1 hl2 hfr
    go_wp2_with (at_next; refine wpList_next_at rfl _ rfl kindInt rfl hrg ?_ ?_)
    · intro hno
      have FIN : ∃ n', MapAt IntK okI wr bd n' (fun a => (f a).or (f0 a)) := ⟨n', hm'.congr fun a ha => (HL2.out a ha (hno a ha)).symm⟩
      have HFIN := Lib.hid FIN
      clear FIN hno
      go_wp2
      go_end0
      exact ⟨rfl, HFIN.out, HFR.out⟩
    · intro x v w2 cnt' hokx hlx hfx hrg2 hlt hf2 hs2 hen
      have hbr : bd ≠ w.heap.size := by omega
      have hm2 : MapAt IntK okI w2 bd n' f' := hm'.frm hf2 hbr
      obtain ⟨o3, u1, u2⟩ := hm2.update kindInt Try.underlying109 hokx v
      have u1' := u1 w2 rfl
      have hrg4 : RangeAt IntK okI (setBlock w2 bd o3) bs w.heap.size n f (fun y => left y ∧ y ≠ x) cnt' := hrg2.of_blocks (block_setBlock_other _ rfl (Ne.symm hne)) (block_setBlock_other _ rfl (Ne.symm hbr))
      have REL : CopyRel w bd bs n f0 f (setBlock w2 bd o3) := by
        refine ⟨_, cnt', _, _, hrg4, u2 w2 hm2.lt, fun a ha hl => ?_, fun a ha hl => ?_, ?_⟩
        · unfold upd
          rw [if_neg hl.2]
          exact HL1.out a ha hl.1
        · unfold upd
          by_cases hax : a = x
          · subst hax; rw [if_pos rfl, hfx]; rfl
          · rw [if_neg hax]
            exact HL2.out a ha (fun h => hl ⟨h, hax⟩)
        · exact (HFR.out.trans hf2 (fun y hy e => by have e' : y = w.heap.size := e; omega)).setBlock (.inl rfl) _
      have HREL := Lib.hid REL
      have HR4 := Lib.hid hrg4
      have HRG := Lib.hid hrg
      have HLT := Lib.hid hlt
      clear REL hrg4 hrg hlt u1 u2 hm2 hf2 hs2 hlx hfx hrg2
      go_wp2
      go_roundw
      case rel => first | exact HREL.out | ((repeat apply Exists.intro); exact ⟨HREL.out, rfl⟩)
      case measure => rw [HR4.out.left_eq, HRG.out.left_eq]; exact HLT.out
end Go.Proofs.Ytkanfpmmgaipnaa

/-
  The device's Crash.
-/
namespace Go.Proofs.Ytkanfpmmgaipnaa
open Go.ChangeMaps Go.MapKept Go.RowKit

/-! ### Which key comes how manieth -/

theorem sorted_ext : ∀ (l l' : List Int), l.Pairwise (· < ·) → l'.Pairwise (· < ·) → (∀ a, a ∈ l ↔ a ∈ l') → l = l'
  | [], [], _, _, _ => rfl
  | [], b :: l', _, _, h => absurd ((h b).2 (by simp)) (by simp)
  | a :: l, [], _, _, h => absurd ((h a).1 (by simp)) (by simp)
  | a :: l, b :: l', h1, h2, h => by
    obtain ⟨p1, p2⟩ := List.pairwise_cons.1 h1
    obtain ⟨q1, q2⟩ := List.pairwise_cons.1 h2
    have hab : a = b := by
      have e1 : a ∈ b :: l' := (h a).1 (by simp)
      have e2 : b ∈ a :: l := (h b).2 (by simp)
      rcases List.mem_cons.1 e1 with e1 | e1
      · exact e1
      · rcases List.mem_cons.1 e2 with e2 | e2
        · exact e2.symm
        · have := q1 a e1; have := p1 b e2; omega
    subst hab
    rw [sorted_ext l l' p2 q2 (fun x => ?_)]
    constructor
    · intro hx
      rcases List.mem_cons.1 ((h x).1 (List.mem_cons_of_mem _ hx)) with e | e
      · subst e; have := p1 x hx; omega
      · exact e
    · intro hx
      rcases List.mem_cons.1 ((h x).2 (List.mem_cons_of_mem _ hx)) with e | e
      · subst e; have := q1 x hx; omega
      · exact e

def DSt.dirty (D : DSt) : List Nat := (List.range D.n).filter (fun j => !(D.pend j).isEmpty)

theorem DSt.dirty_rank (D : DSt) (i k : Nat) (h : D.dirty[i]? = some k) : D.rank k = i := by
  have hk : k ∈ D.dirty := List.mem_of_getElem? h
  obtain ⟨hk1, hk2⟩ := List.mem_filter.1 hk
  have hlt : k < D.n := List.mem_range.1 hk1
  have hsplit : List.range D.n = List.range k ++ k :: (List.range' (k + 1) (D.n - (k + 1))) := by
    have h1 := List.range'_append_1 (s := 0) (m := k) (n := D.n - (k + 1) + 1)
    rw [Nat.zero_add] at h1
    rw [List.range_eq_range', List.range_eq_range', ← List.range'_succ, h1]
    congr 1
    omega
  have hd : D.dirty = (List.range k).filter (fun j => !(D.pend j).isEmpty) ++ k :: (List.range' (k + 1) (D.n - (k + 1))).filter (fun j => !(D.pend j).isEmpty) := by
    unfold DSt.dirty
    rw [hsplit, List.filter_append, List.filter_cons, if_pos hk2]
  have hnd : D.dirty.Nodup := (List.nodup_range).filter _
  have h2 : D.dirty[D.rank k]? = some k := by
    unfold DSt.rank
    rw [hd, List.getElem?_append_right (Nat.le_refl _), Nat.sub_self]
    rfl
  obtain ⟨a1, a2⟩ := List.getElem?_eq_some_iff.1 h
  obtain ⟨b1, b2⟩ := List.getElem?_eq_some_iff.1 h2
  have hp := List.pairwise_iff_getElem.1 hnd
  rcases Nat.lt_trichotomy i (D.rank k) with hlt | heq | hlt
  · exact absurd (a2.trans b2.symm) (hp i _ a1 b1 hlt)
  · exact heq.symm
  · exact absurd (b2.trans a2.symm) (hp _ i b1 a1 hlt)

theorem DSt.keys_dirty {D : DSt} (wf : D.Wf) {m : Int → Option Value} {n : Nat} {ks : List Int} (m1 : ∀ k : Nat, okI (k : Int) → m k = if D.pend k = [] then none else some (.int .i64 ((D.pend k).length : Nat)))
    (m2 : ∀ k, okI k → k < 0 → m k = none) (hk : SortedKeys m n ks) : ks = D.dirty.map (fun (k : Nat) => (k : Int)) := by
  refine sorted_ext _ _ hk.sorted ?_ (fun a => ?_)
  · rw [List.pairwise_map]
    exact ((List.pairwise_lt_range).filter _).imp (fun h => by omega)
  · rw [hk.mem, List.mem_map]
    constructor
    · rintro ⟨ha, hs⟩
      have h0 : 0 ≤ a := by
        rcases Int.lt_or_le a 0 with h | h
        · rw [m2 a ha h] at hs; cases hs
        · exact h
      obtain ⟨k, rfl⟩ := Int.eq_ofNat_of_zero_le h0
      rw [m1 k ha] at hs
      have hp : D.pend k ≠ [] := fun e => by rw [if_pos e] at hs; cases hs
      refine ⟨k, List.mem_filter.2 ⟨List.mem_range.2 ?_, by simpa using hp⟩, rfl⟩
      rcases Nat.lt_or_ge k D.n with h | h
      · exact h
      · exact absurd (wf.far k h) hp
    · rintro ⟨k, hk, rfl⟩
      obtain ⟨hk1, hk2⟩ := List.mem_filter.1 hk
      have hlt : k < D.n := List.mem_range.1 hk1
      have hok : okI (k : Int) := by have := wf.n; rw [okI_iff]; omega
      refine ⟨hok, ?_⟩
      rw [m1 k hok, if_neg (by simpa using hk2)]
      rfl

/-! ### The copy of what was flushed -/

theorem nodup_lt_length : ∀ (N : Nat) (L : List Nat), L.Nodup → (∀ x ∈ L, x < N) → L.length ≤ N
  | 0, L, _, h => by
    cases L with
    | nil => exact Nat.le_refl _
    | cons a l => exact absurd (h a (by simp)) (by omega)
  | N + 1, L, hn, h => by
    have h1 := nodup_lt_length N (L.erase N) (hn.erase N) (fun x hx => by
      have hx' := (hn.mem_erase_iff).1 hx
      have := h x hx'.2
      have := hx'.1
      omega)
    have h2 := List.length_erase (a := N) (l := L)
    split at h2 <;> omega

theorem MapAt.card {w : World} {b n N : Nat} {f : Int → Option Value} (h : MapAt IntK okI w b n f) (hN : ∀ a, okI a → (f a).isSome = true → 0 ≤ a ∧ a < N) : n ≤ N := by
  obtain ⟨es, clock, hb, hst, hk, rfl, hf⟩ := h
  have hex : ∀ x ∈ es.toList, ∃ k : Nat, x.key = IntK k ∧ k < N := fun x hx => by
    obtain ⟨a, ha, e⟩ := hk x hx
    have := hN a ha (by rw [(hf a x.val ha).2 ⟨x, hx, e, rfl⟩]; rfl)
    exact ⟨a.toNat, by rw [e, Int.toNat_of_nonneg this.1], by omega⟩
  have hnat : ∀ x ∈ es.toList, x.key = IntK ((RowKit.intOf x.key).toNat : Nat) ∧ (RowKit.intOf x.key).toNat < N := fun x hx => by
    obtain ⟨k, e, hlt⟩ := hex x hx
    rw [e]
    exact ⟨rfl, hlt⟩
  have h1 := nodup_lt_length N (es.toList.map fun x => (RowKit.intOf x.key).toNat) (by
    rw [List.Nodup, List.pairwise_map]
    have hpw : es.toList.Pairwise (fun x y => x.key ≠ y.key) := ((stamped_iff es clock).1 hst).2.2
    refine List.Pairwise.imp_of_mem ?_ hpw
    intro x y hx hy hne e
    exact hne (by rw [(hnat x hx).1, (hnat y hy).1, e])) (fun x hx => by
    obtain ⟨y, hy, rfl⟩ := List.mem_map.1 hx
    exact (hnat y hy).2)
  simpa using h1

theorem DevAt.copied {w w1 w' : World} {h h1 : Hdl} {D : DSt} {R : Nat → Prop} (H : DevAt w h D R) {nf : Nat} {f f' : Int → Option Value}
    (f1 : ∀ k, okI k → f k = none → 0 ≤ k → k < D.n → D.base k.toNat = zeros) (f2 : ∀ k v, okI k → f k = some v → 0 ≤ k ∧ k < D.n ∧ BytesAt w v (D.base k.toNat) R)
    (H1 : DevAt w1 h1 (DSt.new D.n) NoB) (hfr : Frm (Only h1.fm) w1 w') (hb : ∀ v bs, BytesAt w v bs R → BytesAt w' v bs R) (M : MapAt IntK okI w' h1.fm nf f') (hff : ∀ a, okI a → f' a = f a) :
    DevAt w' h1 { DSt.new D.n with base := D.base } R := by
  obtain ⟨wf, ⟨left, hblk, hl⟩, _, ⟨ng, g, Mg, g1, g2⟩, ⟨nm, m, Mm, hm⟩, ap⟩ := H1
  refine ⟨⟨wf.n, wf.n1, H.wf.base, fun _ _ hc => (by cases hc), fun _ _ => rfl, fun _ => Nat.zero_le _⟩, ⟨left, (hfr.block _ (lt_of_block hblk) (fun e => ap.1 e)).trans hblk, hl⟩, ⟨nf, f', M, fun k hk hf => f1 k hk (by rw [← hff k hk]; exact hf), fun k v hk hf => ?_⟩,
    ⟨ng, g, Mg.frm hfr (fun e => ap.2.2.2.1 e.symm), fun _ _ hi => (by cases hi), g2⟩, ⟨nm, m, Mm.frm hfr (fun e => ap.2.2.2.2.1 e.symm), hm⟩, ap⟩
  obtain ⟨a, b, c⟩ := f2 k v hk (by rw [← hff k hk]; exact hf)
  exact ⟨a, b, hb _ _ c⟩

theorem RowAt.cases {w : World} {t : TypeId} {v : Value} {xs : List Value} {R : Nat → Prop} (h : RowAt w t v xs R) :
    ∃ a cap, v = .slice a xs.length cap ∧ xs.length ≤ cap ∧ ∀ i x, xs[i]? = some x → ∃ blk off, a = some ⟨blk, off, none⟩ ∧ blk < w.heap.size ∧ w.cell? ⟨blk, off + i, none⟩ = some x ∧ (∃ c, w.heap[blk]? = some (.cells c t (0, 0))) ∧ R blk := by
  rcases h with ⟨rfl, rfl⟩ | ⟨blk, off, cap, c, h1, h2, h3, h4, h5⟩
  · exact ⟨none, 0, rfl, Nat.le_refl _, fun i x hx => by simp at hx⟩
  · refine ⟨_, cap, h1, h2, fun i x hx => ⟨blk, off, rfl, lt_of_block h3, ?_, ⟨c, h3⟩, h5⟩⟩
    rw [cell_of_block h3, h4 i (List.getElem?_eq_some_iff.1 hx).1, hx]

/-- What Crash has done behind i rounds. -/
def CrashRel (w2 : World) (h1 : Hdl) (D : DSt) (picks : List Int) (R : Nat → Prop) (i : Nat) (wr : World) : Prop :=
  ∃ B : Nat → Blk, DevAt wr h1 { DSt.new D.n with base := B } R ∧ (∀ a : Nat, a < D.n → B a = if a ∈ D.dirty.take i then D.crashBlk picks a else D.base a) ∧ Frm (Only h1.fm) w2 wr

theorem take_succ_mem {l : List Nat} {i k : Nat} (h : l[i]? = some k) (a : Nat) : a ∈ l.take (i + 1) ↔ a ∈ l.take i ∨ a = k := by
  obtain ⟨h1, h2⟩ := List.getElem?_eq_some_iff.1 h
  rw [List.take_succ_eq_append_getElem h1, List.mem_append, List.mem_singleton, h2]

theorem DSt.pick_eq (D : DSt) (picks : List Int) {i k : Nat} (h : D.dirty[i]? = some k) : D.pick picks k = ((picks.getD i 0) % (((D.pend k).length : Int) + 1)).toNat := by
  unfold DSt.pick
  rw [D.dirty_rank i k h]

theorem CrashRel.skip {w2 wr : World} {h1 : Hdl} {D : DSt} {picks : List Int} {R : Nat → Prop} {i k : Nat} (H : CrashRel w2 h1 D picks R i wr) (hk : D.dirty[i]? = some k) (hp : D.pick picks k = 0) : CrashRel w2 h1 D picks R (i + 1) wr := by
  obtain ⟨B, hd, hB, hf⟩ := H
  refine ⟨B, hd, fun a ha => ?_, hf⟩
  rw [hB a ha]
  by_cases hm : a ∈ D.dirty.take i
  · rw [if_pos hm, if_pos ((take_succ_mem hk a).2 (.inl hm))]
  · rw [if_neg hm]
    by_cases hak : a = k
    · subst hak
      rw [if_pos ((take_succ_mem hk a).2 (.inr rfl))]
      unfold DSt.crashBlk
      rw [if_pos hp]
    · rw [if_neg (fun h => ((take_succ_mem hk a).1 h).elim hm hak)]

theorem CrashRel.step {w2 wr wr' : World} {h1 : Hdl} {D : DSt} {picks : List Int} {R : Nat → Prop} {i k : Nat} {B : Nat → Blk} (hB : ∀ a : Nat, a < D.n → B a = if a ∈ D.dirty.take i then D.crashBlk picks a else D.base a)
    (hf : Frm (Only h1.fm) w2 wr) (hk : D.dirty[i]? = some k) (hf' : Frm (Only h1.fm) wr wr') (hd : DevAt wr' h1 (DSt.rebase { DSt.new D.n with base := B } k (D.crashBlk picks k)) R) : CrashRel w2 h1 D picks R (i + 1) wr' := by
  refine ⟨fun x => if x = k then D.crashBlk picks k else B x, hd, fun a ha => ?_, hf.trans hf' (fun _ _ h => h)⟩
  show (if a = k then D.crashBlk picks k else B a) = _
  by_cases hak : a = k
  · subst hak
    rw [if_pos rfl, if_pos ((take_succ_mem hk a).2 (.inr rfl))]
  · rw [if_neg hak, hB a ha]
    by_cases hm : a ∈ D.dirty.take i
    · rw [if_pos hm, if_pos ((take_succ_mem hk a).2 (.inl hm))]
    · rw [if_neg hm, if_neg (fun h => ((take_succ_mem hk a).1 h).elim hm hak)]

theorem CrashRel.drew {w2 wr : World} {h1 : Hdl} {D : DSt} {picks : List Int} {R : Nat → Prop} {i : Nat} (H : CrashRel w2 h1 D picks R i wr) : CrashRel w2 h1 D picks R i wr.drew := by
  obtain ⟨B, hd, hB, hf⟩ := H
  exact ⟨B, hd.keep (fun _ _ _ => rfl), hB, hf.drew⟩

set_option maxRecDepth 100000 in
theorem Crash_any (w : World) (h : Hdl) (D : DSt) (R : Nat → Prop) (H : DevAt w h D R) (ho : D.ops < 4611686018427387904) (vp : Value) (picks : List Int) (hvp : Elems w vp (picks.map IntK)) (hpk : ∀ p ∈ picks, okI p)
    (hpl : picks.length ≤ 9223372036854775807) :
    Calls Try.prog 34 #[.pointer (some ⟨h.b, 0, none⟩), vp] w fun e w' => ∃ v, e = .returned v ∧ Made w (D.crash picks) R v w' := by
  obtain ⟨a, cap, rfl, hcells⟩ := hvp
  rw [List.length_map]
  obtain ⟨left, hb, _, _⟩ := H.blk
  obtain ⟨c0, c1, c2, c3, _, _, _, _⟩ := devObj_cells h _ _ _ _ hb
  have HB := Lib.hid hb
  have HCELLS := Lib.hid hcells
  have HC := Lib.hid (made_any w D.n H.wf.n1 H.wf.n)
  clear hb hcells
  go_enter Try.func34, Try.ntmps34
  go_wp2_with fail
  refine HC.out.mono ?_
  rintro e w1 ⟨hf1, hs1, h1, rfl, hd1, hm1⟩
  clear HC
  obtain ⟨nf, f, Mf, f1, f2⟩ := H.fl
  obtain ⟨ng, g, Mg, g1, g2⟩ := H.wr
  obtain ⟨nm, m, Mm, m1, m2⟩ := H.mn
  obtain ⟨lt1, hb1, _, _⟩ := hd1.blk
  obtain ⟨_, e1, _, _, _, _, _, _⟩ := devObj_cells h1 _ _ _ _ hb1
  have hbl := lt_of_block HB.out
  have k1 : w1.cell? ⟨h.b, 1, none⟩ = some (.map (some h.fm)) := by rw [← c1]; exact hf1.cell hbl (fun e => e)
  have k3 : w1.cell? ⟨h.b, 3, none⟩ = some (.map (some h.mm)) := by rw [← c3]; exact hf1.cell hbl (fun e => e)
  have HD1 := Lib.hid hd1
  have HB1 := Lib.hid hb1
  have HF1 := Lib.hid hf1
  have HM1 := Lib.hid hm1
  have HMf := Lib.hid Mf
  have HMg := Lib.hid Mg
  have HMm := Lib.hid Mm
  have Hf1 := Lib.hid f1
  have Hf2 := Lib.hid f2
  have Hg1 := Lib.hid g1
  have Hm1 := Lib.hid m1
  have Hm2 := Lib.hid m2
  have HPK := Lib.hid hpk
  have HC0 := Lib.hid (And.intro c1 (And.intro c2 c3))
  have HOPS := Lib.hid ho
  clear hd1 hb1 hf1 hm1 Mf Mg Mm f1 f2 g1 g2 m1 m2 hpk c0 c1 c2 c3 hs1 ho
  have L1 : h1.b ≥ w.heap.size := HM1.out _ h1.Mb
  have L2 : h1.fm ≥ w.heap.size := HM1.out _ h1.Mf
  have N1 : h1.b ≠ h.fm := fun e => by have := HMf.out.lt; omega
  go_wp2_with fail
  obtain ⟨nf1, f0, Mf1, f01, f02⟩ := HD1.out.fl
  have hf0 : ∀ a, okI a → f0 a = none := fun a ha => by
    cases hx : f0 a with
    | none => rfl
    | some v => obtain ⟨_, _, c⟩ := f02 a v ha hx; obtain ⟨_, _, _, _, _, _, _, _, hno⟩ := c; exact hno.elim
  have hmf1 : MapAt IntK okI w1 h.fm nf f := HMf.out.frm HF1.out (fun e => e)
  have KA : Hid (∀ y, Agree w1 y → y.cell? ⟨h1.b, 1, none⟩ = some (.map (some h1.fm)) ∧ y.cell? ⟨h.b, 1, none⟩ = some (.map (some h.fm))) := Lib.hid fun y hy =>
    ⟨by rw [← e1]; exact hy.cell (lt_of_block HB1.out), by rw [← k1]; exact hy.cell (Nat.lt_of_lt_of_le hbl HF1.out.size)⟩
  have KC : Hid (∀ y, Frm (Only h1.fm) w1 y → y.cell? ⟨h1.b, 1, none⟩ = some (.map (some h1.fm)) ∧ y.cell? ⟨h.b, 1, none⟩ = some (.map (some h.fm))) := Lib.hid fun y hy =>
    ⟨by rw [← e1]; exact hy.cell (lt_of_block HB1.out) (fun e => HD1.out.apart.1 e), by rw [← k1]; exact hy.cell (Nat.lt_of_lt_of_le hbl HF1.out.size) (fun e => by have e' : h.b = h1.fm := e; omega)⟩
  have HCP := Lib.hid (fun W (hW : Agree w1 W) => mapsCopy_any W h1.fm h.fm nf1 nf f0 f (Mf1.of_block (hW _ Mf1.lt)) (hmf1.of_block (hW _ hmf1.lt)) (fun e => by have := HMf.out.lt; omega))
  have HMF1 := Lib.hid hmf1
  have HMF0 := Lib.hid Mf1
  clear hmf1 Mf1 f01 f02
  go_region_held3 (fun y => y.cell? ⟨h1.b, 1, none⟩ = some (.map (some h1.fm)) ∧ y.cell? ⟨h.b, 1, none⟩ = some (.map (some h.fm)))
    (first | (refine KA.out _ ?_; intro _ _; rfl) | (refine KC.out _ ?_; assumption))
    (first | (go_at_call 72; refine (HCP.out _ ?_).mono ?_; (intro _ _; rfl); rintro e w2 ⟨rfl, ⟨nf2, Mf2⟩, hf2⟩; have hf2' : Frm (Only h1.fm) w1 w2 := (Frm.refl _ w1).drew.trans hf2 (fun _ _ e => e)))
  have hnmN : nm ≤ D.n := HMm.out.card fun x hx hs => by
    have h0 : 0 ≤ x := by
      rcases Int.lt_or_le x 0 with h | h
      · rw [Hm2.out x hx h] at hs; cases hs
      · exact h
    obtain ⟨y, rfl⟩ := Int.eq_ofNat_of_zero_le h0
    rw [Hm1.out y hx] at hs
    refine ⟨h0, ?_⟩
    have hp : D.pend y ≠ [] := fun e => by rw [if_pos e] at hs; cases hs
    rcases Nat.lt_or_ge y D.n with h | h
    · omega
    · exact absurd (H.wf.far y h) hp
  have hB12 : ∀ v bs, BytesAt w v bs R → BytesAt w2 v bs R := fun v bs hv => by
    have h1' : BytesAt w1 v bs R := hv.of_block fun x c _ hc => HF1.out.block x (hc.lt) (fun e => e)
    exact h1'.frmB hf2' (fun x hx c => by obtain rfl : x = h1.fm := hx; exact HD1.out.noBytes _ h1.Mf c)
  have D1c : DevAt w2 h1 { DSt.new D.n with base := D.base } R := H.copied Hf1.out Hf2.out HD1.out hf2' hB12 Mf2 (fun x hx => by rw [hf0 x hx]; simp)
  have W2 : Frm NoB w w2 := HF1.out.trans hf2' (fun x hx e => by have e' : x = h1.fm := e; omega)
  have j3 : w2.cell? ⟨h.b, 3, none⟩ = some (.map (some h.mm)) := by rw [← HC0.out.2.2]; exact W2.cell hbl (fun e => e)
  have Mm2 : MapAt IntK okI w2 h.mm nm m := HMm.out.frm W2 (fun e => e)
  have HK := Lib.hid (Keys_any h.mm w2)
  have HS := Lib.hid (Sorted_any h.mm nm m w2 Mm2 (by have := H.wf.n; omega))
  have HD1c := Lib.hid D1c
  have HW2 := Lib.hid W2
  have HMm2 := Lib.hid Mm2
  have HB12 := Lib.hid hB12
  have HH := Lib.hid H
  have HMf2 := Lib.hid Mf2
  have HCELL := Lib.hid (And.intro e1 (And.intro k1 k3))
  have Hhf2 := Lib.hid hf2
  have Hhf2' := Lib.hid hf2'
  have Hhf0 := Lib.hid hf0
  have HBL := Lib.hid hbl
  have HL := Lib.hid (And.intro L1 (And.intro L2 N1))
  have HNM := Lib.hid hnmN
  clear hB12 D1c W2 Mm2 H Mf2 e1 k1 k3 hf2 hf2' hf0 hbl L1 L2 N1 hnmN
  have hdl : D.dirty.length ≤ 65536 := by
    have h1 := List.length_filter_le (fun j => !(D.pend j).isEmpty) (List.range D.n)
    rw [List.length_range] at h1
    have := HH.out.wf.n
    unfold DSt.dirty
    omega
  go_wp2_with (first
    | (go_at_call 74; refine HK.out.mono ?_; rintro e w2k ⟨rfl, rfl⟩)
    | (go_at_call 73; refine HS.out.mono ?_; rintro e w3 ⟨vk, ks, rfl, hks, hrow, hf3⟩; obtain rfl := DSt.keys_dirty HH.out.wf Hm1.out Hm2.out hks; obtain ⟨ak, capk, rfl, hcapk, hkc⟩ := hrow.cases; rw [List.length_map, List.length_map] at *; have HKC := Lib.hid hkc; have HF3 := Lib.hid hf3; clear hkc hf3 hks hrow))
  clear HK HS
  go_loopw [6, 7, 8, 34] (fun _ _ _ t wr => ∃ i : Nat, i ≤ D.dirty.length ∧ t = .int .i64 i ∧ CrashRel w3 h1 D picks R i wr) (fun _ _ _ t _ => D.dirty.length - (intOf t).toNat)
  case atStart =>
    refine ⟨0, Nat.zero_le _, rfl, D.base, HD1c.out.frm HF3.out (fun _ _ _ e => e), fun a _ => by simp, Frm.refl _ _⟩
  case round =>
    obtain ⟨i, hi, rfl, hrel⟩ := hrel
    by_cases hlt : i < D.dirty.length
    · obtain ⟨k, hk⟩ : ∃ k, D.dirty[i]? = some k := ⟨_, List.getElem?_eq_getElem hlt⟩
      obtain ⟨blk, off, rfl, hblk, hcell, ⟨cc, hcc⟩, hfresh⟩ := HKC.out i (IntK k) (by rw [List.getElem?_map, List.getElem?_map, hk]; rfl)
      have HREL := Lib.hid hrel
      obtain ⟨B, hdr, hB, hfr⟩ := hrel
      have hkn : k < D.n := List.mem_range.1 (List.mem_filter.1 (List.mem_of_getElem? hk)).1
      have OLD : ∀ b, b < w.heap.size → wr.heap[b]? = w.heap[b]? := fun b hb => by
        have q1 := HW2.out.block b hb (fun e => e)
        have q2 := HF3.out.block b (Nat.lt_of_lt_of_le hb HW2.out.size) (fun e => e)
        have q3 := hfr.block b (Nat.lt_of_lt_of_le (Nat.lt_of_lt_of_le hb HW2.out.size) HF3.out.size) (fun e => by have e' : b = h1.fm := e; have := HL.out.2.1; omega)
        rw [q3, q2, q1]
      have hbl := HBL.out
      have d2 : wr.cell? ⟨h.b, 2, none⟩ = some (.map (some h.wm)) := by rw [← HC0.out.2.1]; exact World.cell?_of_block (w := w) (OLD _ hbl)
      have d3 : wr.cell? ⟨h.b, 3, none⟩ = some (.map (some h.mm)) := by rw [← HC0.out.2.2]; exact World.cell?_of_block (w := w) (OLD _ hbl)
      obtain ⟨lr, hbr, _, _⟩ := hdr.blk
      obtain ⟨_, d1, _, _, _, _, _, _⟩ := devObj_cells h1 _ _ _ _ hbr
      have hkc : wr.cell? ⟨blk, off + i, none⟩ = some (.int .i64 k) := by
        rw [← hcell]
        exact hfr.cell hblk (fun e => by have e' : blk = h1.fm := e; have := HMf2.out.lt; have : w2.heap.size ≤ blk := hfresh; omega)
      have hi0 : (0 : Int) ≤ (i : Int) := Int.natCast_nonneg _
      have hi1 : (i : Int) < (D.dirty.length : Int) := by omega
      have HK' := Lib.hid hk
      have HHB := Lib.hid hB
      have HFR := Lib.hid hfr
      have HDR := Lib.hid hdr
      have HBR := Lib.hid hbr
      have HOLD := Lib.hid OLD
      clear hk hB hfr hdr hbr OLD hcell hcc hfresh hblk
      by_cases hip : i < picks.length
      · obtain ⟨pv, hpv⟩ : ∃ pv, picks[i]? = some pv := ⟨_, List.getElem?_eq_getElem hip⟩
        obtain ⟨pb, po, rfl, hpb, hpc⟩ := HCELLS.out i (IntK pv) (by rw [List.getElem?_map, hpv]; rfl)
        have hpc' : wr.cell? ⟨pb, po + i, none⟩ = some (.int .i64 pv) := by
          rw [← hpc]; exact World.cell?_of_block (w := w) (HOLD.out _ hpb)
        have hokk : okI (k : Int) := HH.out.okn (by omega) (by omega)
        have hlk := HMm.out.lookup kindInt Try.underlying96 hokk zeroInt
        have hmk := Hm1.out k hokk
        have hdk : D.pend k ≠ [] := by
          have := (List.mem_filter.1 (List.mem_of_getElem? HK'.out)).2
          simpa using this
        rw [if_neg hdk] at hmk
        have hfew := HH.out.wf.few k
        have hpo : D.ops < 4611686018427387904 := HOPS.out
        obtain ⟨ln, hln⟩ : ∃ ln, ln = (D.pend k).length := ⟨_, rfl⟩
        rw [← hln] at hmk hfew
        rw [hmk] at hlk
        obtain ⟨r, hr⟩ : ∃ r, r = pv % ((ln : Int) + 1) := ⟨_, rfl⟩
        have hr0 : 0 ≤ r := by rw [hr]; exact Int.emod_nonneg _ (by omega)
        have hr1 : r ≤ ln := by have := Int.emod_lt_of_pos pv (by omega : (0 : Int) < (ln : Int) + 1); omega
        have hpick : D.pick picks k = r.toNat := by rw [D.pick_eq picks HK'.out, hr, hln, List.getD_eq_getElem?_getD, hpv]; rfl
        have HMOD : Hid (∀ W, Calls Try.prog 75 #[.int .i64 pv, .int .i64 ((ln : Int) + 1)] W fun e w' => W = w' ∧ e = .returned (.int .i64 r)) := Lib.hid fun W => by
          rw [hr]; exact modulo_any W pv ((ln : Int) + 1) (HPK.out pv (List.mem_of_getElem? hpv)) (by omega) (by omega)
        have KA : Hid (∀ y, Agree wr y → y.cell? ⟨pb, po + i, none⟩ = some (.int .i64 pv) ∧ y.cell? ⟨h.b, 3, none⟩ = some (.map (some h.mm)) ∧ (Instr.lookup 96 (.map (some h.mm)) (.int .i64 k) false).run Try.prog y = .ok (.int .i64 ln) y) := Lib.hid fun y hy => by
          have hsz : w.heap.size ≤ wr.heap.size := Nat.le_trans HW2.out.size (Nat.le_trans HF3.out.size HFR.out.size)
          exact ⟨by rw [← hpc']; exact hy.cell (by omega), by rw [← d3]; exact hy.cell (by omega), hlk y ((hy _ (Nat.lt_of_lt_of_le HMm.out.lt hsz)).trans (HOLD.out _ HMm.out.lt))⟩
        have l3 := (KA.out wr (Agree.refl _)).2.2
        have hpi1 : (i : Int) < (picks.length : Int) := by omega
        have HR := Lib.hid hr
        have HPICK := Lib.hid hpick
        have HLN := Lib.hid hln
        have HFEW := Lib.hid hfew
        have HDK := Lib.hid hdk
        have HOKK := Lib.hid hokk
        have HPO := Lib.hid hpo
        clear hr hpick hln hdk hokk hmk hlk hpv hpc hpb
        by_cases hr2 : r = 0
        · have REL := Lib.hid (HREL.out.skip HK'.out (by rw [HPICK.out, hr2]; rfl))
          have hr3 : ¬ 0 < r := by omega
          have HR2 := Lib.hid hr2
          have hln2 : ln < 4611686018427387904 := Nat.lt_of_le_of_lt HFEW.out HPO.out
          have hln3 : (0 : Int) ≤ (ln : Int) + 1 := by omega
          have hwr : IntKind.i64.wrap ((ln : Int) + 1) = (ln : Int) + 1 := IntWalk.i64_in _ (by omega)
          clear hr2
          go_wp2_with fail
          go_region_held3 (fun y => y.cell? ⟨pb, po + i, none⟩ = some (.int .i64 pv) ∧ y.cell? ⟨h.b, 3, none⟩ = some (.map (some h.mm)) ∧ (Instr.lookup 96 (.map (some h.mm)) (.int .i64 k) false).run Try.prog y = .ok (.int .i64 ln) y)
            (first | (refine KA.out _ ?_; intro _ _; rfl))
            (first | (go_at_call 75; refine (HMOD.out _).mono ?_; rintro e w' ⟨rfl, rfl⟩))
          have REL' := Lib.hid REL.out.drew
          have HI := Lib.hid hlt
          clear hwr hln2 hln3 l3
          go_wp2
          go_roundw
          case rel => first | exact ⟨i + 1, HI.out, by go_num, REL'.out⟩ | ((repeat apply Exists.intro); exact ⟨⟨HI.out, by go_num, REL'.out⟩, rfl⟩)
          case measure => simp [intOf]; omega
        · have hr3 : 0 < r := by omega
          obtain ⟨j, rfl⟩ : ∃ j : Nat, r = (j : Int) + 1 := ⟨r.toNat - 1, by omega⟩
          have hokj : okI ((j : Int) + 1) := by have := HFEW.out; have := HPO.out; rw [okI_iff]; omega
          obtain ⟨vj, hvj, hbj⟩ := Hg1.out k j (by rw [← HLN.out]; omega)
          have hlw := HMg.out.lookup kindPair Try.underlying110 (a := ((k : Int), (j : Int) + 1)) ⟨HOKK.out, hokj⟩ zeroBytes
          rw [hvj] at hlw
          have hsz : w.heap.size ≤ wr.heap.size := Nat.le_trans HW2.out.size (Nat.le_trans HF3.out.size HFR.out.size)
          have hbr : BytesAt wr vj ((D.pend k).getD j []) R := hbj.of_block fun x c _ hc => HOLD.out x (hc.lt)
          obtain ⟨o3, u1, u2⟩ := HDR.out.setBase (k := (k : Int)) (by omega) (by show (k : Int) < (D.n : Int); omega) (HH.out.wf.pend k _ (by
            rw [List.getD_eq_getElem?_getD]
            cases hx : (D.pend k)[j]? with
            | none => rw [List.getElem?_eq_none_iff] at hx; have := HLN.out; omega
            | some b => exact List.mem_of_getElem? hx)) hbr
          have hcb : D.crashBlk picks k = (D.pend k).getD j [] := by
            unfold DSt.crashBlk
            have hp : D.pick picks k = j + 1 := by rw [HPICK.out]; omega
            rw [hp, if_neg (by omega), Nat.add_sub_cancel]
            rw [List.getD_eq_getElem?_getD, List.getD_eq_getElem?_getD, List.getElem?_eq_getElem (by have := HLN.out; omega)]
            rfl
          have KB : Hid (∀ y, Agree wr y → y.cell? ⟨h1.b, 1, none⟩ = some (.map (some h1.fm)) ∧ y.cell? ⟨h.b, 2, none⟩ = some (.map (some h.wm)) ∧
              (Instr.lookup 110 (.map (some h.wm)) (.agg #[.int .i64 k, .int .i64 ((j : Int) + 1)]) false).run Try.prog y = .ok vj y) := Lib.hid fun y hy =>
            ⟨by rw [← d1]; exact hy.cell (lt_of_block HBR.out), by rw [← d2]; exact hy.cell (by omega), hlw y ((hy _ (Nat.lt_of_lt_of_le HMg.out.lt hsz)).trans (HOLD.out _ HMg.out.lt))⟩
          have KC : Hid (∀ y o, Agree wr y → (setBlock y h1.fm o).cell? ⟨h1.b, 1, none⟩ = some (.map (some h1.fm)) ∧ (setBlock y h1.fm o).cell? ⟨h.b, 2, none⟩ = some (.map (some h.wm)) ∧
              (Instr.lookup 110 (.map (some h.wm)) (.agg #[.int .i64 k, .int .i64 ((j : Int) + 1)]) false).run Try.prog (setBlock y h1.fm o) = .ok vj (setBlock y h1.fm o)) := Lib.hid fun y o hy => by
            have hL := HL.out
            have hlt1 := HMg.out.lt
            have e8 : y.heap[h.wm]? = wr.heap[h.wm]? := hy h.wm (by omega)
            have e9 : (setBlock y h1.fm o).heap[h.wm]? = w.heap[h.wm]? := (block_setBlock_other o e8 (by omega)).trans (HOLD.out _ hlt1)
            refine ⟨?_, ?_, hlw _ e9⟩
            · rw [← d1]; exact World.cell?_of_block (w := wr) (block_setBlock_other _ (hy _ (lt_of_block HBR.out)) HDR.out.apart.1)
            · have e7 : y.heap[h.b]? = wr.heap[h.b]? := hy h.b (by omega)
              have hne : h.b ≠ h1.fm := by omega
              have e6 : (setBlock y h1.fm o).heap[h.b]? = wr.heap[h.b]? := block_setBlock_other o e7 hne
              rw [← d2]; exact World.cell?_of_block (w := wr) e6
          have q1 := u1 wr.drew.drew rfl
          have hw4 := u2 wr.drew.drew (fun _ _ => rfl) (Nat.le_refl _)
          have REL : CrashRel w3 h1 D picks R (i + 1) (setBlock wr.drew.drew h1.fm o3) := by
            rw [← hcb] at hw4
            exact CrashRel.step HHB.out HFR.out HK'.out ((Frm.refl (Only h1.fm) wr).drew.drew.setBlock (.inl (Only.self _)) _) hw4
          have HREL' := Lib.hid REL
          have HI := Lib.hid hlt
          have HQ := Lib.hid q1
          have HOKJ := Lib.hid hokj
          have hln2 : ln < 4611686018427387904 := Nat.lt_of_le_of_lt HFEW.out HPO.out
          have hln3 : (0 : Int) ≤ (ln : Int) + 1 := by omega
          have hwr : IntKind.i64.wrap ((ln : Int) + 1) = (ln : Int) + 1 := IntWalk.i64_in _ (by omega)
          clear hr2 hokj hvj hbj hlw hsz hbr u1 u2 hcb q1 hw4 REL
          go_wp2_with fail
          go_region_held3 (fun y => y.cell? ⟨pb, po + i, none⟩ = some (.int .i64 pv) ∧ y.cell? ⟨h.b, 3, none⟩ = some (.map (some h.mm)) ∧ (Instr.lookup 96 (.map (some h.mm)) (.int .i64 k) false).run Try.prog y = .ok (.int .i64 ln) y)
            (first | (refine KA.out _ ?_; intro _ _; rfl))
            (first | (go_at_call 75; refine (HMOD.out _).mono ?_; rintro e w' ⟨rfl, rfl⟩))
          clear hwr hln2 hln3 l3
          go_wp2_with fail
          have q1 := HQ.out
          go_region_held3 (fun y => y.cell? ⟨h1.b, 1, none⟩ = some (.map (some h1.fm)) ∧ y.cell? ⟨h.b, 2, none⟩ = some (.map (some h.wm)) ∧
              (Instr.lookup 110 (.map (some h.wm)) (.agg #[.int .i64 k, .int .i64 ((j : Int) + 1)]) false).run Try.prog y = .ok vj y)
            (first | (refine KB.out _ ?_; intro _ _; rfl) | (refine KC.out _ _ ?_; intro _ _; rfl))
            (first | fail)
          clear q1
          go_wp2
          go_roundw
          case rel => first | exact ⟨i + 1, HI.out, by go_num, HREL'.out⟩ | ((repeat apply Exists.intro); exact ⟨⟨HI.out, by go_num, HREL'.out⟩, rfl⟩)
          case measure => simp [intOf]; omega
      · have hip' : ¬ (i : Int) < (picks.length : Int) := by omega
        have REL := Lib.hid (HREL.out.skip HK'.out (by rw [D.pick_eq picks HK'.out, List.getD_eq_getElem?_getD, List.getElem?_eq_none (by omega)]; simp))
        have HI := Lib.hid hlt
        go_wp2
        go_roundw
        case rel => first | exact ⟨i + 1, HI.out, by go_num, REL.out⟩ | ((repeat apply Exists.intro); exact ⟨⟨HI.out, by go_num, REL.out⟩, rfl⟩)
        case measure => simp [intOf]; omega
    · obtain rfl : i = D.dirty.length := by omega
      obtain ⟨B, hdr, hB, hfr⟩ := hrel
      have FIN : Made w (D.crash picks) R (.pointer (some ⟨h1.b, 0, none⟩)) wr := by
        refine ⟨(HW2.out.trans HF3.out (fun _ _ e => e)).trans hfr (fun x hx e => by have e' : x = h1.fm := e; have := HL.out.2.1; omega), h1, rfl, ?_, HM1.out⟩
        refine hdr.rebased rfl rfl rfl rfl (DSt.crash_wf HH.out.wf picks) (fun a ha => ?_)
        have ha' : a < D.n := ha
        show B a = if (D.pend a).isEmpty then D.base a else D.crashBlk picks a
        rw [hB a ha', List.take_length]
        by_cases hm : a ∈ D.dirty
        · rw [if_pos hm]
          have := (List.mem_filter.1 hm).2
          rw [if_neg (by simpa using this)]
        · rw [if_neg hm]
          by_cases hp : (D.pend a).isEmpty = true
          · rw [if_pos hp]
          · exact absurd (List.mem_filter.2 ⟨List.mem_range.2 ha', by simpa using hp⟩) hm
      have HFIN := Lib.hid FIN
      clear FIN hdr hB hfr hi
      go_wp2
      go_ret
      exact ⟨_, rfl, HFIN.out⟩

theorem Crash_nil (w : World) (vp : Value) :
    Calls Try.prog 34 #[.pointer none, vp] w fun e w' => e = .returned (.pointer (some ⟨w.heap.size, 0, none⟩)) ∧ w' = w.alloc (.cells #[.int .i64 0, .map none, .map none, .map none, .int .i64 0, .bool false, .int .i64 0] 112 (0, 0)) := by
  go_enter Try.func34, Try.ntmps34
  go_wp2
  go_ret
  exact ⟨rfl, rfl⟩
end Go.Proofs.Ytkanfpmmgaipnaa

/-
  The device's Copy.
-/
namespace Go.Proofs.Ytkanfpmmgaipnaa
open Go.ChangeMaps Go.MapKept Go.RowKit

theorem cloneF_any (b : Nat) (es : Array MapEntry) (clock : Nat) (w : World) (hb : w.heap[b]? = some (.map es clock)) :
    Calls Try.prog 76 #[.map (some b)] w fun e w' => e = .returned (.map (some w.heap.size)) ∧ w' = w.alloc (.map es clock) := AnyW.maps_Clone Try.cloneF b es clock w hb
theorem cloneW_any (b : Nat) (es : Array MapEntry) (clock : Nat) (w : World) (hb : w.heap[b]? = some (.map es clock)) :
    Calls Try.prog 77 #[.map (some b)] w fun e w' => e = .returned (.map (some w.heap.size)) ∧ w' = w.alloc (.map es clock) := AnyW.maps_Clone Try.cloneW b es clock w hb
theorem cloneN_any (b : Nat) (es : Array MapEntry) (clock : Nat) (w : World) (hb : w.heap[b]? = some (.map es clock)) :
    Calls Try.prog 78 #[.map (some b)] w fun e w' => e = .returned (.map (some w.heap.size)) ∧ w' = w.alloc (.map es clock) := AnyW.maps_Clone Try.cloneN b es clock w hb

theorem Copy_nil (w : World) :
    Calls Try.prog 40 #[.pointer none] w fun e w' => e = .returned (.pointer (some ⟨w.heap.size, 0, none⟩)) ∧ w' = w.alloc (.cells #[.int .i64 0, .map none, .map none, .map none, .int .i64 0, .bool false, .int .i64 0] 112 (0, 0)) := by
  go_enter Try.func40, Try.ntmps40
  go_wp2
  go_ret
  exact ⟨rfl, rfl⟩

/-- A device of no blocks has none. -/
theorem Blocks_zero (w : World) (b : Nat) (r : List Value) (hb : w.heap[b]? = some (.cells ((Value.int .i64 0 :: r).toArray) 112 (0, 0))) :
    Calls Try.prog 37 #[.pointer (some ⟨b, 0, none⟩)] w fun e w' => w = w' ∧ e = .returned (.int .i64 0) := by
  have c0 : w.cell? ⟨b, 0, none⟩ = some (.int .i64 0) := by rw [cell_of_block hb]; rfl
  clear hb
  go_enter Try.func37, Try.ntmps37
  go_wp2
  go_ret
  exact ⟨rfl, rfl⟩

/-- As in the old world where that has blocks; and no smaller. -/
def AgS (w y : World) : Prop := Agree w y ∧ w.heap.size ≤ y.heap.size
theorem AgS.refl (w : World) : AgS w w := ⟨Agree.refl w, Nat.le_refl _⟩
theorem AgS.drew {w y : World} (h : AgS w y) : AgS w y.drew := h
theorem AgS.alloc {w y : World} (h : AgS w y) (o : Obj) : AgS w (y.alloc o) :=
  ⟨fun b hb => (Below.heap_alloc y o b (Nat.lt_of_lt_of_le hb h.2)).trans (h.1 b hb), by have := h.2; rw [size_alloc]; omega⟩
theorem AgS.setNew {w y : World} (h : AgS w y) (i : Nat) (v : Value) : AgS w (y.setCell ⟨w.heap.size, i, none⟩ v) :=
  ⟨fun b hb => (Below.heap_setCell y _ v b (by show b ≠ w.heap.size; omega)).trans (h.1 b hb), by have := h.2; simp [World.setCell]; omega⟩

set_option maxRecDepth 100000 in
theorem Copy_any (w : World) (h : Hdl) (D : DSt) (R : Nat → Prop) (H : DevAt w h D R) :
    Calls Try.prog 40 #[.pointer (some ⟨h.b, 0, none⟩)] w fun e w' => ∃ v, e = .returned v ∧ Made w D R v w' := by
  obtain ⟨wf, ⟨left, hb, hl, hokl⟩, ⟨nf, f, Mf, f1, f2⟩, ⟨ng, g, Mg, g1, g2⟩, ⟨nm, m, Mm, m1, m2⟩, ap⟩ := H
  obtain ⟨c0, c1, c2, c3, c4, c5, c6, _⟩ := devObj_cells h _ _ _ _ hb
  have hbl := lt_of_block hb
  obtain ⟨ef, kf, bf, rf⟩ := Mf
  obtain ⟨eg, kg, bg, rg⟩ := Mg
  obtain ⟨em, km, bm, rm⟩ := Mm
  have Hf := Lib.hid rf
  have Hg := Lib.hid rg
  have Hm := Lib.hid rm
  have Hbf := Lib.hid bf
  have Hbg := Lib.hid bg
  have Hbm := Lib.hid bm
  have HB := Lib.hid hb
  have HF1 := Lib.hid f1
  have HF2 := Lib.hid f2
  have HG1 := Lib.hid g1
  have HG2 := Lib.hid g2
  have HM1 := Lib.hid m1
  have HM2 := Lib.hid m2
  have HAP := Lib.hid ap
  have HL := Lib.hid hl
  have HBL := Lib.hid hbl
  have HW := Lib.hid wf
  clear rf rg rm bf bg bm hb f1 f2 g1 g2 m1 m2 ap hl wf
  go_enter Try.func40, Try.ntmps40
  go_wp2_with fail
  have KA : Hid (∀ y, AgS w y → y.cell? ⟨h.b, 1, none⟩ = some (.map (some h.fm)) ∧ y.cell? ⟨h.b, 2, none⟩ = some (.map (some h.wm)) ∧ y.cell? ⟨h.b, 3, none⟩ = some (.map (some h.mm))) := Lib.hid fun y hy =>
    ⟨by rw [← c1]; exact hy.1.cell hbl, by rw [← c2]; exact hy.1.cell hbl, by rw [← c3]; exact hy.1.cell hbl⟩
  have HCF : Hid (∀ y, AgS w y → Calls Try.prog 76 #[.map (some h.fm)] y fun e w' => e = .returned (.map (some y.heap.size)) ∧ w' = y.alloc (.map ef kf)) := Lib.hid fun y hy => cloneF_any _ _ _ y ((hy.1 _ (lt_of_block Hbf.out)).trans Hbf.out)
  have HCW : Hid (∀ y, AgS w y → Calls Try.prog 77 #[.map (some h.wm)] y fun e w' => e = .returned (.map (some y.heap.size)) ∧ w' = y.alloc (.map eg kg)) := Lib.hid fun y hy => cloneW_any _ _ _ y ((hy.1 _ (lt_of_block Hbg.out)).trans Hbg.out)
  have HCN : Hid (∀ y, AgS w y → Calls Try.prog 78 #[.map (some h.mm)] y fun e w' => e = .returned (.map (some y.heap.size)) ∧ w' = y.alloc (.map em km)) := Lib.hid fun y hy => cloneN_any _ _ _ y ((hy.1 _ (lt_of_block Hbm.out)).trans Hbm.out)
  go_region_held3 (fun y => y.cell? ⟨h.b, 1, none⟩ = some (.map (some h.fm)) ∧ y.cell? ⟨h.b, 2, none⟩ = some (.map (some h.wm)) ∧ y.cell? ⟨h.b, 3, none⟩ = some (.map (some h.mm)))
    (first | (refine KA.out _ ?_; (repeat (first | exact AgS.refl _ | refine AgS.drew ?_ | refine AgS.alloc ?_ _ | refine AgS.setNew ?_ _ _))))
    (first
      | (go_at_call 76; refine (HCF.out _ ?_).mono ?_; (repeat (first | exact AgS.refl _ | refine AgS.drew ?_ | refine AgS.alloc ?_ _ | refine AgS.setNew ?_ _ _)); rintro e w' ⟨rfl, rfl⟩)
      | (go_at_call 77; refine (HCW.out _ ?_).mono ?_; (repeat (first | exact AgS.refl _ | refine AgS.drew ?_ | refine AgS.alloc ?_ _ | refine AgS.setNew ?_ _ _)); rintro e w' ⟨rfl, rfl⟩)
      | (go_at_call 78; refine (HCN.out _ ?_).mono ?_; (repeat (first | exact AgS.refl _ | refine AgS.drew ?_ | refine AgS.alloc ?_ _ | refine AgS.setNew ?_ _ _)); rintro e w' ⟨rfl, rfl⟩))
  have FIN : Made w D R (.pointer (some ⟨w.heap.size, 0, none⟩)) (((((w.alloc (devObj ⟨w.heap.size, w.heap.size + 1, w.heap.size + 1 + 1, w.heap.size + 1 + 1 + 1⟩ D.n D.ops D.lim.isSome left)).alloc (.map ef kf)).alloc (.map eg kg)).alloc (.map em km)).drew) := by
    refine ⟨((((((Frm.refl NoB w).alloc _).alloc _).alloc _).alloc _).drew), ⟨w.heap.size, w.heap.size + 1, w.heap.size + 1 + 1, w.heap.size + 1 + 1 + 1⟩, rfl, ?_, ?_⟩
    · generalize hO : devObj ⟨w.heap.size, w.heap.size + 1, w.heap.size + 1 + 1, w.heap.size + 1 + 1 + 1⟩ D.n D.ops D.lim.isSome left = O
      have hA : AgS w (((((w.alloc O).alloc (.map ef kf)).alloc (.map eg kg)).alloc (.map em km)).drew) := (((((AgS.refl w).alloc _).alloc _).alloc _).alloc _).drew
      have hB : ∀ v bs, BytesAt w v bs R → BytesAt (((((w.alloc O).alloc (.map ef kf)).alloc (.map eg kg)).alloc (.map em km)).drew) v bs R := fun v bs hv => hv.of_block fun x c _ hc => hA.1 x (hc.lt)
      have s1 : (w.alloc O).heap.size = w.heap.size + 1 := by simp
      have s2 : ((w.alloc O).alloc (.map ef kf)).heap.size = w.heap.size + 1 + 1 := by simp
      have s3 : (((w.alloc O).alloc (.map ef kf)).alloc (.map eg kg)).heap.size = w.heap.size + 1 + 1 + 1 := by simp
      have b0 : (((((w.alloc O).alloc (.map ef kf)).alloc (.map eg kg)).alloc (.map em km)).drew).heap[w.heap.size]? = some O :=
        block_alloc_old _ (block_alloc_old _ (block_alloc_old _ (block_alloc_new w O)))
      have b1 : (((((w.alloc O).alloc (.map ef kf)).alloc (.map eg kg)).alloc (.map em km)).drew).heap[w.heap.size + 1]? = some (.map ef kf) :=
        block_alloc_old _ (block_alloc_old _ (s1 ▸ block_alloc_new (w.alloc O) (.map ef kf)))
      have b2 : (((((w.alloc O).alloc (.map ef kf)).alloc (.map eg kg)).alloc (.map em km)).drew).heap[w.heap.size + 1 + 1]? = some (.map eg kg) :=
        block_alloc_old _ (s2 ▸ block_alloc_new ((w.alloc O).alloc (.map ef kf)) (.map eg kg))
      have b3 : (((((w.alloc O).alloc (.map ef kf)).alloc (.map eg kg)).alloc (.map em km)).drew).heap[w.heap.size + 1 + 1 + 1]? = some (.map em km) :=
        s3 ▸ block_alloc_new (((w.alloc O).alloc (.map ef kf)).alloc (.map eg kg)) (.map em km)
      generalize (((((w.alloc O).alloc (.map ef kf)).alloc (.map eg kg)).alloc (.map em km)).drew) = y at *
      subst hO
      refine ⟨HW.out, ⟨left, b0, HL.out, hokl⟩, ⟨nf, f, ⟨ef, kf, b1, Hf.out⟩, HF1.out, fun k v h1 h2 => ?_⟩, ⟨ng, g, ⟨eg, kg, b2, Hg.out⟩, fun k i hi => ?_, HG2.out⟩, ⟨nm, m, ⟨em, km, b3, Hm.out⟩, HM1.out, HM2.out⟩, ?_⟩
      · obtain ⟨a, b, c⟩ := HF2.out k v h1 h2
        exact ⟨a, b, hB _ _ c⟩
      · obtain ⟨v, hv, c⟩ := HG1.out k i hi
        exact ⟨v, hv, hB _ _ c⟩
      · refine ⟨?_, ?_, ?_, ?_, ?_, ?_⟩ <;> simp <;> omega
    · rintro x (rfl | rfl | rfl | rfl) <;> simp <;> omega
  have HFIN := Lib.hid FIN
  clear FIN
  unfold devObj at HFIN
  go_wp2
  go_ret
  exact ⟨_, rfl, HFIN.out⟩
end Go.Proofs.Ytkanfpmmgaipnaa

/-
  bollardalike: Round, Block, Bytes.
-/
namespace Go.Proofs.Ytkanfpmmgaipnaa
open Go.ChangeMaps Go.MapKept Go.RowKit

theorem Round_any (w : World) (p n : Int) (hp : okI p) (hn : 1 ≤ n) (hn' : n ≤ 4611686018427387904) :
    Calls Try.prog 30 #[.int .i64 p, .int .i64 n] w fun e w' => w = w' ∧ e = .returned (.int .i64 (p % n)) := by
  rw [okI_iff] at hp
  obtain ⟨hp1, hp2⟩ := hp
  by_cases h0 : 0 ≤ p
  · have h4 := Int.emod_nonneg p (by omega : n ≠ 0)
    go_enter Try.func30, Try.ntmps30
    go_wp2
    go_ret
    exact ⟨rfl, rfl⟩
  · have h0' : p < 0 := by omega
    have h5 := Int.emod_lt_of_pos p (by omega : 0 < n)
    have h6 := Int.emod_nonneg p (by omega : n ≠ 0)
    rcases tmod_neg p n h0' hn with ⟨h1, h2, h7⟩ | ⟨h1, h2⟩
    · have H2 := Lib.hid h2
      clear h2 h5 h6 h0
      go_enter Try.func30, Try.ntmps30
      go_wp2
      go_ret
      exact ⟨rfl, by rw [← H2.out]; rfl⟩
    · have H1 := Lib.hid h1
      have H2 := Lib.hid h2
      have h7 : ¬ p.tmod n < 0 := by omega
      have h8 : p.tmod n ≤ 0 := by omega
      clear h1 h2 h5 h6 h0
      go_enter Try.func30, Try.ntmps30
      go_wp2
      go_ret
      exact ⟨rfl, by rw [H2.out, ← H1.out]; rfl⟩

/-- A number's lowest byte. -/
def byteOf (c : Int) : UInt8 := UInt8.ofNat (c % 256).toNat

theorem B8_byteOf (c : Int) : B8 (byteOf c) = .int .u8 (c % 256) := by
  unfold B8 byteOf
  have h0 := Int.emod_nonneg c (by omega : (256 : Int) ≠ 0)
  have h1 := Int.emod_lt_of_pos c (by omega : (0 : Int) < 256)
  rw [UInt8.toNat_ofNat']
  congr 1
  omega

/-- A block of one byte. -/
def blockOf (c : Int) : Blk := List.replicate 512 (byteOf c)

theorem blockOf_length (c : Int) : (blockOf c).length = 512 := List.length_replicate

theorem blockOf_zero : blockOf 0 = zeros := rfl

theorem fill_step (v z : Value) (i n : Nat) (hi : i < n) (c : Array Value) (hc : c.toList = List.replicate i v ++ List.replicate (n - i) z) : (c.setIfInBounds i v).toList = List.replicate (i + 1) v ++ List.replicate (n - (i + 1)) z := by
  rw [Array.toList_setIfInBounds, hc, List.set_append_right _ _ (by simp), List.length_replicate, Nat.sub_self]
  have : n - i = (n - (i + 1)) + 1 := by omega
  rw [this, List.replicate_succ, List.set_cons_zero, List.replicate_succ']
  simp

set_option maxRecDepth 100000 in
theorem Block_any (w : World) (c : Int) :
    Calls Try.prog 32 #[.int .i64 c] w fun e w' => e = .returned (.slice (some ⟨w.heap.size, 0, none⟩) 512 512) ∧ w' = w.alloc (bytesObj (blockOf c)) := by
  have hmk := run_make512
  go_enter Try.func32, Try.ntmps32
  go_wp2_with fail
  clear hmk
  go_loopw [4] (fun t wr => ∃ (i : Nat) (cc : Array Value), i ≤ 512 ∧ t = .int .i64 i ∧ wr = w.alloc (.cells cc 5 (0, 0)) ∧ cc.size = 512 ∧ cc.toList = List.replicate i (B8 (byteOf c)) ++ List.replicate (512 - i) (.int .u8 0)) (fun t _ => 512 - (intOf t).toNat)
  case atStart => exact ⟨0, zc, Nat.zero_le _, rfl, rfl, zc_size, by rw [zc_toList]; rfl⟩
  case round =>
    obtain ⟨i, cc, hi, rfl, rfl, hsz, hcc⟩ := hrel
    have HSZ := Lib.hid hsz
    have HCC := Lib.hid hcc
    clear hsz hcc
    by_cases hlt : i < 512
    · have hcell : (w.alloc (.cells cc 5 (0, 0))).cell? ⟨w.heap.size, i, none⟩ = some (cc[i]'(by rw [HSZ.out]; exact hlt)) := by
        rw [cell_of_block (block_alloc_new _ _), Array.getElem?_eq_getElem]
      have hi0 : (0 : Int) ≤ (i : Int) := Int.natCast_nonneg _
      have hi1 : (i : Int) < 512 := by omega
      have hB := B8_byteOf c
      have HB := Lib.hid hB
      clear hB
      have hcell' : ∃ u, (w.alloc (.cells cc 5 (0, 0))).cell? ⟨w.heap.size, i, none⟩ = some u := ⟨_, hcell⟩
      clear hcell
      obtain ⟨u, hcell⟩ := hcell'
      go_wp2
      refine ⟨⟨i + 1, _, by omega, by go_num, rfl, by simp [HSZ.out], ?_⟩, by simp [intOf]; omega⟩
      rw [← B8_byteOf]
      exact fill_step _ _ i 512 hlt cc HCC.out
    · obtain rfl : i = 512 := by omega
      have hcc2 : (Obj.cells cc 5 (0, 0)) = bytesObj (blockOf c) := by
        unfold bytesObj blockOf
        rw [List.map_replicate]
        congr 1
        apply Array.toList_inj.1
        rw [HCC.out]
        simp
      have HC2 := Lib.hid hcc2
      clear hcc2
      go_wp2
      go_ret
      exact ⟨rfl, by rw [HC2.out]⟩

/-- The slice v, which may be nil, holds the bytes bs. -/
def SliceOf (w : World) (v : Value) (bs : List UInt8) : Prop :=
  ∃ a cap, v = .slice a bs.length cap ∧ ∀ i b, bs[i]? = some b → ∃ blk off, a = some ⟨blk, off, none⟩ ∧ blk < w.heap.size ∧ w.cell? ⟨blk, off + i, none⟩ = some (B8 b)

theorem BytesAt.sliceOf {w : World} {v : Value} {bs : List UInt8} {R : Nat → Prop} (h : BytesAt w v bs R) : SliceOf w v bs := by
  obtain ⟨blk, off, cap, c, rfl, h2, h3, h4, h5⟩ := h
  refine ⟨_, cap, rfl, fun i b hb => ⟨blk, off, rfl, h3.lt, ?_⟩⟩
  obtain ⟨h6, h7⟩ := List.getElem?_eq_some_iff.1 hb
  rw [h3.cell, h4 i h6, List.getD_eq_getElem?_getD, hb]
  rfl

theorem SliceOf.nil (w : World) : SliceOf w (.slice none 0 0) [] := ⟨none, 0, rfl, fun i b h => by simp at h⟩

theorem SliceOf.keep {w w' : World} {v : Value} {bs : List UInt8} (h : SliceOf w v bs) (hk : ∀ b, b < w.heap.size → w'.heap[b]? = w.heap[b]?) (hs : w.heap.size ≤ w'.heap.size) : SliceOf w' v bs := by
  obtain ⟨a, cap, rfl, h1⟩ := h
  refine ⟨a, cap, rfl, fun i b hb => ?_⟩
  obtain ⟨blk, off, e, hlt, hc⟩ := h1 i b hb
  exact ⟨blk, off, e, Nat.lt_of_lt_of_le hlt hs, by rw [← hc]; exact World.cell?_of_block (w := w) (hk blk hlt)⟩

theorem SliceOf.frm {w w' : World} {v : Value} {bs : List UInt8} (h : SliceOf w v bs) (hf : Frm NoB w w') : SliceOf w' v bs := h.keep (fun b hb => hf.block b hb (fun e => e)) hf.size

theorem bytesObj_at {w : World} {b : Nat} {bs : List UInt8} (h : w.heap[b]? = some (bytesObj bs)) {n : Nat} (hn : bs.length = n) (cap : Nat) (hc : n ≤ cap) (R : Nat → Prop) (hR : R b) : BytesAt w (.slice (some ⟨b, 0, none⟩) n cap) bs R := by
  subst hn
  refine ⟨b, 0, cap, _, rfl, hc, IsC.of8 h, fun i hi => ?_, hR⟩
  rw [Nat.zero_add, List.getElem?_toArray, List.getElem?_map, List.getElem?_eq_getElem hi, List.getD_eq_getElem?_getD, List.getElem?_eq_getElem hi]
  rfl

theorem drewN2 (w : World) (a b : Nat) : (w.drewN a).drewN b = w.drewN (a + b) := by simp [World.drewN, Nat.add_assoc]

theorem beq_bytes (x y : UInt8) : ((x.toNat : Int) != (y.toNat : Int)) = !(x == y) := by
  rw [bne, Bool.not_inj_iff]
  by_cases h : x = y
  · subst h; simp
  · have h2 : ¬ (x.toNat : Int) = (y.toNat : Int) := fun e => h (UInt8.toNat_inj.1 (by omega))
    rw [beq_eq_false_iff_ne.2 h2, beq_eq_false_iff_ne.2 h]

set_option maxRecDepth 100000 in
theorem Bytes_any (w : World) (u v : Value) (bs cs : List UInt8) (hu : SliceOf w u bs) (hv : SliceOf w v cs) (_hl : bs.length < 4611686018427387904) :
    Calls Try.prog 36 #[u, v] w fun e w' => e = .returned (.bool (bs == cs)) ∧ ∃ n, w' = w.drewN n := by
  obtain ⟨a, ca, rfl, ha⟩ := hu
  obtain ⟨b, cb, rfl, hb⟩ := hv
  by_cases hlen : bs.length = cs.length
  · have hne : ((bs.length : Int) != (cs.length : Int)) = false := by rw [hlen]; simp
    have HA := Lib.hid ha
    have HB := Lib.hid hb
    have HLEN := Lib.hid hlen
    clear ha hb hlen
    go_enter Try.func36, Try.ntmps36
    go_wp2_with fail
    go_loopw [5] (fun t wr => ∃ (i nq : Nat), i ≤ bs.length ∧ t = .int .i64 i ∧ wr = w.drewN nq ∧ bs.take i = cs.take i) (fun t _ => bs.length - (intOf t).toNat)
    case atStart => exact ⟨0, 0, Nat.zero_le _, rfl, rfl, rfl⟩
    case round =>
      obtain ⟨i, nq, hi, rfl, rfl, htk⟩ := hrel
      have HTK := Lib.hid htk
      clear htk
      by_cases hlt : i < bs.length
      · have hlt2 : i < cs.length := by rw [← HLEN.out]; exact hlt
        obtain ⟨x, hx⟩ : ∃ x, bs[i]? = some x := ⟨_, List.getElem?_eq_getElem hlt⟩
        obtain ⟨y, hy⟩ : ∃ y, cs[i]? = some y := ⟨_, List.getElem?_eq_getElem hlt2⟩
        obtain ⟨ba, oa, rfl, _, c1⟩ := HA.out i x hx
        obtain ⟨bb, ob, rfl, _, c2⟩ := HB.out i y hy
        unfold B8 at c1 c2
        have hi0 : (0 : Int) ≤ (i : Int) := Int.natCast_nonneg _
        have hi1 : (i : Int) < (bs.length : Int) := by omega
        have hi2 : (i : Int) < (cs.length : Int) := by omega
        have HX := Lib.hid hx
        have HY := Lib.hid hy
        clear hx hy
        by_cases hxy : x = y
        · have hd : ((x.toNat : Int) != (y.toNat : Int)) = false := by rw [hxy]; simp
          have HXY := Lib.hid hxy
          clear hxy
          have hnext : bs.take (i + 1) = cs.take (i + 1) := by
            rw [List.take_add_one, List.take_add_one, HTK.out, HX.out, HY.out, HXY.out]
          have HN := Lib.hid hnext
          clear hnext
          go_wp2_with fail
          go_quiet (fail)
          go_wp2
          exact ⟨⟨i + 1, _, by omega, by go_num, rfl, HN.out⟩, by simp [intOf]; omega⟩
        · have hd : ((x.toNat : Int) != (y.toNat : Int)) = true := by rw [beq_bytes]; simp [hxy]
          have hfin : (bs == cs) = false := by
            rw [beq_eq_false_iff_ne]
            intro e
            have h1 := HX.out
            rw [e, HY.out] at h1
            exact hxy (Option.some.inj h1).symm
          have HFIN := Lib.hid hfin
          clear hfin hxy
          go_wp2_with fail
          go_quiet (fail)
          go_wp2
          go_ret
          exact ⟨by rw [HFIN.out]; rfl, _, drewN2 _ _ _⟩
      · obtain rfl : i = bs.length := by omega
        have hfin : bs = cs := by
          have h1 := HTK.out
          rw [List.take_length, HLEN.out, List.take_length] at h1
          exact h1
        have HFIN := Lib.hid hfin
        clear hfin
        go_wp2
        go_ret
        exact ⟨by rw [HFIN.out]; simp, _, rfl⟩
  · have hne : ((bs.length : Int) != (cs.length : Int)) = true := by rw [bne_iff_ne]; omega
    have hfin : (bs == cs) = false := by
      rw [beq_eq_false_iff_ne]
      intro e
      exact hlen (by rw [e])
    have HFIN := Lib.hid hfin
    clear hfin hlen ha hb
    go_enter Try.func36, Try.ntmps36
    go_wp2
    go_ret
    exact ⟨by rw [HFIN.out]; rfl, 0, rfl⟩
end Go.Proofs.Ytkanfpmmgaipnaa

/-
  The device's functions for a caller who keeps no bytes of his own.
-/
namespace Go.Proofs.Ytkanfpmmgaipnaa
set_option linter.unusedVariables false
open Go.ChangeMaps Go.MapKept Go.RowKit

def AnyB : Nat → Prop := fun _ => True

/-- The blocks outside a zone. -/
def Off (Z : Nat → Prop) : Nat → Prop := fun x => ¬ Z x

theorem BytesAt.zone {w : World} {v : Value} {bs : List UInt8} {Z Z' : Nat → Prop} (h : BytesAt w v bs (Off Z)) (hz : ∀ x, Z' x → x < w.heap.size → Z x) : BytesAt w v bs (Off Z') :=
  h.mono fun x hx hn hz' => hn (hz x hz' hx)

theorem BytesAt.off {w w' : World} {v : Value} {bs : List UInt8} {Z : Nat → Prop} (h : BytesAt w' v bs (Fresh w)) (hz : ∀ x, Z x → x < w.heap.size) : BytesAt w' v bs (Off Z) :=
  h.mono fun x _ hn hx => by have : w.heap.size ≤ x := hn; have := hz x hx; omega

theorem BytesAt.fresh {a b w : World} {v : Value} {bs : List UInt8} (h : BytesAt w v bs (Fresh b)) (hs : a.heap.size ≤ b.heap.size) : BytesAt w v bs (Fresh a) :=
  h.mono fun _ _ hx => Nat.le_trans hs hx

/-- A device in memory, whose bytes lie outside a zone. -/
def DevIn (Z : Nat → Prop) (w : World) (h : Hdl) (D : DSt) : Prop := DevAt w h D (Off Z)

theorem DevIn.zone {Z Z' : Nat → Prop} {w : World} {h : Hdl} {D : DSt} (H : DevIn Z w h D) (hz : ∀ x, Z' x → x < w.heap.size → Z x) : DevIn Z' w h D := DevAt.mono H fun x hx hn hz' => hn (hz x hz' hx)

/-- Blocks that hold no bytes. -/
def Dry (w : World) (M : Nat → Prop) : Prop := ∀ x, x < w.heap.size → M x → ∀ c, ¬ IsC w x c

theorem Dry.none (w : World) : Dry w NoB := fun _ _ h => h.elim

theorem BytesAt.frmZ {w w' : World} {v : Value} {bs : List UInt8} {R N : Nat → Prop} (h : BytesAt w v bs R) (hf : Frm N w w') (hd : Dry w N) : BytesAt w' v bs R :=
  h.of_block fun x c _ hc => hf.block x hc.lt fun hN => hd x hc.lt hN c hc

theorem BytesAt.any {w : World} {v : Value} {bs : List UInt8} {R : Nat → Prop} (h : BytesAt w v bs R) : BytesAt w v bs AnyB := h.mono fun _ _ _ => trivial

section
variable {Z : Nat → Prop}

/-- Behind a write into the zone. -/
theorem BytesAt.frmOwn {w w' : World} {v : Value} {bs : List UInt8} {N : Nat → Prop} (h : BytesAt w v bs (Off Z)) (hf : Frm N w w') (hN : ∀ x, N x → Z x) : BytesAt w' v bs (Off Z) :=
  h.of_block fun x c hz hc => hf.block x hc.lt fun hx => hz (hN x hx)

theorem DevAt.toIn {w w' : World} {h : Hdl} {D : DSt} (H : DevAt w' h D (grow (Off Z) w w')) (hz : ∀ x, Z x → x < w.heap.size) : DevIn Z w' h D :=
  H.mono fun x _ hx => by
    rcases hx with hx | hx
    · exact hx
    · exact fun hZ => by have := hz x hZ; omega

theorem DevIn.dry {w : World} {h : Hdl} {D : DSt} (H : DevIn Z w h D) : Dry w h.M := fun x _ hx => H.noBytes x hx

theorem DevIn.frm {w w' : World} {h : Hdl} {D : DSt} {M : Nat → Prop} (H : DevIn Z w h D) (hf : Frm M w w') (hd : Dry w M) (ha : ∀ x, M x → ¬ h.M x) : DevIn Z w' h D :=
  DevAt.frm2 H hf (fun x hx hM => ⟨ha x hM, fun _ => hd x hx hM⟩)

theorem DevIn.frmOwn {w w' : World} {h : Hdl} {D : DSt} {N : Nat → Prop} (H : DevIn Z w h D) (hf : Frm N w w') (hN : ∀ x, N x → Z x) (ha : ∀ x, N x → ¬ h.M x) : DevIn Z w' h D :=
  DevAt.frm2 H hf (fun x hx hM => ⟨ha x hM, fun hR => absurd (hN x hM) hR⟩)

theorem DevIn.frm0 {w w' : World} {h : Hdl} {D : DSt} (H : DevIn Z w h D) (hf : Frm NoB w w') : DevIn Z w' h D := H.frm hf (Dry.none w) (fun _ h => h.elim)

theorem Write_in (w : World) (h : Hdl) (D : DSt) (H : DevIn Z w h D) (hz : ∀ x, Z x → x < w.heap.size) (ho : D.ops < 4611686018427387904) (hoff : D.off = false) (k : Int) (v : Value) (bs : Blk) (Rv : Nat → Prop)
    (h0 : 0 ≤ k) (hk : k < D.n) (hbs : bs.length = 512) (hv : BytesAt w v bs Rv) :
    Calls Try.prog 31 #[.pointer (some ⟨h.b, 0, none⟩), .int .i64 k, v] w fun e w' =>
      e = .returned (.int .i64 0) ∧ DevIn Z w' h (D.op.put k.toNat bs) ∧ Frm h.M w w' :=
  (Write_ok w h D (Off Z) H ho hoff k v bs Rv h0 hk hbs hv).mono fun _ _ ⟨a, b, c⟩ => ⟨a, b.toIn hz, c⟩

theorem Flush_in (w : World) (h : Hdl) (D : DSt) (H : DevIn Z w h D) (ho : D.ops < 4611686018427387903) (hoff : D.off = false) :
    Calls Try.prog 33 #[.pointer (some ⟨h.b, 0, none⟩)] w fun e w' =>
      e = .returned (.int .i64 0) ∧ DevIn Z w' h D.op.flushed ∧ Frm h.M w w' := Flush_ok w h D (Off Z) H ho hoff

/-- A device that was made, in new blocks. -/
def MadeIn (Z : Nat → Prop) (w : World) (D : DSt) (v : Value) (w' : World) : Prop :=
  Frm NoB w w' ∧ ∃ h : Hdl, v = .pointer (some ⟨h.b, 0, none⟩) ∧ DevIn Z w' h D ∧ (∀ x, h.M x → w.heap.size ≤ x)

theorem New_in (w : World) (n : Int) (h1 : 1 ≤ n) (h2 : n ≤ 65536) :
    Calls Try.prog 29 #[.int .i64 n] w fun e w' => ∃ v, e = .returned (.tuple #[v, .int .i64 0]) ∧ MadeIn Z w (DSt.new n.toNat) v w' :=
  (New_any w n h1 h2).mono fun _ _ ⟨v, a, b, h, c, d, e⟩ => ⟨v, a, b, h, c, DevAt.mono d (fun _ _ h => h.elim), e⟩

theorem Crash_in (w : World) (h : Hdl) (D : DSt) (H : DevIn Z w h D) (ho : D.ops < 4611686018427387904) (vp : Value) (picks : List Int) (hvp : Elems w vp (picks.map IntK)) (hpk : ∀ p ∈ picks, okI p)
    (hpl : picks.length ≤ 9223372036854775807) :
    Calls Try.prog 34 #[.pointer (some ⟨h.b, 0, none⟩), vp] w fun e w' => ∃ v, e = .returned v ∧ MadeIn Z w (D.crash picks) v w' :=
  Crash_any w h D (Off Z) H ho vp picks hvp hpk hpl

theorem Copy_in (w : World) (h : Hdl) (D : DSt) (H : DevIn Z w h D) :
    Calls Try.prog 40 #[.pointer (some ⟨h.b, 0, none⟩)] w fun e w' => ∃ v, e = .returned v ∧ MadeIn Z w D v w' :=
  Copy_any w h D (Off Z) H

theorem Read_in (w : World) (h : Hdl) (D : DSt) (H : DevIn Z w h D) (k : Int) (h0 : 0 ≤ k) (hk : k < D.n) (ho : D.ops < 4611686018427387904) :
    Calls Try.prog 35 #[.pointer (some ⟨h.b, 0, none⟩), .int .i64 k] w fun e w' => ∃ v, e = .returned (.tuple #[v, .int .i64 0]) ∧ BytesAt w' v (D.last k.toNat) (Fresh w) ∧ Frm NoB w w' :=
  (Read_any w h D (Off Z) H k h0 hk ho).mono fun _ _ ⟨b, a⟩ => ⟨_, a, by rw [b]; exact bytesObj_at (block_alloc_new _ _) (DSt.last_length H.wf _) 512 (Nat.le_refl _) _ (Nat.le_refl _), by rw [b]; exact (Frm.refl _ _).alloc _⟩
end

/-- A block that was made, whole. -/
theorem block_at (w : World) (bs : Blk) (hb : bs.length = 512) : BytesAt (w.alloc (bytesObj bs)) (.slice (some ⟨w.heap.size, 0, none⟩) 512 512) bs (Fresh w) := bytesObj_at (block_alloc_new _ _) hb 512 (Nat.le_refl _) (Fresh w) (Nat.le_refl _)

theorem Block_in (w : World) (c : Int) : Calls Try.prog 32 #[.int .i64 c] w fun e w' => ∃ v, e = .returned v ∧ BytesAt w' v (blockOf c) (Fresh w) ∧ Frm NoB w w' :=
  (Block_any w c).mono fun _ _ ⟨a, b⟩ => ⟨_, a, by rw [b]; exact block_at _ _ (blockOf_length c), by rw [b]; exact (Frm.refl _ _).alloc _⟩

theorem Bytes_in (w : World) (u v : Value) (bs cs : List UInt8) (hu : SliceOf w u bs) (hv : SliceOf w v cs) (hl : bs.length < 4611686018427387904) :
    Calls Try.prog 36 #[u, v] w fun e w' => e = .returned (.bool (bs == cs)) ∧ Frm NoB w w' :=
  (Bytes_any w u v bs cs hu hv hl).mono fun _ _ ⟨a, n, b⟩ => ⟨a, by rw [b]; exact (Frm.refl _ _).drewN n⟩

theorem BytesAt.frm0 {w w' : World} {v : Value} {bs : List UInt8} {R : Nat → Prop} (h : BytesAt w v bs R) (hf : Frm NoB w w') : BytesAt w' v bs R := h.frmB hf (fun _ hx => hx.elim)

/-- A row of one int, made in place. -/
theorem row_one {w : World} {b : Nat} {x : Int} (hb : w.heap[b]? = some (.cells #[.int .i64 x] 3 (0, 0))) : RowAt w 3 (.slice (some ⟨b, 0, none⟩) 1 1) ([x].map IntK) AnyB :=
  .inr ⟨b, 0, 1, _, rfl, Nat.le_refl _, hb, fun i hi => by
    have : i = 0 := by simp at hi; omega
    subst this; rfl, trivial⟩

theorem row_three {w : World} {b : Nat} {x y z : Int} (hb : w.heap[b]? = some (.cells #[.int .i64 x, .int .i64 y, .int .i64 z] 3 (0, 0))) : RowAt w 3 (.slice (some ⟨b, 0, none⟩) 3 3) ([x, y, z].map IntK) AnyB :=
  .inr ⟨b, 0, 3, _, rfl, Nat.le_refl _, hb, fun i hi => by
    rcases (by simp at hi; omega : i = 0 ∨ i = 1 ∨ i = 2) with rfl | rfl | rfl <;> rfl, trivial⟩

theorem row_nil (w : World) : RowAt w 3 (.slice none 0 0) (([] : List Int).map IntK) AnyB := .inl ⟨rfl, rfl⟩
end Go.Proofs.Ytkanfpmmgaipnaa

/-
  What a call holds in memory, object by object: each in blocks of its own, none of which was there when the call began.
-/
namespace Go.Proofs.Ytkanfpmmgaipnaa
set_option linter.unusedVariables false
open Go.ChangeMaps Go.MapKept Go.RowKit

/-- An object: the blocks that it may write, and what holds of it (Z: the zone: byte blocks that somebody else may write). -/
structure Res where
  M : Nat → Prop
  inv : (Nat → Prop) → World → Prop
  lt : ∀ Z w, inv Z w → ∀ x, M x → x < w.heap.size
  dry : ∀ Z w, inv Z w → ∀ x, M x → ∀ c, ¬ IsC w x c
  keep : ∀ Z w w' N, inv Z w → Frm N w w' → Dry w N → (∀ x, M x → ¬ N x) → inv Z w'
  zone : ∀ Z Z' w, inv Z w → (∀ x, Z' x → x < w.heap.size → Z x) → (∀ x, Z x → Z' x) → inv Z' w

/-- The world at a call's beginning, and the zone. -/
structure Gnd where
  w : World
  Z : Nat → Prop

instance : Coe World Gnd := ⟨fun w => ⟨w, NoB⟩⟩

/-- What was there when the call began is as it was; each object holds; none shares a block with another. -/
structure St (w0 : Gnd) (w : World) (rs : List Res) : Prop where
  base : Frm NoB w0.w w
  zin : ∀ x, w0.Z x → x < w.heap.size
  inv : ∀ r ∈ rs, r.inv w0.Z w
  new : ∀ r ∈ rs, ∀ x, r.M x → w0.w.heap.size ≤ x
  apart : rs.Pairwise (fun a b => ∀ x, a.M x → ¬ b.M x)

theorem St.start (w : World) : St w w [] := ⟨Frm.refl _ _, fun _ h => h.elim, fun _ h => (by cases h), fun _ h => (by cases h), List.Pairwise.nil⟩

theorem St.get {w0 : Gnd} {w : World} {rs : List Res} (h : St w0 w rs) {i : Nat} {r : Res} (hr : rs[i]? = some r) : r.inv w0.Z w := h.inv r (List.mem_of_getElem? hr)

theorem St.frm0 {w0 : Gnd} {w w' : World} {rs : List Res} (h : St w0 w rs) (hf : Frm NoB w w') : St w0 w' rs :=
  ⟨h.base.trans hf (fun _ _ e => e), fun x hx => Nat.lt_of_lt_of_le (h.zin x hx) hf.size, fun r hr => r.keep _ w w' NoB (h.inv r hr) hf (Dry.none w) (fun _ _ e => e), h.new, h.apart⟩

theorem St.make {w0 : Gnd} {w w' : World} {rs : List Res} (h : St w0 w rs) (hf : Frm NoB w w') (r : Res) (hi : r.inv w0.Z w') (hn : ∀ x, r.M x → w.heap.size ≤ x) : St w0 w' (r :: rs) := by
  have h1 := h.frm0 hf
  refine ⟨h1.base, h1.zin, fun a ha => ?_, fun a ha => ?_, List.pairwise_cons.2 ⟨fun b hb x hx hbx => ?_, h1.apart⟩⟩
  · rcases List.mem_cons.1 ha with rfl | ha
    · exact hi
    · exact h1.inv a ha
  · rcases List.mem_cons.1 ha with rfl | ha
    · exact fun x hx => Nat.le_trans h.base.size (hn x hx)
    · exact h1.new a ha
  · have := b.lt _ w (h.inv b hb) x hbx
    have := hn x hx
    omega

theorem St.write {w0 : Gnd} {w w' : World} {rs : List Res} (h : St w0 w rs) (i : Nat) {r : Res} (hr : rs[i]? = some r) (hf : Frm r.M w w') (r' : Res) (hi : r'.inv w0.Z w') (hM : ∀ x, r'.M x → r.M x ∨ w.heap.size ≤ x) : St w0 w' (rs.set i r') := by
  have hmem := List.mem_of_getElem? hr
  obtain ⟨hi1, hi2⟩ := List.getElem?_eq_some_iff.1 hr
  have hoth : ∀ (j : Nat) (hj : j < rs.length), j ≠ i → ∀ x, rs[j].M x → ¬ r.M x := fun j hj hne x hx hrx => by
    have hp := List.pairwise_iff_getElem.1 h.apart
    rcases Nat.lt_or_gt_of_ne hne with hlt | hlt
    · exact hp j i hj hi1 hlt x hx (hi2 ▸ hrx)
    · exact hp i j hi1 hj hlt x (hi2 ▸ hrx) hx
  have hbig : ∀ (j : Nat) (hj : j < rs.length) x, rs[j].M x → x < w.heap.size := fun j hj x hx => rs[j].lt _ w (h.inv _ (List.getElem_mem hj)) x hx
  refine ⟨h.base.trans hf (fun x hx hM => by have := h.new r hmem x hM; omega), fun x hx => Nat.lt_of_lt_of_le (h.zin x hx) hf.size, fun a ha => ?_, fun a ha x hx => ?_, ?_⟩
  · obtain ⟨j, hj, rfl⟩ := List.getElem_of_mem ha
    rw [List.length_set] at hj
    rw [List.getElem_set]
    split
    · exact hi
    · rename_i hne
      exact rs[j].keep _ w w' r.M (h.inv _ (List.getElem_mem hj)) hf (fun x _ hx => r.dry _ w (h.inv r hmem) x hx) (hoth j hj (Ne.symm hne))
  · obtain ⟨j, hj, rfl⟩ := List.getElem_of_mem ha
    rw [List.length_set] at hj
    rw [List.getElem_set] at hx
    split at hx
    · rcases hM x hx with h1 | h1
      · exact h.new r hmem x h1
      · exact Nat.le_trans h.base.size h1
    · exact h.new _ (List.getElem_mem hj) x hx
  · rw [List.pairwise_iff_getElem]
    intro j k hj hk hjk x hx hkx
    rw [List.length_set] at hj hk
    rw [List.getElem_set] at hx hkx
    split at hx
    · split at hkx
      · omega
      · rename_i e hne
        rcases hM x hx with h1 | h1
        · exact hoth k hk (Ne.symm hne) x hkx h1
        · have := hbig k hk x hkx; omega
    · rename_i hne
      split at hkx
      · rcases hM x hkx with h1 | h1
        · exact hoth j hj (Ne.symm hne) x hx h1
        · have := hbig j hj x hx; omega
      · exact List.pairwise_iff_getElem.1 h.apart j k hj hk hjk x hx hkx

theorem St.sub {w0 : Gnd} {w : World} {rs rs' : List Res} (h : St w0 w rs) (hs : rs'.Sublist rs) : St w0 w rs' :=
  ⟨h.base, h.zin, fun r hr => h.inv r (hs.subset hr), fun r hr => h.new r (hs.subset hr), h.apart.sublist hs⟩

theorem St.drop {w0 : Gnd} {w : World} {rs : List Res} (h : St w0 w rs) (n : Nat) : St w0 w (rs.drop n) := h.sub (List.drop_sublist n rs)

/-- The objects that stand at some places, in this order (each place once). -/
theorem St.pick {w0 : Gnd} {w : World} {rs : List Res} (h : St w0 w rs) (is : List Nat) (rs' : List Res) (hn : is.Nodup) (hr : is.map (rs[·]?) = rs'.map some) : St w0 w rs' := by
  have hlen : is.length = rs'.length := by have := congrArg List.length hr; simpa using this
  have hget : ∀ (j : Nat) (hj : j < rs'.length), rs[is[j]'(by omega)]? = some rs'[j] := fun j hj => by
    have := congrArg (fun l => l[j]?) hr
    simp only [List.getElem?_map] at this
    rw [List.getElem?_eq_getElem (by omega), List.getElem?_eq_getElem hj] at this
    simpa using this
  have hmem : ∀ r ∈ rs', r ∈ rs := fun r hr => by
    obtain ⟨j, hj, rfl⟩ := List.getElem_of_mem hr
    exact List.mem_of_getElem? (hget j hj)
  refine ⟨h.base, h.zin, fun r hr => h.inv r (hmem r hr), fun r hr => h.new r (hmem r hr), ?_⟩
  rw [List.pairwise_iff_getElem]
  intro j k hj hk hjk x hx hkx
  obtain ⟨a1, a2⟩ := List.getElem?_eq_some_iff.1 (hget j hj)
  obtain ⟨b1, b2⟩ := List.getElem?_eq_some_iff.1 (hget k hk)
  have hne : is[j]'(by omega) ≠ is[k]'(by omega) := List.pairwise_iff_getElem.1 hn j k (by omega) (by omega) hjk
  have hp := List.pairwise_iff_getElem.1 h.apart
  rcases Nat.lt_or_gt_of_ne hne with hlt | hlt
  · exact hp _ _ a1 b1 hlt x (a2 ▸ hx) (b2 ▸ hkx)
  · exact hp _ _ b1 a1 hlt x (b2 ▸ hkx) (a2 ▸ hx)

/-! ### The device and bytes as objects -/

def dev (h : Hdl) (D : DSt) : Res where
  M := h.M
  inv := fun Z w => DevIn Z w h D
  lt := fun Z w H x hx => by
    obtain ⟨_, ⟨left, hb, _⟩, ⟨nf, f, Mf, _⟩, ⟨ng, g, Mg, _⟩, ⟨nm, m, Mm, _⟩, _⟩ := H
    rcases hx with rfl | rfl | rfl | rfl
    · exact lt_of_block hb
    · exact Mf.lt
    · exact Mg.lt
    · exact Mm.lt
  dry := fun Z w H x hx => H.noBytes x hx
  keep := fun Z w w' N H hf hd ha => H.frm hf hd (fun x hn hx => ha x hx hn)
  zone := fun Z Z' w H hz _ => H.zone hz

def byt (v : Value) (bs : List UInt8) : Res where
  M := NoB
  inv := fun Z w => BytesAt w v bs AnyB
  lt := fun _ _ _ _ h => h.elim
  dry := fun _ _ _ _ h => h.elim
  keep := fun Z w w' N H hf hd _ => H.frmZ hf hd
  zone := fun _ _ _ H _ _ => H

/-- Bytes to be read. -/
theorem St.mkByt {w0 : Gnd} {w w' : World} {rs : List Res} (h : St w0 w rs) (hf : Frm NoB w w') {v : Value} {bs : List UInt8} {R : Nat → Prop} (hb : BytesAt w' v bs R) : St w0 w' (byt v bs :: rs) :=
  h.make hf (byt v bs) hb.any (fun _ h => h.elim)

/-- A block of cells that are no bytes. -/
def arr (b : Nat) (c : Array Value) (t : TypeId) (ht : ¬ U8T t) : Res where
  M := Only b
  inv := fun Z w => w.heap[b]? = some (.cells c t (0, 0))
  lt := fun Z w H x hx => by obtain rfl : x = b := hx; exact lt_of_block H
  dry := fun Z w H x hx c' e => by
    obtain rfl : x = b := hx
    exact notC_cells H ht _ e
  keep := fun Z w w' N H hf _ ha => (hf.block b (lt_of_block H) (ha b rfl)).trans H
  zone := fun Z Z' w H _ _ => H

theorem St.newArr {w0 : Gnd} {w : World} {rs : List Res} (h : St w0 w rs) (c : Array Value) (t : TypeId) (ht : ¬ U8T t) : St w0 (w.alloc (.cells c t (0, 0))) (arr w.heap.size c t ht :: rs) :=
  h.make ((Frm.refl _ _).alloc _) (arr w.heap.size c t ht) (block_alloc_new _ _) (fun x hx => by obtain rfl : x = w.heap.size := hx; exact Nat.le_refl _)

theorem St.setArr {w0 : Gnd} {w : World} {rs : List Res} (h : St w0 w rs) (i : Nat) {b : Nat} {c : Array Value} {t : TypeId} {ht : ¬ U8T t} (hr : rs[i]? = some (arr b c t ht)) (j : Nat) (v : Value) :
    St w0 (w.setCell ⟨b, j, none⟩ v) (rs.set i (arr b (c.setIfInBounds j v) t ht)) :=
  h.write i hr ((Frm.refl (Only b) w).setOnly v) (arr b _ t ht) (block_setCell_same v (h.get hr)) (fun _ hx => .inl hx)

theorem St.arrCell {w0 : Gnd} {w : World} {rs : List Res} (h : St w0 w rs) {i : Nat} {b : Nat} {c : Array Value} {t : TypeId} {ht : ¬ U8T t} (hr : rs[i]? = some (arr b c t ht)) (j : Nat) : w.cell? ⟨b, j, none⟩ = c[j]? :=
  cell_of_block (h.get hr)

theorem St.arrFree {w0 : Gnd} {w : World} {rs : List Res} (h : St w0 w rs) {i : Nat} {b : Nat} {c : Array Value} {t : TypeId} {ht : ¬ U8T t} (hr : rs[i]? = some (arr b c t ht)) (j : Nat) : w.frozen? ⟨b, j, none⟩ = false :=
  frozen_of_block (h.get hr)

/-- A block of cells, the first m of which are slices of bytes. -/
def bArr (b : Nat) (c : Array Value) (t : TypeId) (ht : ¬ U8T t) (m : Nat) (bs : Nat → Blk) : Res where
  M := Only b
  inv := fun Z w => w.heap[b]? = some (.cells c t (0, 0)) ∧ ∀ j, j < m → ∃ v, c[j]? = some v ∧ BytesAt w v (bs j) AnyB
  lt := fun Z w H x hx => by obtain rfl : x = b := hx; exact lt_of_block H.1
  dry := fun Z w H x hx c' e => by
    obtain rfl : x = b := hx
    exact notC_cells H.1 ht _ e
  keep := fun Z w w' N H hf hd ha => ⟨(hf.block b (lt_of_block H.1) (ha b rfl)).trans H.1, fun j hj => by
    obtain ⟨v, hv, hb⟩ := H.2 j hj
    exact ⟨v, hv, hb.frmZ hf hd⟩⟩
  zone := fun _ _ _ H _ _ => H

theorem St.newBArr {w0 : Gnd} {w : World} {rs : List Res} (h : St w0 w rs) (c : Array Value) (t : TypeId) (ht : ¬ U8T t) (bs : Nat → Blk) : St w0 (w.alloc (.cells c t (0, 0))) (bArr w.heap.size c t ht 0 bs :: rs) :=
  h.make ((Frm.refl _ _).alloc _) (bArr w.heap.size c t ht 0 bs) ⟨block_alloc_new _ _, fun _ h => by omega⟩ (fun x hx => by obtain rfl : x = w.heap.size := hx; exact Nat.le_refl _)

/-- The next slice of bytes is laid. -/
theorem St.setBArr {w0 : Gnd} {w : World} {rs : List Res} (h : St w0 w rs) (i k : Nat) {b : Nat} {c : Array Value} {t : TypeId} {ht : ¬ U8T t} {m : Nat} {bs : Nat → Blk} (hr : rs[i]? = some (bArr b c t ht m bs)) (hm : m < c.size) {v : Value} {x : Blk}
    (hv : rs[k]? = some (byt v x)) (hx : x = bs m) : St w0 (w.setCell ⟨b, m, none⟩ v) (rs.set i (bArr b (c.setIfInBounds m v) t ht (m + 1) bs)) := by
  have hi := h.get hr
  have hb := h.get hv
  have hf : Frm (Only b) w (w.setCell ⟨b, m, none⟩ v) := (Frm.refl (Only b) w).setOnly v
  have hk : ∀ u y, BytesAt w u y AnyB → BytesAt (w.setCell ⟨b, m, none⟩ v) u y AnyB := fun u y hu => hu.frmB hf (fun z hz c' e => by
    obtain rfl : z = b := hz
    exact notC_cells hi.1 ht _ e)
  refine h.write i hr hf (bArr b _ t ht (m + 1) bs) ⟨block_setCell_same v hi.1, fun j hj => ?_⟩ (fun _ hx => .inl hx)
  by_cases hjm : j = m
  · subst hjm
    exact ⟨v, Array.getElem?_setIfInBounds_self_of_lt hm, hk _ _ (hx ▸ hb)⟩
  · obtain ⟨u, hu, hbu⟩ := hi.2 j (by omega)
    exact ⟨u, by rw [Array.getElem?_setIfInBounds_ne (Ne.symm hjm)]; exact hu, hk _ _ hbu⟩

theorem St.bArrCell {w0 : Gnd} {w : World} {rs : List Res} (h : St w0 w rs) {i : Nat} {b : Nat} {c : Array Value} {t : TypeId} {ht : ¬ U8T t} {m : Nat} {bs : Nat → Blk} (hr : rs[i]? = some (bArr b c t ht m bs)) (j : Nat) : w.cell? ⟨b, j, none⟩ = c[j]? :=
  cell_of_block (h.get hr).1

theorem St.bArrFree {w0 : Gnd} {w : World} {rs : List Res} (h : St w0 w rs) {i : Nat} {b : Nat} {c : Array Value} {t : TypeId} {ht : ¬ U8T t} {m : Nat} {bs : Nat → Blk} (hr : rs[i]? = some (bArr b c t ht m bs)) (j : Nat) : w.frozen? ⟨b, j, none⟩ = false :=
  frozen_of_block (h.get hr).1

/-- One of the slices that were laid, as an object of its own. -/
theorem St.getBArr {w0 : Gnd} {w : World} {rs : List Res} (h : St w0 w rs) {i : Nat} {b : Nat} {c : Array Value} {t : TypeId} {ht : ¬ U8T t} {m : Nat} {bs : Nat → Blk} (hr : rs[i]? = some (bArr b c t ht m bs)) (j : Nat) (hj : j < m) :
    ∃ v, w.cell? ⟨b, j, none⟩ = some v ∧ St w0 w (byt v (bs j) :: rs) := by
  obtain ⟨v, hv, hb⟩ := (h.get hr).2 j hj
  exact ⟨v, (cell_of_block (h.get hr).1).trans hv, h.make (Frm.refl _ _) (byt v _) hb (fun _ h => h.elim)⟩

/-- A slice of ints that came in, as the frames of the statements tell of it. -/
theorem elems_of_row {w : World} {a : Option Addr} {len cap : Nat} {zs : List Int}
    (h : (a = none ∧ len = 0 ∧ cap = 0 ∧ zs = []) ∨ ∃ x, a = some x ∧ len ≤ cap ∧ cap ≤ maxLen ∧ zs.length = cap ∧ (∀ i, i < zs.length → w.cell? (x.add i) = some (.int .i64 (zs.getD i 0))) ∧ ∀ n ∈ zs, (Lit.int .i64 n).wf = true) :
    ∃ l : List Int, Elems w (.slice a len cap) (l.map IntK) ∧ (∀ x ∈ l, okI x) := by
  rcases h with ⟨rfl, rfl, rfl, rfl⟩ | ⟨x, rfl, h1, h2, h3, h4, h5⟩
  · exact ⟨[], ⟨none, 0, rfl, fun i x hx => by simp at hx⟩, fun x hx => by cases hx⟩
  · refine ⟨zs.take len, ⟨some x, cap, by rw [List.length_map, List.length_take, Nat.min_eq_left (by omega)], fun i v hv => ?_⟩, fun y hy => h5 y (List.mem_of_mem_take hy)⟩
    rw [List.getElem?_map] at hv
    have hi : i < len := by
      rcases Nat.lt_or_ge i len with h | h
      · exact h
      · rw [List.getElem?_eq_none (by rw [List.length_take]; omega)] at hv; cases hv
    rw [List.getElem?_take, if_pos hi, List.getElem?_eq_getElem (by omega)] at hv
    have hz : v = IntK (zs[i]'(by omega)) := by simpa using hv.symm
    have h40 := h4 0 (by omega)
    have h4i := h4 i (by omega)
    rw [List.getD_eq_getElem?_getD, List.getElem?_eq_getElem (by omega)] at h4i
    obtain ⟨blk, off, spot⟩ := x
    have hs : spot = none := by
      cases spot with
      | none => rfl
      | some s =>
        simp only [Addr.add, if_pos] at h40
        unfold World.cell? at h40
        split at h40
        · simp at h40
        · cases h40
    subst hs
    have hadd : (⟨blk, off, none⟩ : Addr).add i = ⟨blk, off + i, none⟩ := by
      unfold Addr.add
      split
      · rename_i h0; subst h0; rfl
      · rfl
    rw [hadd] at h4i
    refine ⟨blk, off, rfl, ?_, by rw [hz]; exact h4i⟩
    exact World.block_lt_of_cell? w _ h4i

/-- Behind writes of whole blocks of one byte, to places by numbers, one behind the other. -/
def wrs (n : Int) (g : Nat → Int) : DSt → Nat → List Int → DSt
  | D, _, [] => D
  | D, i, x :: r => wrs n g (D.op.put (x % n).toNat (blockOf (g i))) (i + 1) r

theorem wrs_snoc (n : Int) (g : Nat → Int) : ∀ (l : List Int) (D : DSt) (i : Nat) (x : Int), wrs n g D i (l ++ [x]) = (wrs n g D i l).op.put (x % n).toNat (blockOf (g (i + l.length)))
  | [], D, i, x => rfl
  | y :: r, D, i, x => by
    have := wrs_snoc n g r (D.op.put (y % n).toNat (blockOf (g i))) (i + 1) x
    rw [show i + (y :: r).length = i + 1 + r.length from by simp; omega]
    exact this

theorem wrs_take (n : Int) (g : Nat → Int) (D : DSt) (l : List Int) (i : Nat) (x : Int) (h : l[i]? = some x) : wrs n g D 0 (l.take (i + 1)) = (wrs n g D 0 (l.take i)).op.put (x % n).toNat (blockOf (g i)) := by
  obtain ⟨h1, h2⟩ := List.getElem?_eq_some_iff.1 h
  rw [List.take_succ_eq_append_getElem h1, h2, wrs_snoc, List.length_take, Nat.min_eq_left (by omega), Nat.zero_add]

theorem wrs_n (n : Int) (g : Nat → Int) : ∀ (l : List Int) (D : DSt) (i : Nat), (wrs n g D i l).n = D.n
  | [], _, _ => rfl
  | _ :: r, D, i => (wrs_n n g r _ _).trans rfl

theorem wrs_ops (n : Int) (g : Nat → Int) : ∀ (l : List Int) (D : DSt) (i : Nat), (wrs n g D i l).ops = D.ops + l.length
  | [], _, _ => rfl
  | x :: r, D, i => by
    rw [show wrs n g D i (x :: r) = wrs n g (D.op.put (x % n).toNat (blockOf (g i))) (i + 1) r from rfl, wrs_ops n g r]
    show D.ops + 1 + r.length = _
    simp; omega

theorem wrs_lim (n : Int) (g : Nat → Int) : ∀ (l : List Int) (D : DSt) (i : Nat), D.lim = none → (wrs n g D i l).lim = none
  | [], _, _, h => h
  | x :: r, D, i, h => wrs_lim n g r _ _ (by show D.lim.map (· - 1) = none; rw [h]; rfl)

theorem wrs_base (n : Int) (g : Nat → Int) : ∀ (l : List Int) (D : DSt) (i : Nat), (wrs n g D i l).base = D.base
  | [], _, _ => rfl
  | _ :: r, D, i => (wrs_base n g r _ _).trans rfl

theorem off_of_lim {D : DSt} (h : D.lim = none) : D.off = false := by unfold DSt.off; rw [h]; rfl

theorem last_put_same (D : DSt) (k : Nat) (b : Blk) : (D.put k b).last k = b := by simp [DSt.last, DSt.put]
theorem last_put_other (D : DSt) {k j : Nat} (b : Blk) (h : j ≠ k) : (D.put k b).last j = D.last j := by simp [DSt.last, DSt.put, h]
theorem last_op (D : DSt) : D.op.last = D.last := rfl
theorem last_flushed (D : DSt) (k : Nat) : D.flushed.last k = D.last k := rfl
theorem last_crash (D : DSt) (picks : List Int) (k : Nat) : (D.crash picks).last k = (D.crash picks).base k := rfl
theorem crash_nil (D : DSt) (k : Nat) : (D.crash []).last k = D.base k := by
  show (if (D.pend k).isEmpty then D.base k else D.crashBlk [] k) = D.base k
  have : D.crashBlk [] k = D.base k := by
    unfold DSt.crashBlk DSt.pick
    simp
  rw [this]; split <;> rfl
theorem last_of_clean (D : DSt) (k : Nat) (h : D.pend k = []) : D.last k = D.base k := by unfold DSt.last; rw [h]; rfl
theorem crash_clean (D : DSt) (picks : List Int) (k : Nat) (h : D.pend k = []) : (D.crash picks).last k = D.base k := by
  show (if (D.pend k).isEmpty then D.base k else D.crashBlk picks k) = D.base k
  rw [h]; rfl

section
variable {w0 : Gnd} {w : World} {rs : List Res}

theorem S_New (h : St w0 w rs) (n : Int) (h1 : 1 ≤ n) (h2 : n ≤ 65536) :
    Calls Try.prog 29 #[.int .i64 n] w fun e w' => ∃ H : Hdl, e = .returned (.tuple #[.pointer (some ⟨H.b, 0, none⟩), .int .i64 0]) ∧ St w0 w' (dev H (DSt.new n.toNat) :: rs) :=
  (New_in w n h1 h2).mono fun _ _ ⟨v, a, hf, H, b, hd, hm⟩ => ⟨H, by rw [a, b], h.make hf (dev H _) hd hm⟩

theorem S_Block (h : St w0 w rs) (c : Int) : Calls Try.prog 32 #[.int .i64 c] w fun e w' => ∃ v, e = .returned v ∧ St w0 w' (byt v (blockOf c) :: rs) :=
  (Block_in w c).mono fun _ _ ⟨v, a, hb, hf⟩ => ⟨v, a, h.mkByt hf hb⟩

theorem S_Write (h : St w0 w rs) (i j : Nat) {H : Hdl} {D : DSt} {v : Value} {bs : Blk} (hr : rs[i]? = some (dev H D)) (hv : rs[j]? = some (byt v bs)) (k : Int) (ho : D.ops < 4611686018427387904) (hoff : D.off = false) (h0 : 0 ≤ k) (hk : k < D.n) (hbs : bs.length = 512) :
    Calls Try.prog 31 #[.pointer (some ⟨H.b, 0, none⟩), .int .i64 k, v] w fun e w' => e = .returned (.int .i64 0) ∧ St w0 w' (rs.set i (dev H (D.op.put k.toNat bs))) :=
  (Write_in w H D (h.get hr) h.zin ho hoff k v bs AnyB h0 hk hbs (h.get hv)).mono fun _ _ ⟨a, hd, hf⟩ => ⟨a, h.write i hr hf (dev H _) hd (fun _ h => .inl h)⟩

theorem S_WriteOff (h : St w0 w rs) (i : Nat) {H : Hdl} {D : DSt} (hr : rs[i]? = some (dev H D)) (k : Int) (v : Value) (ho : D.ops < 4611686018427387904) (hoff : D.off = true) :
    Calls Try.prog 31 #[.pointer (some ⟨H.b, 0, none⟩), .int .i64 k, v] w fun e w' => e = .returned (.int .i64 9) ∧ St w0 w' (rs.set i (dev H D.op)) :=
  (Write_off w H D (Off w0.Z) (h.get hr) ho hoff k v).mono fun _ _ ⟨a, hd, hf⟩ => ⟨a, h.write i hr hf (dev H _) hd (fun _ h => .inl h)⟩

theorem S_Flush (h : St w0 w rs) (i : Nat) {H : Hdl} {D : DSt} (hr : rs[i]? = some (dev H D)) (ho : D.ops < 4611686018427387903) (hoff : D.off = false) :
    Calls Try.prog 33 #[.pointer (some ⟨H.b, 0, none⟩)] w fun e w' => e = .returned (.int .i64 0) ∧ St w0 w' (rs.set i (dev H D.op.flushed)) :=
  (Flush_in w H D (h.get hr) ho hoff).mono fun _ _ ⟨a, hd, hf⟩ => ⟨a, h.write i hr hf (dev H _) hd (fun _ h => .inl h)⟩

theorem S_FlushOff (h : St w0 w rs) (i : Nat) {H : Hdl} {D : DSt} (hr : rs[i]? = some (dev H D)) (ho : D.ops < 4611686018427387904) (hoff : D.off = true) :
    Calls Try.prog 33 #[.pointer (some ⟨H.b, 0, none⟩)] w fun e w' => e = .returned (.int .i64 9) ∧ St w0 w' (rs.set i (dev H D.op)) :=
  (Flush_off w H D (Off w0.Z) (h.get hr) ho hoff).mono fun _ _ ⟨a, hd, hf⟩ => ⟨a, h.write i hr hf (dev H _) hd (fun _ h => .inl h)⟩

theorem S_Cut (h : St w0 w rs) (i : Nat) {H : Hdl} {D : DSt} (hr : rs[i]? = some (dev H D)) (n : Int) (hn : okI n) :
    Calls Try.prog 38 #[.pointer (some ⟨H.b, 0, none⟩), .int .i64 n] w fun e w' => e = .returned (.tuple #[]) ∧ St w0 w' (rs.set i (dev H (D.cut n))) :=
  (Cut_any w H D (Off w0.Z) (h.get hr) n hn).mono fun _ _ ⟨a, hd, hf⟩ =>
    ⟨a, h.write i hr (hf.mono (N := H.M) (fun x _ e => by obtain rfl : x = H.b := e; exact H.Mb)) (dev H _) hd (fun _ h => .inl h)⟩

theorem S_Crash (h : St w0 w rs) (i : Nat) {H : Hdl} {D : DSt} (hr : rs[i]? = some (dev H D)) (ho : D.ops < 4611686018427387904) (vp : Value) (picks : List Int) (hvp : Elems w vp (picks.map IntK)) (hpk : ∀ p ∈ picks, okI p)
    (hpl : picks.length ≤ 9223372036854775807) :
    Calls Try.prog 34 #[.pointer (some ⟨H.b, 0, none⟩), vp] w fun e w' => ∃ H' : Hdl, e = .returned (.pointer (some ⟨H'.b, 0, none⟩)) ∧ St w0 w' (dev H' (D.crash picks) :: rs) :=
  (Crash_in w H D (h.get hr) ho vp picks hvp hpk hpl).mono fun _ _ ⟨v, a, hf, H', b, hd, hm⟩ => ⟨H', by rw [a, b], h.make hf (dev H' _) hd hm⟩

theorem S_Copy (h : St w0 w rs) (i : Nat) {H : Hdl} {D : DSt} (hr : rs[i]? = some (dev H D)) :
    Calls Try.prog 40 #[.pointer (some ⟨H.b, 0, none⟩)] w fun e w' => ∃ H' : Hdl, e = .returned (.pointer (some ⟨H'.b, 0, none⟩)) ∧ St w0 w' (dev H' D :: rs) :=
  (Copy_in w H D (h.get hr)).mono fun _ _ ⟨v, a, hf, H', b, hd, hm⟩ => ⟨H', by rw [a, b], h.make hf (dev H' _) hd hm⟩

theorem S_Read (h : St w0 w rs) (i : Nat) {H : Hdl} {D : DSt} (hr : rs[i]? = some (dev H D)) (k : Int) (h0 : 0 ≤ k) (hk : k < D.n) (ho : D.ops < 4611686018427387904) :
    Calls Try.prog 35 #[.pointer (some ⟨H.b, 0, none⟩), .int .i64 k] w fun e w' => ∃ v, e = .returned (.tuple #[v, .int .i64 0]) ∧ St w0 w' (byt v (D.last k.toNat) :: rs) :=
  (Read_in w H D (h.get hr) k h0 hk ho).mono fun _ _ ⟨v, a, hb, hf⟩ => ⟨v, a, h.mkByt hf hb⟩

theorem S_ReadZ (h : St w0 w rs) (i : Nat) {H : Hdl} {D : DSt} (hr : rs[i]? = some (dev H D)) (k : Int) (h0 : 0 ≤ k) (hk : k < D.n) (ho : D.ops < 4611686018427387904) :
    Calls Try.prog 35 #[.pointer (some ⟨H.b, 0, none⟩), .int .i64 k] w fun e w' => ∃ v, e = .returned (.tuple #[v, .int .i64 0]) ∧ St w0 w' (byt v (D.last k.toNat) :: rs) ∧ BytesAt w' v (D.last k.toNat) (Off w0.Z) :=
  (Read_in w H D (h.get hr) k h0 hk ho).mono fun _ _ ⟨v, a, hb, hf⟩ => ⟨v, a, h.mkByt hf hb, hb.off h.zin⟩

theorem S_ReadFar (h : St w0 w rs) (i : Nat) {H : Hdl} {D : DSt} (hr : rs[i]? = some (dev H D)) (k : Int) (hk : k < 0 ∨ (D.n : Int) ≤ k) :
    Calls Try.prog 35 #[.pointer (some ⟨H.b, 0, none⟩), .int .i64 k] w fun e w' => w = w' ∧ e = .returned (.tuple #[.slice none 0 0, .int .i64 1]) := Read_far w H D (Off w0.Z) (h.get hr) k hk

theorem S_Blocks (h : St w0 w rs) (i : Nat) {H : Hdl} {D : DSt} (hr : rs[i]? = some (dev H D)) :
    Calls Try.prog 37 #[.pointer (some ⟨H.b, 0, none⟩)] w fun e w' => w = w' ∧ e = .returned (.int .i64 D.n) := Blocks_any w H D (Off w0.Z) (h.get hr)

theorem S_Ops (h : St w0 w rs) (i : Nat) {H : Hdl} {D : DSt} (hr : rs[i]? = some (dev H D)) :
    Calls Try.prog 39 #[.pointer (some ⟨H.b, 0, none⟩)] w fun e w' => w = w' ∧ e = .returned (.int .i64 D.ops) := Ops_any w H D (Off w0.Z) (h.get hr)

theorem S_Bytes (h : St w0 w rs) (i j : Nat) {u v : Value} {bs cs : List UInt8} (hu : rs[i]? = some (byt u bs)) (hv : rs[j]? = some (byt v cs)) (hl : bs.length < 4611686018427387904) :
    Calls Try.prog 36 #[u, v] w fun e w' => e = .returned (.bool (bs == cs)) ∧ St w0 w' rs :=
  (Bytes_in w u v bs cs (h.get hu).sliceOf (h.get hv).sliceOf hl).mono fun _ _ ⟨a, hf⟩ => ⟨a, h.frm0 hf⟩
end
end Go.Proofs.Ytkanfpmmgaipnaa

/-
  bollardlaw3.awake.
-/
namespace Go.Proofs.Ytkanfpmmgaipnaa
set_option linter.unusedVariables false
open Go.ChangeMaps Go.MapKept Go.RowKit

set_option maxRecDepth 100000 in
theorem awake3_any {w0 : Gnd} {w : World} {rs : List Res} (h : St w0 w rs) : Calls Try.prog 28 #[] w fun e w' => e = .returned (.bool true) ∧ St w0 w' rs := by
  have H0 := Lib.hid h
  clear h
  go_enter Try.func28, Try.ntmps28
  go_wp2_with fail
  refine (S_New H0.out 2 (by omega) (by omega)).mono ?_
  rintro e w1 ⟨d, rfl, h⟩
  have H1 := Lib.hid h
  clear h H0
  go_wp2_with fail
  refine (S_Block H1.out 1).mono ?_
  rintro e w2 ⟨v1, rfl, h⟩
  have H2 := Lib.hid h
  clear h H1
  go_wp2_with fail
  refine (S_Write H2.out 1 0 rfl rfl 0 (by decide) rfl (by omega) (by decide) (blockOf_length 1)).mono ?_
  rintro e w3 ⟨rfl, h⟩
  have H3 := Lib.hid h
  clear h H2
  go_wp2_with fail
  refine (S_Flush H3.out 1 rfl (by decide) rfl).mono ?_
  rintro e w4 ⟨rfl, h⟩
  have H4 := Lib.hid h
  clear h H3
  go_wp2_with fail
  refine (S_Block H4.out 2).mono ?_
  rintro e w5 ⟨v2, rfl, h⟩
  have H5 := Lib.hid h
  clear h H4
  go_wp2_with fail
  refine (S_Write H5.out 2 0 rfl rfl 0 (by decide) rfl (by omega) (by decide) (blockOf_length 2)).mono ?_
  rintro e w6 ⟨rfl, h⟩
  have H6 := Lib.hid h
  clear h H5
  go_wp2_with fail
  have h := H6.out.frm0 ((Frm.refl NoB w6).alloc (.cells #[.int .i64 0] 3 (0, 0)))
  refine (S_Crash h 2 rfl (by decide) _ [0] (row_one (block_alloc_new _ _)).elems (by intro p hp; simp at hp; subst hp; exact (okI_iff 0).2 (by omega)) (by decide)).mono ?_
  rintro e w7 ⟨d2, rfl, h⟩
  have H7 := Lib.hid h
  clear h H6
  go_wp2_with fail
  refine (S_Read H7.out 0 rfl 0 (by omega) (by decide) (by decide)).mono ?_
  rintro e w8 ⟨v3, rfl, h⟩
  have H8 := Lib.hid h
  clear h H7
  go_wp2_with fail
  have h := H8.out.frm0 ((Frm.refl NoB w8).alloc (.cells #[.int .i64 1] 3 (0, 0)))
  refine (S_Crash h 4 rfl (by decide) _ [1] (row_one (block_alloc_new _ _)).elems (by intro p hp; simp at hp; subst hp; exact (okI_iff 1).2 (by omega)) (by decide)).mono ?_
  rintro e w9 ⟨d3, rfl, h⟩
  have H9 := Lib.hid h
  clear h H8
  go_wp2_with fail
  refine (S_Read H9.out 0 rfl 0 (by omega) (by decide) (by decide)).mono ?_
  rintro e w10 ⟨v4, rfl, h⟩
  have H10 := Lib.hid h
  clear h H9
  go_wp2_with fail
  refine (S_Block H10.out 1).mono ?_
  rintro e w11 ⟨v5, rfl, h⟩
  have H11 := Lib.hid h
  clear h H10
  go_wp2_with fail
  refine (S_Bytes H11.out 3 0 rfl rfl (by rw [show DSt.last _ _ = blockOf 1 from rfl, blockOf_length]; omega)).mono ?_
  rintro e w12 ⟨rfl, h⟩
  rw [show (DSt.last _ _ == blockOf 1) = true from beq_iff_eq.2 rfl]
  have H12 := Lib.hid h
  clear h H11
  go_wp2_with fail
  refine (S_Block H12.out 2).mono ?_
  rintro e w13 ⟨v6, rfl, h⟩
  have H13 := Lib.hid h
  clear h H12
  go_wp2_with fail
  refine (S_Bytes H13.out 2 0 rfl rfl (by rw [show DSt.last _ _ = blockOf 2 from rfl, blockOf_length]; omega)).mono ?_
  rintro e w14 ⟨rfl, h⟩
  rw [show (DSt.last _ _ == blockOf 2) = true from beq_iff_eq.2 rfl]
  have H14 := Lib.hid h
  clear h H13
  go_wp2_with fail
  refine (S_Ops H14.out 8 rfl).mono ?_
  rintro e w15 ⟨rfl, rfl⟩
  rw [show DSt.ops _ = 3 from rfl]
  go_wp2
  go_ret
  exact ⟨rfl, H14.out.drop 9⟩
end Go.Proofs.Ytkanfpmmgaipnaa

/-
  An array of slices of ints that grow by append, as an object.
-/
namespace Go.Proofs.Ytkanfpmmgaipnaa
set_option linter.unusedVariables false
open Go.ChangeMaps Go.MapKept Go.RowKit

theorem infoI64 : (Try.prog.info? 3).map (fun i => (i.zero, i.size, i.bytes)) = some (some (.int .i64 0), 1, 8) := by kernel_rfl
theorem neI8 : ¬ U8T (3 : TypeId) := by decide

theorem ownsRow_of_block {w w' : World} {base : Nat} {e : TypeId} {s : Nat} {v : Value} {n : Nat} {xs : List Value} (h : w.ownsRow base e s v n xs) (hb : ∀ g, v.ownBlock = some g → w'.heap[g]? = w.heap[g]?) : w'.ownsRow base e s v n xs := by
  refine ⟨h.1, ?_⟩
  rcases h.2 with hn | ⟨g, cap, cur, rfl, h1, h2, h3⟩
  · exact .inl hn
  · exact .inr ⟨g, cap, cur, rfl, h1, (hb g rfl).trans h2, h3⟩

def grp (b : Nat) (c : Array Value) (t : TypeId) (ht : ¬ U8T t) (f : Nat → List Int) : Res where
  M := fun x => x = b ∨ ∃ (j : Nat) (v : Value), c[j]? = some v ∧ v.ownBlock = some x
  inv := fun Z w => w.heap[b]? = some (.cells c t (0, 0)) ∧ (∀ (j : Nat) (v : Value), c[j]? = some v → w.ownsRow (b + 1) 3 1 v (f j).length ((f j).map IntK)) ∧
    ∀ (j k : Nat) (v u : Value) (x : Nat), c[j]? = some v → c[k]? = some u → v.ownBlock = some x → u.ownBlock = some x → j = k
  lt := fun Z w H x hx => by
    rcases hx with rfl | ⟨j, v, hv, hx⟩
    · exact lt_of_block H.1
    · exact ((H.2.1 j v hv).lt x hx).2
  dry := fun Z w H x hx c' e => by
    rcases hx with rfl | ⟨j, v, hv, hx⟩
    · exact notC_cells H.1 ht _ e
    · rcases (H.2.1 j v hv).2 with ⟨rfl, _⟩ | ⟨g, cap, cur, rfl, _, h2, _⟩
      · cases hx
      · obtain rfl : g = x := by simpa [Value.ownBlock] using hx
        exact notC_cells h2 neI8 _ e
  keep := fun Z w w' N H hf hd ha => ⟨(hf.block b (lt_of_block H.1) (ha b (.inl rfl))).trans H.1,
    fun j v hv => ownsRow_of_block (H.2.1 j v hv) (fun g hg => hf.block g ((H.2.1 j v hv).lt g hg).2 (ha g (.inr ⟨j, v, hv, hg⟩))), H.2.2⟩
  zone := fun Z Z' w H _ _ => H

theorem St.newGrp {w0 : Gnd} {w : World} {rs : List Res} (h : St w0 w rs) (c : Array Value) (t : TypeId) (ht : ¬ U8T t) (hc : ∀ (j : Nat) (v : Value), c[j]? = some v → v = .slice none 0 0) : St w0 (w.alloc (.cells c t (0, 0))) (grp w.heap.size c t ht (fun _ => []) :: rs) :=
  h.make ((Frm.refl _ _).alloc _) (grp w.heap.size c t ht _) ⟨block_alloc_new _ _, fun j v hv => by rw [hc j v hv]; exact World.ownsRow_nil _ _ _ _, fun j k v u x hv hu hx _ => by rw [hc j v hv] at hx; cases hx⟩ (fun x hx => by
    rcases hx with rfl | ⟨j, v, hv, hx⟩
    · exact Nat.le_refl _
    · rw [hc j v hv] at hx; cases hx)

theorem St.grpCell {w0 : Gnd} {w : World} {rs : List Res} (h : St w0 w rs) {i : Nat} {b : Nat} {c : Array Value} {t : TypeId} {ht : ¬ U8T t} {f : Nat → List Int} (hr : rs[i]? = some (grp b c t ht f)) (j : Nat) : w.cell? ⟨b, j, none⟩ = c[j]? :=
  cell_of_block (h.get hr).1

theorem St.grpFree {w0 : Gnd} {w : World} {rs : List Res} (h : St w0 w rs) {i : Nat} {b : Nat} {c : Array Value} {t : TypeId} {ht : ¬ U8T t} {f : Nat → List Int} (hr : rs[i]? = some (grp b c t ht f)) (j : Nat) : w.frozen? ⟨b, j, none⟩ = false :=
  frozen_of_block (h.get hr).1

theorem St.grpOwns {w0 : Gnd} {w : World} {rs : List Res} (h : St w0 w rs) {i : Nat} {b : Nat} {c : Array Value} {t : TypeId} {ht : ¬ U8T t} {f : Nat → List Int} (hr : rs[i]? = some (grp b c t ht f)) {j : Nat} {v : Value} (hv : c[j]? = some v) :
    w.ownsRow (b + 1) 3 1 v (f j).length ((f j).map IntK) := (h.get hr).2.1 j v hv

theorem elems_of_owns {w : World} {base : Nat} {v : Value} {l : List Int} (h : w.ownsRow base 3 1 v l.length (l.map IntK)) : Elems w v (l.map IntK) := by
  rcases h.2 with ⟨rfl, hl⟩ | ⟨g, cap, cur, rfl, _, h2, _, _, _, ht⟩
  · obtain rfl := List.eq_nil_of_length_eq_zero hl
    exact ⟨none, 0, rfl, fun i x hx => by simp at hx⟩
  · refine ⟨some ⟨g, 0, none⟩, cap, by rw [List.length_map], fun i x hx => ⟨g, 0, rfl, lt_of_block h2, ?_⟩⟩
    rw [cell_of_block h2, Nat.zero_add]
    have h3 : (cur.toList.take (l.length * 1))[i]? = some x := by rw [ht]; exact hx
    rw [List.getElem?_take] at h3
    split at h3
    · rw [← Array.getElem?_toList]; exact h3
    · cases h3

theorem Elems.at {w : World} {v : Value} {l : List Int} (h : Elems w v (l.map IntK)) {a : Option Addr} {n cap : Nat} (hv : v = .slice a n cap) {i : Nat} {x : Int} (hx : l[i]? = some x) :
    ∃ blk off, a = some ⟨blk, off, none⟩ ∧ blk < w.heap.size ∧ w.cell? ⟨blk, off + i, none⟩ = some (.int .i64 x) := by
  obtain ⟨a', cap', e, hel⟩ := h
  rw [hv] at e
  injection e with e1 e2 e3
  subst e1
  exact hel i (IntK x) (by rw [List.getElem?_map, hx]; rfl)

/-- Ahead of the store of 'a[k] = append(a[k], x)' the array stands as it stood. -/
theorem St.grpMid {w0 : Gnd} {w : World} {rs : List Res} (h : St w0 w rs) (i : Nat) {b : Nat} {c : Array Value} {t : TypeId} {ht : ¬ U8T t} {f : Nat → List Int} (hr : rs[i]? = some (grp b c t ht f)) {k : Nat} {v : Value} (hv : c[k]? = some v) (o : Obj) {w' : World}
    (hg : (w.alloc o).grownBy w' v.ownBlock) : w'.heap[b]? = some (.cells c t (0, 0)) := by
  have H := h.get hr
  have hb := lt_of_block H.1
  have h1 : (w.alloc o).heap[b]? = w.heap[b]? := ((Frm.refl NoB w).alloc o).block b hb (fun e => e)
  rw [hg.block b (by have := ((Frm.refl NoB w).alloc o).size; omega) (fun e => by have := ((H.2.1 k v hv).lt b e.symm).1; omega), h1]
  exact H.1

/-- Behind 'a[k] = append(a[k], x)'. -/
theorem St.grpAppend {w0 : Gnd} {w : World} {rs : List Res} (h : St w0 w rs) (i : Nat) {b : Nat} {c : Array Value} {t : TypeId} {ht : ¬ U8T t} {f : Nat → List Int} (hr : rs[i]? = some (grp b c t ht f)) {k : Nat} {v : Value} (hv : c[k]? = some v) (o : Obj) {v' : Value} {w' : World} (x : Int)
    (ho : w'.ownsRow (b + 1) 3 1 v' ((f k).length + 1) ((f k).map IntK ++ [IntK x])) (hg : (w.alloc o).grownBy w' v.ownBlock) (hat : v'.ownBlock = v.ownBlock ∨ v'.ownBlock = some (w.alloc o).heap.size) :
    St w0 (w'.setCell ⟨b, k, none⟩ v') (rs.set i (grp b (c.setIfInBounds k v') t ht (fun j => if j = k then f k ++ [x] else f j))) := by
  have H := h.get hr
  have hb := lt_of_block H.1
  have hkc : k < c.size := (Array.getElem?_eq_some_iff.1 hv).1
  have hf1 : Frm (grp b c t ht f).M w w' := ((Frm.refl (grp b c t ht f).M w).alloc o).trans (Frm.ofGrown hg) (fun y _ e => .inr ⟨k, v, hv, e⟩)
  have hf : Frm (grp b c t ht f).M w (w'.setCell ⟨b, k, none⟩ v') := hf1.trans ((Frm.refl (Only b) w').setOnly v') (fun y _ e => .inl e)
  have hset : ∀ y, y < w'.heap.size → y ≠ b → (w'.setCell ⟨b, k, none⟩ v').heap[y]? = w'.heap[y]? := fun y hy hne => ((Frm.refl (Only b) w').setOnly v').block y hy hne
  have hnb : ∀ (j : Nat) (u : Value) (y : Nat), c[j]? = some u → u.ownBlock = some y → b + 1 ≤ y ∧ y < w.heap.size := fun j u y hu hy => (H.2.1 j u hu).lt y hy
  have hbw : w'.heap[b]? = some (.cells c t (0, 0)) := by
    have h1 : (w.alloc o).heap[b]? = w.heap[b]? := ((Frm.refl NoB w).alloc o).block b hb (fun e => e)
    rw [hg.block b (by have := ((Frm.refl NoB w).alloc o).size; omega) (fun e => by have := hnb k v b hv e.symm; omega), h1]
    exact H.1
  have hnew : ∀ y, v'.ownBlock = some y → y ≠ b := fun y hy => by have := (ho.lt y hy).1; omega
  have hget : ∀ (j : Nat) (u : Value), (c.setIfInBounds k v')[j]? = some u → (j = k ∧ u = v') ∨ (j ≠ k ∧ c[j]? = some u) := fun j u hu => by
    by_cases e : j = k
    · subst e
      rw [Array.getElem?_setIfInBounds_self_of_lt hkc] at hu
      exact .inl ⟨rfl, by cases hu; rfl⟩
    · rw [Array.getElem?_setIfInBounds_ne (Ne.symm e)] at hu
      exact .inr ⟨e, hu⟩
  have hwa : w.heap.size ≤ (w.alloc o).heap.size := ((Frm.refl NoB w).alloc o).size
  have hapart : ∀ (j : Nat) (u : Value) (y : Nat), j ≠ k → c[j]? = some u → u.ownBlock = some y → v'.ownBlock ≠ some y := fun j u y hne hu hy e => by
    rcases hat with h1 | h1
    · exact hne (H.2.2 j k u v y hu hv hy (h1 ▸ e))
    · rw [h1] at e
      have := (hnb j u y hu hy).2
      have e' : (w.alloc o).heap.size = y := by injection e
      omega
  refine h.write i hr hf (grp b _ t ht _) ⟨block_setCell_same v' hbw, fun j u hu => ?_, fun j1 j2 u1 u2 y hu1 hu2 hy1 hy2 => ?_⟩ (fun y hy => ?_)
  · rcases hget j u hu with ⟨rfl, rfl⟩ | ⟨hne, hc⟩
    · simp only [if_pos]
      rw [List.length_append, List.length_singleton, List.map_append]
      exact ownsRow_of_block ho (fun g hgb => hset g (ho.lt g hgb).2 (hnew g hgb))
    · simp only [if_neg hne]
      refine ownsRow_of_block (H.2.1 j u hc) (fun g hgb => ?_)
      have h1 := hnb j u g hc hgb
      rw [hset g (by have := hf1.size; omega) (by omega), hg.block g (by omega) (fun e => hne (H.2.2 j k u v g hc hv hgb e.symm))]
      exact ((Frm.refl NoB w).alloc o).block g h1.2 (fun e => e)
  · rcases hget j1 u1 hu1 with ⟨rfl, rfl⟩ | ⟨hne1, hc1⟩
    · rcases hget j2 u2 hu2 with ⟨rfl, rfl⟩ | ⟨hne2, hc2⟩
      · rfl
      · exact absurd hy1 (hapart j2 u2 y hne2 hc2 hy2)
    · rcases hget j2 u2 hu2 with ⟨rfl, rfl⟩ | ⟨hne2, hc2⟩
      · exact absurd hy2 (hapart j1 u1 y hne1 hc1 hy1)
      · exact H.2.2 j1 j2 u1 u2 y hc1 hc2 hy1 hy2
  · rcases hy with rfl | ⟨j, u, hu, hy⟩
    · exact .inl (.inl rfl)
    · rcases hget j u hu with ⟨rfl, rfl⟩ | ⟨hne, hc⟩
      · rcases hat with h1 | h1
        · exact .inl (.inr ⟨j, v, hv, h1 ▸ hy⟩)
        · rw [h1] at hy
          have e' : (w.alloc o).heap.size = y := by injection hy
          exact .inr (by omega)
      · exact .inl (.inr ⟨j, u, hc, hy⟩)
end Go.Proofs.Ytkanfpmmgaipnaa
