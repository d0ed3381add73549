/-
  Keys of a map, sorted; rows of one-cell elements.
-/
import Derived.Test.YtkanfpmmgaipnaaLib1
import Derived.Test.YtkanfpmmgaipnaaDevE
import Derived.Test.YtkanfpmmgaipnaaShelf
namespace Go.Proofs.Ytkanfpmmgaipnaa
open Go.MapKept Go.RowKit Go.Shelf
open Go.WideElems (Fit)

/-- Elements are held as they are. -/
def heldR (v : Value) : Option (DataW Value × List MemPlace) := some (.held v, [])

theorem intKeys_perm {H : Type} (g : MapEntry → Lit × DataW H) (l : List MapEntry) : (intKeys (.map ((l.map g).foldr DataW.insert []))).Perm (l.map fun x => Go.intOf (g x).1) := by
  show (List.map (fun p : Lit × DataW H => Go.intOf p.1) _).Perm _
  have := (WideShapes.sorted_perm (l.map g)).map (fun p : Lit × DataW H => Go.intOf p.1)
  rw [List.map_map] at this
  exact this

theorem MapAt.owns {w : World} {b n : Nat} {f : Int → Option Value} (h : MapAt IntK okI w b n f) (hn : n ≤ maxLen) :
    ∃ D, w.ownsMap Try.prog 3 heldR b n D ∧ Maps.size D = n ∧ (intKeys D).Nodup ∧ (intKeys D).length = n ∧ ∀ a, a ∈ intKeys D ↔ okI a ∧ (f a).isSome = true := by
  obtain ⟨es, clock, hb, hst, hk, rfl, hf⟩ := h
  have hrd : ∀ x ∈ es.toList, ∃ a, okI a ∧ x.key = IntK a ∧ WideElems.rd Try.prog 3 heldR x = some (.int .i64 a, .held x.val) := fun x hx => by
    obtain ⟨a, ha, e⟩ := hk x hx
    refine ⟨a, ha, e, ?_⟩
    unfold WideElems.rd
    rw [e]
    have : keyOf Try.prog 3 (IntK a) = some (.int .i64 a) := Go.Maps.keyOf_int_mk Try.underlying3 ha
    rw [this]
    rfl
  have F : Fit Try.prog 3 heldR es clock := ⟨hn, hst, fun x hx => by obtain ⟨a, _, _, e⟩ := hrd x hx; exact ⟨_, e⟩⟩
  have hlen : ((es.toList.map (WideElems.rg Try.prog 3 heldR)).foldr DataW.insert []).length = es.size := by rw [length_sorted]; simp
  have hperm := intKeys_perm (WideElems.rg Try.prog 3 heldR) es.toList
  have hkey : ∀ x ∈ es.toList, ∀ a, x.key = IntK a → Go.intOf (WideElems.rg Try.prog 3 heldR x).1 = a := fun x hx a e => by
    obtain ⟨a', _, e', hr⟩ := hrd x hx
    rw [WideElems.rg_of hr]
    have : IntK a = IntK a' := e.symm.trans e'
    show a' = a
    exact (Value.int.inj this).2.symm
  refine ⟨_, ⟨es, clock, hb, F, Nat.le_refl _, rfl⟩, ?_, ?_, ?_, fun a => ?_⟩
  · show ((es.toList.map (WideElems.rg Try.prog 3 heldR)).foldr DataW.insert []).length = es.size
    exact hlen
  · refine (hperm.nodup_iff).2 ?_
    rw [List.Nodup, List.pairwise_map]
    have hpw : es.toList.Pairwise (fun x y => x.key ≠ y.key) := ((stamped_iff es clock).1 hst).2.2
    refine List.Pairwise.imp_of_mem ?_ hpw
    intro x y hx hy hne e
    obtain ⟨a, _, ea⟩ := hk x hx
    obtain ⟨b', _, eb⟩ := hk y hy
    rw [hkey x hx a ea, hkey y hy b' eb] at e
    exact hne (by rw [ea, eb, e])
  · rw [hperm.length_eq]; simp
  · rw [hperm.mem_iff, List.mem_map]
    constructor
    · rintro ⟨x, hx, e⟩
      obtain ⟨a', ha', ea⟩ := hk x hx
      rw [hkey x hx a' ea] at e
      subst e
      exact ⟨ha', by rw [(hf a' x.val ha').2 ⟨x, hx, ea, rfl⟩]; rfl⟩
    · rintro ⟨ha, hs⟩
      obtain ⟨v, hv⟩ := Option.isSome_iff_exists.1 hs
      obtain ⟨x, hx, ex, _⟩ := (hf a v ha).1 hv
      exact ⟨x, hx, hkey x hx a ex⟩

/-- The slice v holds the elements xs, of one cell each, of type t, in a block of R. -/
def RowAt (w : World) (t : TypeId) (v : Value) (xs : List Value) (R : Nat → Prop) : Prop :=
  (v = .slice none 0 0 ∧ xs = []) ∨
  ∃ blk off cap c, v = .slice (some ⟨blk, off, none⟩) xs.length cap ∧ xs.length ≤ cap ∧ w.heap[blk]? = some (.cells c t (0, 0)) ∧ (∀ i, i < xs.length → c[off + i]? = xs[i]?) ∧ R blk

theorem RowAt.of_block {w w' : World} {t : TypeId} {v : Value} {xs : List Value} {R : Nat → Prop} (h : RowAt w t v xs R) (hb : ∀ x c, R x → w.heap[x]? = some (.cells c t (0, 0)) → w'.heap[x]? = w.heap[x]?) : RowAt w' t v xs R := by
  rcases h with h | ⟨blk, off, cap, c, h1, h2, h3, h4, h5⟩
  · exact .inl h
  · exact .inr ⟨blk, off, cap, c, h1, h2, (hb blk c h5 h3).trans h3, h4, h5⟩

theorem RowAt.of_owns {w : World} {base : Nat} {t : TypeId} {v : Value} {n : Nat} {xs : List Value} (h : w.ownsRow base t 1 v n xs) : RowAt w t v xs (fun x => base ≤ x) := by
  obtain ⟨hl, h | ⟨g, cap, cur, rfl, hb, hh, hn, _, hsz, ht⟩⟩ := h
  · obtain ⟨rfl, rfl⟩ := h
    exact .inl ⟨rfl, List.eq_nil_of_length_eq_zero (by rw [hl])⟩
  · rw [Nat.mul_one] at hl ht
    subst hl
    refine .inr ⟨g, 0, cap, cur, rfl, hn, hh, fun i hi => ?_, hb⟩
    have h1 : (cur.toList.take xs.length)[i]? = xs[i]? := by rw [ht]
    rw [List.getElem?_take, if_pos hi] at h1
    rw [Nat.zero_add, ← h1, Array.getElem?_toList]

/-- The slice v, which may be nil, has the elements xs, of one cell each. -/
def Elems (w : World) (v : Value) (xs : List Value) : Prop :=
  ∃ a cap, v = .slice a xs.length cap ∧ ∀ i x, xs[i]? = some x → ∃ blk off, a = some ⟨blk, off, none⟩ ∧ blk < w.heap.size ∧ w.cell? ⟨blk, off + i, none⟩ = some x

theorem RowAt.elems {w : World} {t : TypeId} {v : Value} {xs : List Value} {R : Nat → Prop} (h : RowAt w t v xs R) : Elems w v xs := by
  rcases h with ⟨rfl, rfl⟩ | ⟨blk, off, cap, c, h1, h2, h3, h4, h5⟩
  · exact ⟨none, 0, rfl, fun i x hx => by simp at hx⟩
  · refine ⟨_, cap, h1, fun i x hx => ⟨blk, off, rfl, lt_of_block h3, ?_⟩⟩
    rw [cell_of_block h3, h4 i (List.getElem?_eq_some_iff.1 hx).1, hx]

theorem Elems.keep {w w' : World} {v : Value} {xs : List Value} (h : Elems w v xs) (hk : ∀ b, b < w.heap.size → w'.heap[b]? = w.heap[b]?) (hs : w.heap.size ≤ w'.heap.size) : Elems w' v xs := by
  obtain ⟨a, cap, rfl, h1⟩ := h
  refine ⟨a, cap, rfl, fun i b hb => ?_⟩
  obtain ⟨blk, off, e, hlt, hc⟩ := h1 i b hb
  exact ⟨blk, off, e, Nat.lt_of_lt_of_le hlt hs, by rw [← hc]; exact World.cell?_of_block (w := w) (hk blk hlt)⟩

theorem Elems.frm {w w' : World} {v : Value} {xs : List Value} (h : Elems w v xs) (hf : Frm NoB w w') : Elems w' v xs := h.keep (fun b hb => hf.block b hb (fun e => e)) hf.size

/-- The keys of a partial function, sorted. -/
structure SortedKeys (f : Int → Option Value) (n : Nat) (ks : List Int) : Prop where
  sorted : ks.Pairwise (· < ·)
  mem : ∀ a, a ∈ ks ↔ okI a ∧ (f a).isSome = true
  len : ks.length = n

theorem sortedKeys_of {f : Int → Option Value} {n : Nat} {D : DataW Value} {ss : List Int} (hp : ss.Perm (intKeys D)) (hnd : (intKeys D).Nodup) (hlen : (intKeys D).length = n)
    (hm : ∀ a, a ∈ intKeys D ↔ okI a ∧ (f a).isSome = true) : SortedKeys f n (ss.mergeSort (fun x y => decide (x ≤ y))) := by
  have hp2 : (ss.mergeSort (fun x y => decide (x ≤ y))).Perm (intKeys D) := (List.mergeSort_perm ss _).trans hp
  have hs : (ss.mergeSort (fun x y => decide (x ≤ y))).Pairwise (fun x y => decide (x ≤ y) = true) :=
    List.pairwise_mergeSort (fun a b c h1 h2 => by simp at *; omega) (fun a b => by simp; omega) ss
  have hn2 : (ss.mergeSort (fun x y => decide (x ≤ y))).Nodup := (hp2.nodup_iff).2 hnd
  refine ⟨?_, fun a => hp2.mem_iff.trans (hm a), by rw [hp2.length_eq, hlen]⟩
  refine (hs.and hn2).imp ?_
  rintro a b ⟨h1, h2⟩
  simp at h1
  omega

theorem sortsA (m : Nat) : AnyZI.SortsIn Try.prog Try.sortedA_ren Fence.wide m :=
  ⟨fun blk off cap ss W hH hblk hsz => callsIn_wide.2 (AnyM.slices_Sort_int Try.sortA blk off cap ss W hH hblk hsz),
   fun p cap W => callsIn_wide.2 (AnyM.slices_Sort_int_none Try.sortA p cap W)⟩

theorem Keys_any (b : Nat) (w : World) :
    Calls Try.prog 74 #[.map (some b)] w fun e w' => e = .returned (.func (.func 103) #[] #[.pointer (some ⟨w.heap.size, 0, none⟩)]) ∧ w' = w.alloc (.cells #[.map (some b)] 96) :=
  (callsIn_wide (n := 5)).1 (AnyZI.keys_in Try.keysA Fence.wide 5 trivial rfl (some b) w)

theorem Sorted_any (b n : Nat) (f : Int → Option Value) (w : World) (h : MapAt IntK okI w b n f) (hn : n ≤ 1000000000) :
    Calls Try.prog 73 #[.func (.func 103) #[] #[.pointer (some ⟨w.heap.size, 0, none⟩)]] (w.alloc (.cells #[.map (some b)] 96)) fun e w' =>
      ∃ v ks, e = .returned v ∧ SortedKeys f n ks ∧ RowAt w' 3 v (ks.map IntK) (Fresh w) ∧ Frm NoB w w' := by
  obtain ⟨D, hown, hsz, hnd, hlen, hm⟩ := h.owns (by unfold maxLen; omega)
  have hbl := hown.lt
  have hseq : SeqGives Fence.wide 2 Try.prog 103 #[.pointer (some ⟨w.heap.size, 0, none⟩)] encZ (fun ss => ss.Perm (intKeys D)) (Maps.size D) (w.alloc (.cells #[.map (some b)] 96)) :=
    AnyZI.keys_gives (ρ := Try.keysA_ren) { Try.keysA with } Fence.wide _ trivial rfl (by omega) w.heap.size b n D _ (by simp) (by simp) (by
      obtain ⟨es, clock, hb, Ft, hs, hD⟩ := hown
      exact ⟨es, clock, (Below.heap_alloc _ _ b hbl).trans hb, Ft, hs, hD⟩)
  have cS := AnyZI.sorted_in Try.sortedA Fence.wide 5 trivial trivial trivial trivial rfl (by omega) (sortsA _) (enters_of Try.func102 (by kernel_rfl) rfl) 103 #[.pointer (some ⟨w.heap.size, 0, none⟩)] trivial (enters_of Try.func103 (by kernel_rfl) rfl) _ _ (by rw [hsz]; unfold maxLen; omega) (by rw [hsz]; omega) _ hseq
  change CallsIn _ _ Try.prog 73 _ _ _ at cS
  refine ((callsIn_wide (n := 5)).1 cS).mono ?_
  rintro e w' ⟨v, ss, rfl, hS, hrow, hnil, hb⟩
  refine ⟨v, _, rfl, sortedKeys_of hS hnd hlen hm, ?_, ?_⟩
  · rcases RowAt.of_owns hrow with h1 | ⟨blk, off, cap, c, h1, h2, h3, h4, h5⟩
    · exact .inl h1
    · exact .inr ⟨blk, off, cap, c, h1, h2, h3, h4, by simp at h5; unfold Fresh; omega⟩
  · exact ((Frm.refl NoB w).alloc _).trans (Frm.ofBelow hb rfl NoB) (fun _ _ e => e)
end Go.Proofs.Ytkanfpmmgaipnaa
