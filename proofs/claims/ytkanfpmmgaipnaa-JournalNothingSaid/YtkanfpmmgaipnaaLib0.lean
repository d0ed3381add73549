/-
  Plain lemmas of this claim's own: frames of worlds, and maps as partial functions. No program in sight.
-/
import Derived.Maps.Keyed
import Derived.Maps.Own
import Derived.Maps.Range
import Derived.Below
import Derived.WalkKit
import Derived.Deep.Quiet
namespace Go.Proofs.Ytkanfpmmgaipnaa
open Go.ChangeMaps Go.MapKept
open Go.Maps (Keyed)

/-! ### Frames -/

/-- Of the blocks that were there, only those of M may have turned. -/
structure Frm (M : Nat → Prop) (w w' : World) : Prop where
  os : w'.os = w.os
  tape : w'.tape = w.tape
  output : w'.output = w.output
  size : w.heap.size ≤ w'.heap.size
  block : ∀ b, b < w.heap.size → ¬ M b → w'.heap[b]? = w.heap[b]?

theorem Frm.refl (M : Nat → Prop) (w : World) : Frm M w w := ⟨rfl, rfl, rfl, Nat.le_refl _, fun _ _ _ => rfl⟩

theorem Frm.trans {M N : Nat → Prop} {a b c : World} (h : Frm M a b) (k : Frm N b c) (hn : ∀ x, x < a.heap.size → N x → M x) : Frm M a c :=
  ⟨k.os.trans h.os, k.tape.trans h.tape, k.output.trans h.output, Nat.le_trans h.size k.size,
   fun i hi hm => (k.block i (Nat.lt_of_lt_of_le hi h.size) (fun x => hm (hn i hi x))).trans (h.block i hi hm)⟩

theorem Frm.mono {M N : Nat → Prop} {a b : World} (h : Frm M a b) (hn : ∀ x, x < a.heap.size → M x → N x) : Frm N a b :=
  ⟨h.os, h.tape, h.output, h.size, fun i hi hm => h.block i hi (fun x => hm (hn i hi x))⟩

theorem Frm.drew {M : Nat → Prop} {a b : World} (h : Frm M a b) : Frm M a b.drew := ⟨h.os, h.tape, h.output, h.size, h.block⟩

theorem Frm.drewN {M : Nat → Prop} {a b : World} (h : Frm M a b) (n : Nat) : Frm M a (b.drewN n) := ⟨h.os, h.tape, h.output, h.size, h.block⟩

theorem Frm.alloc {M : Nat → Prop} {a b : World} (h : Frm M a b) (o : Obj) : Frm M a (b.alloc o) :=
  h.trans (N := fun _ => False) ⟨rfl, rfl, rfl, by simp, fun k hk _ => Go.RowKit.Below.heap_alloc _ _ _ (by omega)⟩ (fun _ _ h => h.elim)

theorem Frm.setCell {M : Nat → Prop} {a b : World} (h : Frm M a b) {p : Addr} (hp : M p.block ∨ a.heap.size ≤ p.block) (u : Value) : Frm M a (b.setCell p u) :=
  h.trans (N := fun x => x = p.block) ⟨rfl, rfl, rfl, by simp [World.setCell], fun k _ hne => Go.RowKit.Below.heap_setCell _ _ _ _ hne⟩
    (fun x hx e => by subst e; rcases hp with hp | hp; exact hp; omega)

theorem Frm.setBlock {M : Nat → Prop} {a b : World} (h : Frm M a b) {p : Nat} (hp : M p ∨ a.heap.size ≤ p) (o : Obj) : Frm M a (setBlock b p o) :=
  h.trans (N := fun x => x = p) ⟨rfl, rfl, rfl, by simp [ChangeMaps.setBlock], fun k _ hne => by
      simp only [ChangeMaps.setBlock]
      rw [Array.getElem?_setIfInBounds_ne (by omega)]⟩
    (fun x hx e => by subst e; rcases hp with hp | hp; exact hp; omega)

/-- One block alone. -/
def Only (b : Nat) : Nat → Prop := fun x => x = b
theorem Only.self (b : Nat) : Only b b := rfl

theorem Frm.setOnly {b i : Nat} {s : Option Nat} {a c : World} (h : Frm (Only b) a c) (u : Value) : Frm (Only b) a (c.setCell ⟨b, i, s⟩ u) := h.setCell (.inl (Only.self b)) u

theorem Frm.below {M : Nat → Prop} {B : Nat} {w w' : World} (h : Frm M w w') (hB : B ≤ w.heap.size) (hM : ∀ x, x < B → ¬ M x) : Go.RowKit.Below B w w' :=
  ⟨h.os, h.tape, h.output, h.size, fun k hk => h.block k (by omega) (hM k hk)⟩

theorem Frm.ofBelow {B : Nat} {w w' : World} (h : Go.RowKit.Below B w w') (hB : B = w.heap.size) (M : Nat → Prop) : Frm M w w' :=
  ⟨h.os, h.tape, h.output, h.size, fun b hb _ => h.block b (by omega)⟩

theorem Frm.ofGrown {w w' : World} {row : Option Nat} (h : w.grownBy w' row) : Frm (fun x => row = some x) w w' :=
  ⟨h.os, h.tape, h.output, h.size, fun b hb hm => h.block b hb (fun e => hm e.symm)⟩

theorem Frm.cell {M : Nat → Prop} {w w' : World} (h : Frm M w w') {p : Addr} (hp : p.block < w.heap.size) (hm : ¬ M p.block) : w'.cell? p = w.cell? p :=
  World.cell?_of_block (w := w) (h.block p.block hp hm)

theorem Frm.frozen {M : Nat → Prop} {w w' : World} (h : Frm M w w') {p : Addr} (hp : p.block < w.heap.size) (hm : ¬ M p.block) : w'.frozen? p = w.frozen? p :=
  World.frozen?_of_block (w := w) (h.block p.block hp hm)

/-- What a set of blocks has become behind a call: itself, and the new ones. -/
def grow (S : Nat → Prop) (w w' : World) : Nat → Prop := fun x => S x ∨ (w.heap.size ≤ x ∧ x < w'.heap.size)

theorem lt_of_block {w : World} {b : Nat} {o : Obj} (h : w.heap[b]? = some o) : b < w.heap.size := by
  rcases Nat.lt_or_ge b w.heap.size with h' | h'
  · exact h'
  · rw [Array.getElem?_eq_none h'] at h; cases h

/-! ### Blocks -/

theorem block_alloc_old {w : World} {b : Nat} {x : Obj} (o : Obj) (h : w.heap[b]? = some x) : (w.alloc o).heap[b]? = some x :=
  (Go.RowKit.Below.heap_alloc w o b (lt_of_block h)).trans h

theorem block_alloc_new (w : World) (o : Obj) : (w.alloc o).heap[w.heap.size]? = some o := (MapKept.heap_alloc w o).1

theorem block_setCell_other {w : World} {b : Nat} {x : Option Obj} {p : Addr} (u : Value) (h : w.heap[b]? = x) (hne : b ≠ p.block) : (w.setCell p u).heap[b]? = x :=
  (Go.RowKit.Below.heap_setCell w p u b hne).trans h

theorem block_setCell_same {w : World} {b i : Nat} {c : Array Value} {t : TypeId} {f : Nat × Nat} (u : Value) (h : w.heap[b]? = some (.cells c t f)) :
    (w.setCell ⟨b, i, none⟩ u).heap[b]? = some (.cells (c.setIfInBounds i u) t f) := by
  simp [World.setCell, Array.getElem?_modify, h]

theorem block_setBlock_other {w : World} {b p : Nat} {x : Option Obj} (o : Obj) (h : w.heap[b]? = x) (hne : b ≠ p) : (setBlock w p o).heap[b]? = x := by
  simp only [ChangeMaps.setBlock]
  rw [Array.getElem?_setIfInBounds_ne (Ne.symm hne)]; exact h

theorem block_setBlock_same {w : World} {b : Nat} (o : Obj) (h : b < w.heap.size) : (setBlock w b o).heap[b]? = some o := by
  simp only [ChangeMaps.setBlock]
  rw [Array.getElem?_setIfInBounds_self_of_lt h]

theorem cell_of_block {w : World} {b i : Nat} {c : Array Value} {t : TypeId} {f : Nat × Nat} (h : w.heap[b]? = some (.cells c t f)) : w.cell? ⟨b, i, none⟩ = c[i]? := by
  simp [World.cell?, h]

theorem frozen_of_block {w : World} {b i : Nat} {c : Array Value} {t : TypeId} (h : w.heap[b]? = some (.cells c t (0, 0))) : w.frozen? ⟨b, i, none⟩ = false := by
  simp [World.frozen?, h]

/-! ### Maps as partial functions -/

/-- Keys of type k are the values 'mk a'. -/
structure KeyKind (P : Program) (k : TypeId) {α : Type} (mk : α → Value) (ok : α → Prop) : Prop where
  keyed : Keyed P k
  lit : ∀ a, ok a → ∃ l, keyOf P k (mk a) = some l
  inj : ∀ a b, mk a = mk b → a = b

/-- Block b of w is a map of n entries: the partial function f. -/
def MapAt {α : Type} (mk : α → Value) (ok : α → Prop) (w : World) (b n : Nat) (f : α → Option Value) : Prop :=
  ∃ es clock, w.heap[b]? = some (.map es clock) ∧ Stamped es clock ∧ (∀ x ∈ es.toList, ∃ a, ok a ∧ x.key = mk a) ∧ es.size = n ∧
    ∀ a v, ok a → (f a = some v ↔ ∃ x ∈ es.toList, x.key = mk a ∧ x.val = v)

section
variable {α : Type} {mk : α → Value} {ok : α → Prop} {P : Program} {k t e : TypeId} {w : World} {b n : Nat} {f : α → Option Value}

theorem MapAt.lt (h : MapAt mk ok w b n f) : b < w.heap.size := by
  obtain ⟨es, clock, hb, _⟩ := h
  exact lt_of_block hb

theorem MapAt.of_block {w' : World} (h : MapAt mk ok w b n f) (hb : w'.heap[b]? = w.heap[b]?) : MapAt mk ok w' b n f := by
  obtain ⟨es, clock, h1, r⟩ := h
  exact ⟨es, clock, hb.trans h1, r⟩

theorem MapAt.frm {w' : World} {M : Nat → Prop} (h : MapAt mk ok w b n f) (hf : Frm M w w') (hm : ¬ M b) : MapAt mk ok w' b n f :=
  h.of_block (hf.block b h.lt hm)

theorem MapAt.congr {g : α → Option Value} (h : MapAt mk ok w b n f) (hg : ∀ a, ok a → g a = f a) : MapAt mk ok w b n g := by
  obtain ⟨es, clock, h1, h2, h3, h4, h5⟩ := h
  exact ⟨es, clock, h1, h2, h3, h4, fun a v ha => by rw [hg a ha]; exact h5 a v ha⟩

theorem MapAt.made (w : World) : MapAt mk ok (w.alloc (.map #[] 0)) w.heap.size 0 (fun _ => none) :=
  ⟨#[], 0, block_alloc_new _ _, stamped_empty 0, by simp, rfl, by simp⟩

/-- Where a key stands. -/
theorem MapAt.find (K : KeyKind P k mk ok) (h : MapAt mk ok w b n f) {a : α} (ha : ok a) : ∃ es clock, w.heap[b]? = some (.map es clock) ∧ Stamped es clock ∧
    (∀ x ∈ es.toList, ∃ a, ok a ∧ x.key = mk a) ∧ es.size = n ∧ (∀ a v, ok a → (f a = some v ↔ ∃ x ∈ es.toList, x.key = mk a ∧ x.val = v)) ∧
    ((f a = none ∧ (∀ W, (Instr.findKey k (mk a) es.toList).run P W = .ok none W) ∧ ∀ x ∈ es.toList, x.key ≠ mk a) ∨
     ∃ j x, f a = some x.val ∧ (∀ W, (Instr.findKey k (mk a) es.toList).run P W = .ok (some (j, x.val)) W) ∧ es.toList[j]? = some x ∧ x.key = mk a) := by
  obtain ⟨es, clock, h1, h2, h3, h4, h5⟩ := h
  refine ⟨es, clock, h1, h2, h3, h4, h5, ?_⟩
  obtain ⟨l, hl⟩ := K.lit a ha
  have hes : ∀ x ∈ es.toList, ∃ l, keyOf P k x.key = some l := fun x hx => by
    obtain ⟨a', ha', e'⟩ := h3 x hx
    rw [e']; exact K.lit a' ha'
  have hnd : es.toList.Pairwise (fun x y => x.key ≠ y.key) := ((stamped_iff es clock).1 h2).2.2
  by_cases hx : ∃ x ∈ es.toList, x.key = mk a
  · right
    obtain ⟨x, hxm, hxk⟩ := hx
    obtain ⟨j, hj⟩ := List.getElem?_of_mem hxm
    refine ⟨j, x, (h5 a _ ha).2 ⟨x, hxm, hxk, rfl⟩, fun W => ?_, hj, hxk⟩
    rcases K.keyed.find W hl es.toList hes with ⟨_, e2⟩ | ⟨j', x', e1, e2, e3⟩
    · exact absurd hxk (e2 x hxm)
    · have : j' = j := by
        rcases Nat.lt_trichotomy j j' with hlt | heq | hlt
        · exfalso
          have hp := List.pairwise_iff_getElem.1 hnd
          obtain ⟨g1, g2⟩ := List.getElem?_eq_some_iff.1 hj
          obtain ⟨g3, g4⟩ := List.getElem?_eq_some_iff.1 e2
          exact hp j j' g1 g3 hlt (by rw [g2, g4, hxk, e3])
        · exact heq.symm
        · exfalso
          have hp := List.pairwise_iff_getElem.1 hnd
          obtain ⟨g1, g2⟩ := List.getElem?_eq_some_iff.1 hj
          obtain ⟨g3, g4⟩ := List.getElem?_eq_some_iff.1 e2
          exact hp j' j g3 g1 hlt (by rw [g2, g4, hxk, e3])
      subst this
      rw [hj] at e2
      cases e2
      exact e1
  · left
    have hx' : ∀ x ∈ es.toList, x.key ≠ mk a := fun x hxm e' => hx ⟨x, hxm, e'⟩
    refine ⟨?_, fun W => ?_, hx'⟩
    · cases hfa : f a with
      | none => rfl
      | some v =>
        obtain ⟨x, hxm, hxk, _⟩ := (h5 a v ha).1 hfa
        exact absurd hxk (hx' x hxm)
    · rcases K.keyed.find W hl es.toList hes with ⟨e1, _⟩ | ⟨j', x', e1, e2, e3⟩
      · exact e1
      · exact absurd e3 (hx' x' (List.mem_of_getElem? e2))

theorem MapAt.lookup (K : KeyKind P k mk ok) (ht : P.underlying t = some (.map k e)) (h : MapAt mk ok w b n f) {a : α} (ha : ok a) {z : Value} (hz : ∀ W, (zeroValue e).run P W = .ok z W)
    (W : World) (hW : W.heap[b]? = w.heap[b]?) : (Instr.lookup t (.map (some b)) (mk a) false).run P W = .ok ((f a).getD z) W := by
  obtain ⟨es, clock, h1, h2, h3, h4, h5, h6⟩ := h.find K ha
  obtain ⟨l, hl⟩ := K.lit a ha
  rw [h1] at hW
  rcases h6 with ⟨e1, e2, _⟩ | ⟨j, x, e1, e2, _, _⟩
  · rw [e1]
    simp [Instr.lookup, run_underlying ht, MapKept.run_getObj_map hW, K.keyed.check W _ hl, e2, hz, Result.andThen]
  · rw [e1]
    simp [Instr.lookup, run_underlying ht, MapKept.run_getObj_map hW, K.keyed.check W _ hl, e2, Result.andThen]

theorem MapAt.lookup_ok (K : KeyKind P k mk ok) (ht : P.underlying t = some (.map k e)) (h : MapAt mk ok w b n f) {a : α} (ha : ok a) {z : Value} (hz : ∀ W, (zeroValue e).run P W = .ok z W)
    (W : World) (hW : W.heap[b]? = w.heap[b]?) : (Instr.lookup t (.map (some b)) (mk a) true).run P W = .ok (.tuple #[(f a).getD z, .bool (f a).isSome]) W := by
  obtain ⟨es, clock, h1, h2, h3, h4, h5, h6⟩ := h.find K ha
  obtain ⟨l, hl⟩ := K.lit a ha
  rw [h1] at hW
  rcases h6 with ⟨e1, e2, _⟩ | ⟨j, x, e1, e2, _, _⟩
  · rw [e1]
    simp [Instr.lookup, run_underlying ht, MapKept.run_getObj_map hW, K.keyed.check W _ hl, e2, hz, Result.andThen]
  · rw [e1]
    simp [Instr.lookup, run_underlying ht, MapKept.run_getObj_map hW, K.keyed.check W _ hl, e2, Result.andThen]

/-- A partial function, at one place another. -/
def upd [DecidableEq α] (f : α → Option Value) (a : α) (v : Option Value) : α → Option Value := fun x => if x = a then v else f x

theorem MapAt.update [DecidableEq α] (K : KeyKind P k mk ok) (ht : P.underlying t = some (.map k e)) (h : MapAt mk ok w b n f) {a : α} (ha : ok a) (v : Value) :
    ∃ o, (∀ W, W.heap[b]? = w.heap[b]? → (Instr.mapUpdate t (.map (some b)) (mk a) v).run P W = .ok () (setBlock W b o)) ∧
      (∀ W, b < W.heap.size → MapAt mk ok (setBlock W b o) b (if (f a).isSome then n else n + 1) (upd f a (some v))) := by
  obtain ⟨es, clock, h1, h2, h3, h4, h5, h6⟩ := h.find K ha
  obtain ⟨l, hl⟩ := K.lit a ha
  rcases h6 with ⟨e1, e2, e3⟩ | ⟨j, x, e1, e2, e3, e4⟩
  · refine ⟨.map (es.push ⟨mk a, v, clock⟩) (clock + 1), fun W hW => ?_, fun W hb => ?_⟩
    · rw [h1] at hW
      simp [Instr.mapUpdate, run_underlying ht, MapKept.run_getObj_map hW, K.keyed.check W false hl, e2, MapKept.run_setObj_map _ hW, Result.andThen, ChangeMaps.setBlock]
    · refine ⟨_, _, block_setBlock_same _ hb, stamped_push h2 e3, ?_, by simp [e1, h4], ?_⟩
      · intro y hy
        simp only [Array.toList_push, List.mem_append, List.mem_singleton] at hy
        rcases hy with hy | rfl
        · exact h3 y hy
        · exact ⟨a, ha, rfl⟩
      · intro a' v' ha'
        unfold upd
        simp only [Array.toList_push, List.mem_append, List.mem_singleton]
        by_cases hc : a' = a
        · subst hc
          rw [if_pos rfl]
          constructor
          · intro hv; cases hv; exact ⟨_, .inr rfl, rfl, rfl⟩
          · rintro ⟨y, hy | rfl, hy2, hy3⟩
            · exact absurd hy2 (e3 y hy)
            · subst hy3; rfl
        · rw [if_neg hc, h5 a' v' ha']
          constructor
          · rintro ⟨y, hy, r⟩; exact ⟨y, .inl hy, r⟩
          · rintro ⟨y, hy | rfl, hy2, hy3⟩
            · exact ⟨y, hy, hy2, hy3⟩
            · exact absurd (K.inj _ _ hy2).symm hc
  · have hxm : x ∈ es.toList := List.mem_of_getElem? e3
    have hjs : j < es.size := by have := (List.getElem?_eq_some_iff.1 e3).1; simpa using this
    have hget : es[j]? = some x := by simpa using e3
    refine ⟨.map (es.modify j fun y => { y with key := mk a, val := v }) clock, fun W hW => ?_, fun W hb => ?_⟩
    · rw [h1] at hW
      have hst := K.keyed.stays W hl
      simp [Instr.mapUpdate, run_underlying ht, MapKept.run_getObj_map hW, K.keyed.check W false hl, e2, hget, e4, hst, MapKept.run_setObj_map _ hW, Result.andThen, ChangeMaps.setBlock]
    · have hnd : es.toList.Pairwise (fun x y => x.key ≠ y.key) := ((stamped_iff es clock).1 h2).2.2
      have hmem : ∀ y, y ∈ (es.modify j fun y => { y with key := mk a, val := v }).toList ↔ (y ∈ es.toList ∧ y.key ≠ mk a) ∨ y = { x with key := mk a, val := v } := by
        intro y
        rw [List.mem_iff_getElem?, List.mem_iff_getElem?]
        constructor
        · rintro ⟨i, hi⟩
          rw [Array.getElem?_toList, Array.getElem?_modify] at hi
          by_cases hij : j = i
          · subst hij
            rw [if_pos rfl, hget] at hi
            right
            simpa using hi.symm
          · rw [if_neg hij] at hi
            left
            refine ⟨⟨i, by simpa using hi⟩, fun hk => ?_⟩
            have hi' : es.toList[i]? = some y := by simpa using hi
            obtain ⟨g1, g2⟩ := List.getElem?_eq_some_iff.1 hi'
            obtain ⟨g3, g4⟩ := List.getElem?_eq_some_iff.1 e3
            have hp := List.pairwise_iff_getElem.1 hnd
            rcases Nat.lt_or_gt_of_ne hij with hlt | hlt
            · exact hp j i g3 g1 hlt (by rw [g2, g4, hk, e4])
            · exact hp i j g1 g3 hlt (by rw [g2, g4, hk, e4])
        · rintro (⟨⟨i, hi⟩, hk⟩ | rfl)
          · have hij : j ≠ i := fun e' => by
              subst e'
              rw [e3] at hi
              cases hi
              exact hk e4
            exact ⟨i, by rw [Array.getElem?_toList, Array.getElem?_modify, if_neg hij]; simpa using hi⟩
          · exact ⟨j, by rw [Array.getElem?_toList, Array.getElem?_modify, if_pos rfl, hget]; rfl⟩
      refine ⟨_, _, block_setBlock_same _ hb, stamped_modify h2 j _ (fun _ _ => rfl) (fun y _ hy => by rw [hget] at hy; cases hy; exact e4.symm), ?_, by simp [e1, h4], ?_⟩
      · intro y hy
        rcases (hmem y).1 hy with ⟨hy, _⟩ | rfl
        · exact h3 y hy
        · exact ⟨a, ha, rfl⟩
      · intro a' v' ha'
        unfold upd
        by_cases hc : a' = a
        · subst hc
          rw [if_pos rfl]
          constructor
          · intro hv; cases hv; exact ⟨_, (hmem _).2 (.inr rfl), rfl, rfl⟩
          · rintro ⟨y, hy, hy2, hy3⟩
            rcases (hmem y).1 hy with ⟨_, hne⟩ | rfl
            · exact absurd hy2 hne
            · subst hy3; rfl
        · rw [if_neg hc, h5 a' v' ha']
          constructor
          · rintro ⟨y, hy, hy2, hy3⟩
            exact ⟨y, (hmem y).2 (.inl ⟨hy, fun e' => hc (K.inj _ _ (hy2.symm.trans e'))⟩), hy2, hy3⟩
          · rintro ⟨y, hy, hy2, hy3⟩
            rcases (hmem y).1 hy with ⟨hy, _⟩ | rfl
            · exact ⟨y, hy, hy2, hy3⟩
            · exact absurd (K.inj _ _ hy2).symm hc

theorem MapAt.clear (ht : P.underlying t = some (.map k e)) (h : MapAt mk ok w b n f) (ty : TypeId) :
    ∃ o, (∀ W, W.heap[b]? = w.heap[b]? → (Builtin.clear_ #[t] ty #[.map (some b)]).run P W = .ok (.tuple #[]) (setBlock W b o)) ∧
      (∀ W, b < W.heap.size → MapAt mk ok (setBlock W b o) b 0 (fun _ => none)) := by
  obtain ⟨es, clock, h1, h2, h3, h4, h5⟩ := h
  refine ⟨.map #[] clock, fun W hW => ?_, fun W hb => ⟨_, _, block_setBlock_same _ hb, stamped_empty _, by simp, rfl, by simp⟩⟩
  rw [h1] at hW
  simp [Builtin.clear_, run_underlying ht, MapKept.run_getObj_map hW, MapKept.run_setObj_map _ hW, Result.andThen, ChangeMaps.setBlock]

theorem MapAt.len (ht : P.underlying t = some (.map k e)) (h : MapAt mk ok w b n f) (ty : TypeId) (W : World) (hW : W.heap[b]? = w.heap[b]?) :
    (Builtin.len_ #[t] ty #[.map (some b)]).run P W = .ok (goInt n) W := by
  obtain ⟨es, clock, h1, h2, h3, h4, h5⟩ := h
  rw [h1] at hW
  simp [Builtin.len_, run_underlying ht, MapKept.run_getObj_map hW, Result.andThen, h4]
end
end Go.Proofs.Ytkanfpmmgaipnaa
