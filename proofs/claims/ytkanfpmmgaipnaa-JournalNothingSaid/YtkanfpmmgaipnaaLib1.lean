/-
  Ranging over a map that is not written meanwhile.
-/
import Derived.Test.YtkanfpmmgaipnaaLib0
import Derived.Maps.RangeWalk
namespace Go.Proofs.Ytkanfpmmgaipnaa
open Go.ChangeMaps Go.MapKept
open Go.Maps (Keyed)

section
variable {α : Type} {mk : α → Value} {ok : α → Prop} {P : Program} {k t e : TypeId} {w : World} {b r n cnt : Nat} {f : α → Option Value} {left : α → Prop}

/-- Block r of w ranges over the map in block b, of which the keys 'left' (cnt of them) are to come. -/
def RangeAt {α : Type} (mk : α → Value) (ok : α → Prop) (w : World) (b r n : Nat) (f : α → Option Value) (left : α → Prop) (cnt : Nat) : Prop :=
  ∃ es clock seen, w.heap[b]? = some (.map es clock) ∧ Stamped es clock ∧ (∀ x ∈ es.toList, ∃ a, ok a ∧ x.key = mk a) ∧ es.size = n ∧
    (∀ a v, ok a → (f a = some v ↔ ∃ x ∈ es.toList, x.key = mk a ∧ x.val = v)) ∧
    w.heap[r]? = some (.mapIter (some b) clock seen clock) ∧ (leftOf es seen).size = cnt ∧
    (∀ a, ok a → (left a ↔ ∃ x ∈ es.toList, x.key = mk a ∧ seen.contains x.born = false))

theorem RangeAt.map (h : RangeAt mk ok w b r n f left cnt) : MapAt mk ok w b n f := by
  obtain ⟨es, clock, seen, h1, h2, h3, h4, h5, _⟩ := h
  exact ⟨es, clock, h1, h2, h3, h4, h5⟩

theorem RangeAt.lt (h : RangeAt mk ok w b r n f left cnt) : r < w.heap.size := by
  obtain ⟨es, clock, seen, h1, h2, h3, h4, h5, h6, _⟩ := h
  exact lt_of_block h6

theorem RangeAt.of_blocks {w' : World} (h : RangeAt mk ok w b r n f left cnt) (hb : w'.heap[b]? = w.heap[b]?) (hr : w'.heap[r]? = w.heap[r]?) : RangeAt mk ok w' b r n f left cnt := by
  obtain ⟨es, clock, seen, h1, h2, h3, h4, h5, h6, h7⟩ := h
  exact ⟨es, clock, seen, hb.trans h1, h2, h3, h4, h5, hr.trans h6, h7⟩

theorem RangeAt.frm {w' : World} {M : Nat → Prop} (h : RangeAt mk ok w b r n f left cnt) (hf : Frm M w w') (hb : ¬ M b) (hr : ¬ M r) : RangeAt mk ok w' b r n f left cnt :=
  h.of_blocks (hf.block b h.map.lt hb) (hf.block r h.lt hr)

/-- 'range m'. -/
theorem MapAt.range (ht : P.underlying t = some (.map k e)) (h : MapAt mk ok w b n f) :
    ∃ o, (Instr.range t (.map (some b))).run P w = .ok (.pointer (some ⟨w.heap.size, 0, none⟩)) (w.alloc o) ∧
      RangeAt mk ok (w.alloc o) b w.heap.size n f (fun a => (f a).isSome) n := by
  obtain ⟨es, clock, h1, h2, h3, h4, h5⟩ := h
  refine ⟨.mapIter (some b) clock #[] clock, ?_, ⟨es, clock, #[], block_alloc_old _ h1, h2, h3, h4, h5, block_alloc_new _ _, by subst h4; simp [leftOf], fun a ha => ?_⟩⟩
  · simp [Instr.range, run_underlying ht, MapKept.run_getObj_map h1, Result.andThen, go_sem]
  · show (f a).isSome = true ↔ _
    rw [Option.isSome_iff_exists]
    constructor
    · rintro ⟨v, hv⟩
      obtain ⟨x, hx, hk, _⟩ := (h5 a v ha).1 hv
      exact ⟨x, hx, hk, by simp⟩
    · rintro ⟨x, hx, hk, _⟩
      exact ⟨x.val, (h5 a _ ha).2 ⟨x, hx, hk, rfl⟩⟩

/-- A step: it is over; or some key that was left comes. -/
theorem RangeAt.next (K : KeyKind P k mk ok) (h : RangeAt mk ok w b r n f left cnt) (ty : TypeId) :
    ((∀ a, ok a → ¬ left a) ∧ (Instr.next (.pointer (some ⟨r, 0, none⟩)) false ty).run P w = .ok (.tuple #[.bool false]) w) ∨
    ∃ a v w' cnt', ok a ∧ left a ∧ f a = some v ∧ (Instr.next (.pointer (some ⟨r, 0, none⟩)) false ty).run P w = .ok (.tuple #[.bool true, mk a, v]) w' ∧
      RangeAt mk ok w' b r n f (fun x => left x ∧ x ≠ a) cnt' ∧ cnt' < cnt ∧ Frm (Only r) w w' ∧ w'.heap.size = w.heap.size ∧
      (Instr.entry (.pointer (some ⟨r, 0, none⟩))).run P w' = .ok (.tuple #[mk a, v]) w' := by
  obtain ⟨es, clock, seen, hb, h2, h3, h4, h5, hr, rfl, hl⟩ := h
  have hne : r ≠ b := fun e' => by subst e'; rw [hb] at hr; cases hr
  have hold : ∀ x ∈ es.toList, x.born < clock := h2.1
  rcases run_next_at (P := P) w ty r b clock clock seen es clock hr hb hold (Nat.le_refl _) with ⟨h0, hrun⟩ | ⟨x, hx, w1, hal, hrun⟩
  · refine .inl ⟨fun a ha hla => ?_, hrun⟩
    obtain ⟨x, hx, _, hs⟩ := (hl a ha).1 hla
    rw [all_seen es seen h0 x hx] at hs
    cases hs
  · obtain ⟨hem, hes⟩ := mem_left hx
    obtain ⟨a, ha, hka⟩ := h3 x hem
    have hr1 : w1.heap[r]? = some (.mapIter (some b) clock seen clock) := by rcases hal with rfl | rfl <;> exact hr
    have hb1 : w1.heap[b]? = some (.map es clock) := by rcases hal with rfl | rfl <;> exact hb
    have hset := heap_set (o' := .mapIter (some b) clock (seen.push x.born) clock) hr1
    have hb' : (setBlock w1 r (.mapIter (some b) clock (seen.push x.born) clock)).heap[b]? = some (.map es clock) := (hset.2 b (fun e1 => hne e1.symm)).trans hb1
    have hkeys : es.toList.Pairwise (fun x y => x.key ≠ y.key) := ((stamped_iff es clock).1 h2).2.2
    have hborn : (es.toList.map (·.born)).Nodup := ((stamped_iff es clock).1 h2).2.1
    have hinj : ∀ y ∈ es.toList, y.born = x.born ↔ y.key = x.key := fun y hy => by
      obtain ⟨i, hi, rfl⟩ := List.getElem_of_mem hy
      obtain ⟨j, hj, rfl⟩ := List.getElem_of_mem hem
      constructor
      · intro e1
        have : i = j := by
          rw [List.Nodup, List.pairwise_map] at hborn
          rcases Nat.lt_trichotomy i j with hlt | heq | hlt
          · exact absurd e1 (List.pairwise_iff_getElem.1 hborn i j hi hj hlt)
          · exact heq
          · exact absurd e1.symm (List.pairwise_iff_getElem.1 hborn j i hj hi hlt)
        subst this; rfl
      · intro e1
        have : i = j := by
          rcases Nat.lt_trichotomy i j with hlt | heq | hlt
          · exact absurd e1 (List.pairwise_iff_getElem.1 hkeys i j hi hj hlt)
          · exact heq
          · exact absurd e1.symm (List.pairwise_iff_getElem.1 hkeys j i hj hi hlt)
        subst this; rfl
    refine .inr ⟨a, x.val, _, _, ha, (hl a ha).2 ⟨x, hem, hka, by simpa using hes⟩, (h5 a _ ha).2 ⟨x, hem, hka, rfl⟩, by rw [← hka]; exact hrun,
      ⟨es, clock, seen.push x.born, hb', h2, h3, h4, h5, hset.1, rfl, fun a' ha' => ?_⟩, left_shrinks es seen x hx, ?_, ?_, by
        rw [← hka]; exact run_entry_at _ r b clock seen es clock x hset.1 hb' hem hborn⟩
    · show (left a' ∧ a' ≠ a) ↔ _
      rw [hl a' ha']
      constructor
      · rintro ⟨⟨y, hy, hyk, hys⟩, hne'⟩
        refine ⟨y, hy, hyk, ?_⟩
        rw [contains_push, hys, Bool.false_or]
        rw [beq_eq_false_iff_ne]
        intro e1
        have := (hinj y hy).1 e1
        exact hne' (K.inj _ _ (hyk.symm.trans (this.trans hka)))
      · rintro ⟨y, hy, hyk, hys⟩
        rw [contains_push, Bool.or_eq_false_iff, beq_eq_false_iff_ne] at hys
        refine ⟨⟨y, hy, hyk, hys.1⟩, fun e1 => hys.2 ?_⟩
        subst e1
        exact (hinj y hy).2 (hyk.trans hka.symm)
    · rcases hal with rfl | rfl
      · exact (Frm.refl _ _).setBlock (.inl (Only.self r)) _
      · exact ((Frm.refl _ _).drew).setBlock (.inl (Only.self r)) _
    · rcases hal with rfl | rfl <;> simp [ChangeMaps.setBlock]

theorem RangeAt.left_eq (h : RangeAt mk ok w b r n f left cnt) : w.rangeLeft b r = cnt := by
  obtain ⟨es, clock, seen, h1, h2, h3, h4, h5, h6, h7, _⟩ := h
  simp [World.rangeLeft, h1, h6, h7]

variable {ops : Array Oper} {rest : List Oper} {o : Oper} {a : Act} {Q : Exit → Act → World → Prop}

theorem wpList_range_at (hg : o.guard = none) (m : Operand) (t : TypeId) (hop : o.op = Op.range t m) (k e : TypeId) (ht : P.underlying t = some (.map k e)) (hm : a.eval m = .map (some b)) (h : MapAt mk ok w b n f)
    (hK : ∀ o', RangeAt mk ok (w.alloc o') b w.heap.size n f (fun a => (f a).isSome) n → wpList P ops Q rest (a.put o.dst (.pointer (some ⟨w.heap.size, 0, none⟩))) (w.alloc o')) : wpList P ops Q (o :: rest) a w := by
  refine wpList_plain hg fun K' hK' => ?_
  obtain ⟨o', hrun, hr⟩ := h.range ht
  unfold Oper.wp
  simp [execOp, hop, hm, hrun, Result.andThen]
  exact hK' _ _ (hK o' hr)

theorem wpList_next_at (hg : o.guard = none) (it : Operand) (hop : o.op = Op.next it false) (K : KeyKind P k mk ok) (hit : a.eval it = .pointer (some ⟨r, 0, none⟩)) (h : RangeAt mk ok w b r n f left cnt)
    (hDone : (∀ a, ok a → ¬ left a) → wpList P ops Q rest (a.put o.dst (.tuple #[.bool false])) w)
    (hMore : ∀ x v w' cnt', ok x → left x → f x = some v → RangeAt mk ok w' b r n f (fun y => left y ∧ y ≠ x) cnt' → cnt' < cnt → Frm (Only r) w w' → w'.heap.size = w.heap.size →
      (Instr.entry (.pointer (some ⟨r, 0, none⟩))).run P w' = .ok (.tuple #[mk x, v]) w' → wpList P ops Q rest (a.put o.dst (.tuple #[.bool true, mk x, v])) w') : wpList P ops Q (o :: rest) a w := by
  refine wpList_plain hg fun K' hK' => ?_
  unfold Oper.wp
  rcases h.next K o.type with ⟨h0, hrun⟩ | ⟨x, v, w', cnt', h1, h2, h3, hrun, h4, h5, h6, h7, h8⟩
  · simp [execOp, hop, hit, hrun, Result.andThen]
    exact hK' _ _ (hDone h0)
  · simp [execOp, hop, hit, hrun, Result.andThen]
    exact hK' _ _ (hMore x v w' cnt' h1 h2 h3 h4 h5 h6 h7 h8)
end
end Go.Proofs.Ytkanfpmmgaipnaa
