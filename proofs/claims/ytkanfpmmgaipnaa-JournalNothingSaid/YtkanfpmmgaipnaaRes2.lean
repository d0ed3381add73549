/-
  An array of slices of ints that grow by append, as an object.
-/
import Derived.Test.YtkanfpmmgaipnaaLawA
import Derived.Maps.AppendAt
namespace Go.Proofs.Ytkanfpmmgaipnaa
set_option linter.unusedVariables false
open Go.ChangeMaps Go.MapKept Go.RowKit

theorem infoI64 : (Try.prog.info? 3).map (fun i => (i.zero, i.size, i.bytes)) = some (some (.int .i64 0), 1, 8) := by kernel_rfl
theorem neI8 : (3 : TypeId) ≠ 5 := by decide

theorem ownsRow_of_block {w w' : World} {base : Nat} {e : TypeId} {s : Nat} {v : Value} {n : Nat} {xs : List Value} (h : w.ownsRow base e s v n xs) (hb : ∀ g, v.ownBlock = some g → w'.heap[g]? = w.heap[g]?) : w'.ownsRow base e s v n xs := by
  refine ⟨h.1, ?_⟩
  rcases h.2 with hn | ⟨g, cap, cur, rfl, h1, h2, h3⟩
  · exact .inl hn
  · exact .inr ⟨g, cap, cur, rfl, h1, (hb g rfl).trans h2, h3⟩

def grp (b : Nat) (c : Array Value) (t : TypeId) (ht : t ≠ 5) (f : Nat → List Int) : Res where
  M := fun x => x = b ∨ ∃ (j : Nat) (v : Value), c[j]? = some v ∧ v.ownBlock = some x
  inv := fun w => w.heap[b]? = some (.cells c t (0, 0)) ∧ (∀ (j : Nat) (v : Value), c[j]? = some v → w.ownsRow (b + 1) 3 1 v (f j).length ((f j).map IntK)) ∧
    ∀ (j k : Nat) (v u : Value) (x : Nat), c[j]? = some v → c[k]? = some u → v.ownBlock = some x → u.ownBlock = some x → j = k
  lt := fun w H x hx => by
    rcases hx with rfl | ⟨j, v, hv, hx⟩
    · exact lt_of_block H.1
    · exact ((H.2.1 j v hv).lt x hx).2
  dry := fun w H x hx c' e => by
    rcases hx with rfl | ⟨j, v, hv, hx⟩
    · rw [H.1] at e
      simp only [Option.some.injEq, Obj.cells.injEq] at e
      exact ht e.2.1
    · rcases (H.2.1 j v hv).2 with ⟨rfl, _⟩ | ⟨g, cap, cur, rfl, _, h2, _⟩
      · cases hx
      · obtain rfl : g = x := by simpa [Value.ownBlock] using hx
        rw [h2] at e
        simp only [Option.some.injEq, Obj.cells.injEq] at e
        exact neI8 e.2.1
  keep := fun w w' N H hf hd ha => ⟨(hf.block b (lt_of_block H.1) (ha b (.inl rfl))).trans H.1,
    fun j v hv => ownsRow_of_block (H.2.1 j v hv) (fun g hg => hf.block g ((H.2.1 j v hv).lt g hg).2 (ha g (.inr ⟨j, v, hv, hg⟩))), H.2.2⟩

theorem St.newGrp {w0 w : World} {rs : List Res} (h : St w0 w rs) (c : Array Value) (t : TypeId) (ht : t ≠ 5) (hc : ∀ (j : Nat) (v : Value), c[j]? = some v → v = .slice none 0 0) : St w0 (w.alloc (.cells c t (0, 0))) (grp w.heap.size c t ht (fun _ => []) :: rs) :=
  h.make ((Frm.refl _ _).alloc _) (grp w.heap.size c t ht _) ⟨block_alloc_new _ _, fun j v hv => by rw [hc j v hv]; exact World.ownsRow_nil _ _ _ _, fun j k v u x hv hu hx _ => by rw [hc j v hv] at hx; cases hx⟩ (fun x hx => by
    rcases hx with rfl | ⟨j, v, hv, hx⟩
    · exact Nat.le_refl _
    · rw [hc j v hv] at hx; cases hx)

theorem St.grpCell {w0 w : World} {rs : List Res} (h : St w0 w rs) {i : Nat} {b : Nat} {c : Array Value} {t : TypeId} {ht : t ≠ 5} {f : Nat → List Int} (hr : rs[i]? = some (grp b c t ht f)) (j : Nat) : w.cell? ⟨b, j, none⟩ = c[j]? :=
  cell_of_block (h.get hr).1

theorem St.grpFree {w0 w : World} {rs : List Res} (h : St w0 w rs) {i : Nat} {b : Nat} {c : Array Value} {t : TypeId} {ht : t ≠ 5} {f : Nat → List Int} (hr : rs[i]? = some (grp b c t ht f)) (j : Nat) : w.frozen? ⟨b, j, none⟩ = false :=
  frozen_of_block (h.get hr).1

theorem St.grpOwns {w0 w : World} {rs : List Res} (h : St w0 w rs) {i : Nat} {b : Nat} {c : Array Value} {t : TypeId} {ht : t ≠ 5} {f : Nat → List Int} (hr : rs[i]? = some (grp b c t ht f)) {j : Nat} {v : Value} (hv : c[j]? = some v) :
    w.ownsRow (b + 1) 3 1 v (f j).length ((f j).map IntK) := (h.get hr).2.1 j v hv

theorem elems_of_owns {w : World} {base : Nat} {v : Value} {l : List Int} (h : w.ownsRow base 3 1 v l.length (l.map IntK)) : Elems w v (l.map IntK) := by
  rcases h.2 with ⟨rfl, hl⟩ | ⟨g, cap, cur, rfl, _, h2, _, _, _, ht⟩
  · obtain rfl := List.eq_nil_of_length_eq_zero hl
    exact ⟨none, 0, rfl, fun i x hx => by simp at hx⟩
  · refine ⟨some ⟨g, 0, none⟩, cap, by rw [List.length_map], fun i x hx => ⟨g, 0, rfl, lt_of_block h2, ?_⟩⟩
    rw [cell_of_block h2, Nat.zero_add]
    have h3 : (cur.toList.take (l.length * 1))[i]? = some x := by rw [ht]; exact hx
    rw [List.getElem?_take] at h3
    split at h3
    · rw [← Array.getElem?_toList]; exact h3
    · cases h3

theorem Elems.at {w : World} {v : Value} {l : List Int} (h : Elems w v (l.map IntK)) {a : Option Addr} {n cap : Nat} (hv : v = .slice a n cap) {i : Nat} {x : Int} (hx : l[i]? = some x) :
    ∃ blk off, a = some ⟨blk, off, none⟩ ∧ blk < w.heap.size ∧ w.cell? ⟨blk, off + i, none⟩ = some (.int .i64 x) := by
  obtain ⟨a', cap', e, hel⟩ := h
  rw [hv] at e
  injection e with e1 e2 e3
  subst e1
  exact hel i (IntK x) (by rw [List.getElem?_map, hx]; rfl)

/-- Ahead of the store of 'a[k] = append(a[k], x)' the array stands as it stood. -/
theorem St.grpMid {w0 w : World} {rs : List Res} (h : St w0 w rs) (i : Nat) {b : Nat} {c : Array Value} {t : TypeId} {ht : t ≠ 5} {f : Nat → List Int} (hr : rs[i]? = some (grp b c t ht f)) {k : Nat} {v : Value} (hv : c[k]? = some v) (o : Obj) {w' : World}
    (hg : (w.alloc o).grownBy w' v.ownBlock) : w'.heap[b]? = some (.cells c t (0, 0)) := by
  have H := h.get hr
  have hb := lt_of_block H.1
  have h1 : (w.alloc o).heap[b]? = w.heap[b]? := ((Frm.refl NoB w).alloc o).block b hb (fun e => e)
  rw [hg.block b (by have := ((Frm.refl NoB w).alloc o).size; omega) (fun e => by have := ((H.2.1 k v hv).lt b e.symm).1; omega), h1]
  exact H.1

/-- Behind 'a[k] = append(a[k], x)'. -/
theorem St.grpAppend {w0 w : World} {rs : List Res} (h : St w0 w rs) (i : Nat) {b : Nat} {c : Array Value} {t : TypeId} {ht : t ≠ 5} {f : Nat → List Int} (hr : rs[i]? = some (grp b c t ht f)) {k : Nat} {v : Value} (hv : c[k]? = some v) (o : Obj) {v' : Value} {w' : World} (x : Int)
    (ho : w'.ownsRow (b + 1) 3 1 v' ((f k).length + 1) ((f k).map IntK ++ [IntK x])) (hg : (w.alloc o).grownBy w' v.ownBlock) (hat : v'.ownBlock = v.ownBlock ∨ v'.ownBlock = some (w.alloc o).heap.size) :
    St w0 (w'.setCell ⟨b, k, none⟩ v') (rs.set i (grp b (c.setIfInBounds k v') t ht (fun j => if j = k then f k ++ [x] else f j))) := by
  have H := h.get hr
  have hb := lt_of_block H.1
  have hkc : k < c.size := (Array.getElem?_eq_some_iff.1 hv).1
  have hf1 : Frm (grp b c t ht f).M w w' := ((Frm.refl (grp b c t ht f).M w).alloc o).trans (Frm.ofGrown hg) (fun y _ e => .inr ⟨k, v, hv, e⟩)
  have hf : Frm (grp b c t ht f).M w (w'.setCell ⟨b, k, none⟩ v') := hf1.trans ((Frm.refl (Only b) w').setOnly v') (fun y _ e => .inl e)
  have hset : ∀ y, y < w'.heap.size → y ≠ b → (w'.setCell ⟨b, k, none⟩ v').heap[y]? = w'.heap[y]? := fun y hy hne => ((Frm.refl (Only b) w').setOnly v').block y hy hne
  have hnb : ∀ (j : Nat) (u : Value) (y : Nat), c[j]? = some u → u.ownBlock = some y → b + 1 ≤ y ∧ y < w.heap.size := fun j u y hu hy => (H.2.1 j u hu).lt y hy
  have hbw : w'.heap[b]? = some (.cells c t (0, 0)) := by
    have h1 : (w.alloc o).heap[b]? = w.heap[b]? := ((Frm.refl NoB w).alloc o).block b hb (fun e => e)
    rw [hg.block b (by have := ((Frm.refl NoB w).alloc o).size; omega) (fun e => by have := hnb k v b hv e.symm; omega), h1]
    exact H.1
  have hnew : ∀ y, v'.ownBlock = some y → y ≠ b := fun y hy => by have := (ho.lt y hy).1; omega
  have hget : ∀ (j : Nat) (u : Value), (c.setIfInBounds k v')[j]? = some u → (j = k ∧ u = v') ∨ (j ≠ k ∧ c[j]? = some u) := fun j u hu => by
    by_cases e : j = k
    · subst e
      rw [Array.getElem?_setIfInBounds_self_of_lt hkc] at hu
      exact .inl ⟨rfl, by cases hu; rfl⟩
    · rw [Array.getElem?_setIfInBounds_ne (Ne.symm e)] at hu
      exact .inr ⟨e, hu⟩
  have hwa : w.heap.size ≤ (w.alloc o).heap.size := ((Frm.refl NoB w).alloc o).size
  have hapart : ∀ (j : Nat) (u : Value) (y : Nat), j ≠ k → c[j]? = some u → u.ownBlock = some y → v'.ownBlock ≠ some y := fun j u y hne hu hy e => by
    rcases hat with h1 | h1
    · exact hne (H.2.2 j k u v y hu hv hy (h1 ▸ e))
    · rw [h1] at e
      have := (hnb j u y hu hy).2
      have e' : (w.alloc o).heap.size = y := by injection e
      omega
  refine h.write i hr hf (grp b _ t ht _) ⟨block_setCell_same v' hbw, fun j u hu => ?_, fun j1 j2 u1 u2 y hu1 hu2 hy1 hy2 => ?_⟩ (fun y hy => ?_)
  · rcases hget j u hu with ⟨rfl, rfl⟩ | ⟨hne, hc⟩
    · simp only [if_pos]
      rw [List.length_append, List.length_singleton, List.map_append]
      exact ownsRow_of_block ho (fun g hgb => hset g (ho.lt g hgb).2 (hnew g hgb))
    · simp only [if_neg hne]
      refine ownsRow_of_block (H.2.1 j u hc) (fun g hgb => ?_)
      have h1 := hnb j u g hc hgb
      rw [hset g (by have := hf1.size; omega) (by omega), hg.block g (by omega) (fun e => hne (H.2.2 j k u v g hc hv hgb e.symm))]
      exact ((Frm.refl NoB w).alloc o).block g h1.2 (fun e => e)
  · rcases hget j1 u1 hu1 with ⟨rfl, rfl⟩ | ⟨hne1, hc1⟩
    · rcases hget j2 u2 hu2 with ⟨rfl, rfl⟩ | ⟨hne2, hc2⟩
      · rfl
      · exact absurd hy1 (hapart j2 u2 y hne2 hc2 hy2)
    · rcases hget j2 u2 hu2 with ⟨rfl, rfl⟩ | ⟨hne2, hc2⟩
      · exact absurd hy2 (hapart j1 u1 y hne1 hc1 hy1)
      · exact H.2.2 j1 j2 u1 u2 y hc1 hc2 hy1 hy2
  · rcases hy with rfl | ⟨j, u, hu, hy⟩
    · exact .inl (.inl rfl)
    · rcases hget j u hu with ⟨rfl, rfl⟩ | ⟨hne, hc⟩
      · rcases hat with h1 | h1
        · exact .inl (.inr ⟨j, v, hv, h1 ▸ hy⟩)
        · rw [h1] at hy
          have e' : (w.alloc o).heap.size = y := by injection hy
          exact .inr (by omega)
      · exact .inl (.inr ⟨j, u, hc, hy⟩)
end Go.Proofs.Ytkanfpmmgaipnaa
