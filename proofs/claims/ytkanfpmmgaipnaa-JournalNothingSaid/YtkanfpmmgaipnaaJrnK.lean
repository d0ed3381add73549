/-
  Rows that grow by append, as objects; the journal's header.
-/
import Derived.Test.YtkanfpmmgaipnaaJplC
import Derived.Test.YtkanfpmmgaipnaaJrnJ
namespace Go.Proofs.Ytkanfpmmgaipnaa
set_option linter.unusedVariables false
open Go.ChangeMaps Go.MapKept Go.RowKit

/-- A slice that grows by append: n elements of type t, of s cells each. -/
def rowR (t : TypeId) (ht : t ≠ 5) (s : Nat) (v : Value) (n : Nat) (xs : List Value) : Res where
  M := fun x => v.ownBlock = some x
  inv := fun w => w.ownsRow 0 t s v n xs
  lt := fun w H x hx => (H.lt x hx).2
  dry := fun w H x hx c' e => by
    rcases H.2 with ⟨rfl, _⟩ | ⟨g, cap, cur, rfl, _, h2, _⟩
    · cases hx
    · obtain rfl : g = x := by simpa [Value.ownBlock] using hx
      rw [h2] at e
      simp only [Option.some.injEq, Obj.cells.injEq] at e
      exact ht e.2.1
  keep := fun w w' N H hf hd ha => ownsRow_of_block H (fun g hg => hf.block g (H.lt g hg).2 (ha g hg))

theorem St.rowNil {w0 w : World} {rs : List Res} (h : St w0 w rs) (t : TypeId) (ht : t ≠ 5) (s : Nat) : St w0 w (rowR t ht s (.slice none 0 0) 0 [] :: rs) :=
  h.make (Frm.refl _ _) (rowR t ht s _ _ _) (World.ownsRow_nil _ _ _ _) (fun _ hx => by cases hx)

/-- Behind an append to it (o: what the new ones lay in). -/
theorem St.rowAppend {w0 w : World} {rs : List Res} (h : St w0 w rs) (i : Nat) {t : TypeId} {ht : t ≠ 5} {s n : Nat} {v : Value} {xs : List Value} (hr : rs[i]? = some (rowR t ht s v n xs)) (o : Obj) {v' : Value} {w' : World} {m : Nat} {ys : List Value}
    (ho : w'.ownsRow 0 t s v' m ys) (hg : (w.alloc o).grownBy w' v.ownBlock) (hat : v'.ownBlock = v.ownBlock ∨ v'.ownBlock = some (w.alloc o).heap.size) :
    St w0 w' (rs.set i (rowR t ht s v' m ys)) := by
  refine h.write i hr (((Frm.refl (rowR t ht s v n xs).M w).alloc o).trans (Frm.ofGrown hg) (fun y _ e => e)) (rowR t ht s v' m ys) ho (fun x hx => ?_)
  rcases hat with e | e
  · exact .inl (show v.ownBlock = some x from e ▸ (show v'.ownBlock = some x from hx))
  · have hx : v'.ownBlock = some x := hx
    rw [e] at hx
    have e' : (w.alloc o).heap.size = x := by injection hx
    have := ((Frm.refl NoB w).alloc o).size
    exact .inr (by omega)

theorem St.drop2nd {w0 w : World} {x y : Res} {rs : List Res} (h : St w0 w (x :: y :: rs)) : St w0 w (x :: rs) := h.sub ((List.sublist_cons_self y rs).cons_cons x)

theorem St.drop3rd {w0 w : World} {x y z : Res} {rs : List Res} (h : St w0 w (x :: y :: z :: rs)) : St w0 w (x :: y :: rs) := h.sub (((List.sublist_cons_self z rs).cons_cons y).cons_cons x)
theorem St.drop4th {w0 w : World} {x y z u : Res} {rs : List Res} (h : St w0 w (x :: y :: z :: u :: rs)) : St w0 w (x :: y :: z :: rs) := h.sub ((((List.sublist_cons_self u rs).cons_cons z).cons_cons y).cons_cons x)
theorem St.swap {w0 w : World} {x y : Res} {rs : List Res} (h : St w0 w (x :: y :: rs)) : St w0 w (y :: x :: rs) := h.perm (List.Perm.swap _ _ _)

/-- The cells of a block that was just made. -/
theorem new_one (w : World) (x : Value) (t : TypeId) (j : Nat) (u : Value) (h : ([x] : List Value)[j]? = some u) : (w.alloc (.cells #[x] t (0, 0))).cell? ((⟨w.heap.size, 0, none⟩ : Addr).add j) = some u := by
  obtain ⟨h1, h2⟩ := List.getElem?_eq_some_iff.1 h
  obtain rfl : j = 0 := by simpa using h1
  rw [show ((⟨w.heap.size, 0, none⟩ : Addr).add 0) = ⟨w.heap.size, 0, none⟩ from rfl, cell_of_block (block_alloc_new _ _), ← h2]
  rfl

def NatK (k : Nat) : Value := .int .i64 (k : Int)

/-- A row of numbers. -/
abbrev rowI (v : Value) (l : List Nat) : Res := rowR 3 neI8 1 v l.length (l.map NatK)

theorem elems_rowI {w : World} {v : Value} {l : List Nat} (h : w.ownsRow 0 3 1 v l.length (l.map NatK)) : Elems w v ((l.map (fun k : Nat => (k : Int))).map IntK) := by
  have e : (l.map (fun k : Nat => (k : Int))).map IntK = l.map NatK := by rw [List.map_map]; rfl
  have := elems_of_owns (w := w) (base := 0) (v := v) (l := l.map (fun k : Nat => (k : Int))) (by rw [List.length_map, e]; exact h)
  exact this
theorem St.rowICell {w0 w : World} {rs : List Res} (h : St w0 w rs) {i n cap : Nat} {a : Option Addr} {l : List Nat} (hr : rs[i]? = some (rowI (.slice a n cap) l)) {k x : Nat} (hx : l[k]? = some x) :
    ∃ gb go, a = some ⟨gb, go, none⟩ ∧ gb < w.heap.size ∧ w.cell? ⟨gb, go + k, none⟩ = some (.int .i64 x) := by
  obtain ⟨a', cap', e, hc⟩ := elems_rowI (h.get hr)
  injection e with e1 e2 e3
  subst e1
  obtain ⟨gb, go, h1, h2, h3⟩ := hc k (.int .i64 x) (by rw [List.getElem?_map, List.getElem?_map, hx]; rfl)
  exact ⟨gb, go, h1, h2, h3⟩

theorem St.rowILen {w0 w : World} {rs : List Res} (h : St w0 w rs) {i : Nat} {v : Value} {l : List Nat} (hr : rs[i]? = some (rowI v l)) : ∃ a cap, v = .slice a l.length cap := by
  obtain ⟨a', cap', e, hc⟩ := elems_rowI (h.get hr)
  exact ⟨a', cap', by rw [e]; simp⟩
end Go.Proofs.Ytkanfpmmgaipnaa
