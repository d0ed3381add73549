/-
  The reference's device grows: a block more in Base, an empty row more in Pending; New.
-/
import Derived.Test.YtkanfpmmgaipnaaTlwF
namespace Go.Proofs.Ytkanfpmmgaipnaa
set_option linter.unusedVariables false
set_option linter.unusedSimpArgs false
open Go.ChangeMaps Go.MapKept Go.RowKit

section
variable {w0 : Gnd} {w : World} {rs : List Res}

/-- One block more at Base's end; the struct's cell is turned last. -/
theorem St.growBase {rb : Nat} {bv pv : Value} {N last : Int} {ds : List Blk} {X : List Res} (h : St w0 w (rst rb bv pv N last :: bsR bv ds :: X)) {vs : List Value}
    (hvs : w.ownsRow 0 31 1 bv ds.length vs ∧ vs.length = ds.length ∧ ∀ (i : Nat) u b, vs[i]? = some u → ds[i]? = some b → BytesAt w u b AnyB) {u : Value} {d : Blk} (hu : BytesAt w u d AnyB) (o : Obj) {v' : Value} {w' : World}
    (ho : w'.ownsRow 0 31 1 v' (ds.length + 1) (vs ++ [u])) (hg : (w.alloc o).grownBy w' bv.ownBlock) (hat : v'.ownBlock = bv.ownBlock ∨ v'.ownBlock = some (w.alloc o).heap.size) :
    w'.cell? ⟨rb, 0, none⟩ = some bv ∧ w'.frozen? ⟨rb, 0, none⟩ = false ∧ St w0 (w'.setCell ⟨rb, 0, none⟩ v') (rst rb v' pv N last :: bsR v' (ds ++ [d]) :: X) := by
  have h2 : St w0 w' (rst rb bv pv N last :: bsR v' (ds ++ [d]) :: X) := h.bsAppend 1 rfl hvs hu o ho hg hat
  exact ⟨(h2.arrCell (i := 0) rfl 0).trans rfl, h2.arrFree (i := 0) rfl 0, h2.setArr 0 rfl 0 v'⟩

/-- One row more at Pending's end; the struct's cell is turned last. -/
theorem St.growPend {rb : Nat} {bv pv : Value} {N last : Int} {B : Res} {X : List Res} {n : Nat} {xs : List Value} (h : St w0 w (rst rb bv pv N last :: B :: rowR 124 neBb 1 pv n xs :: X)) (x : Value) (o : Obj) {v' : Value} {w' : World}
    (ho : w'.ownsRow 0 124 1 v' (n + 1) (xs ++ [x])) (hg : (w.alloc o).grownBy w' pv.ownBlock) (hat : v'.ownBlock = pv.ownBlock ∨ v'.ownBlock = some (w.alloc o).heap.size) :
    w'.cell? ⟨rb, 1, none⟩ = some pv ∧ w'.frozen? ⟨rb, 1, none⟩ = false ∧ St w0 (w'.setCell ⟨rb, 1, none⟩ v') (rst rb bv v' N last :: B :: rowR 124 neBb 1 v' (n + 1) (xs ++ [x]) :: X) := by
  have h2 : St w0 w' (rst rb bv pv N last :: B :: rowR 124 neBb 1 v' (n + 1) (xs ++ [x]) :: X) := h.rowAppend 2 rfl o ho hg hat
  exact ⟨(h2.arrCell (i := 0) rfl 1).trans rfl, h2.arrFree (i := 0) rfl 1, h2.setArr 0 rfl 1 v'⟩

/-- A pending row more, known. -/
theorem St.refSnoc {rb : Nat} {bv pv : Value} {ds : List Blk} {ps : List (Value × List Blk)} {N last : Int} {x : Value} {f : List Blk} (h : St w0 w (bsR x f :: rst rb bv pv N last :: bsR bv ds :: rowR 124 neBb 1 pv (ps.length + 1) (ps.map (·.1) ++ [x]) :: (pnL ps ++ rs))) :
    St w0 w (refL rb bv pv ds (ps ++ [(x, f)]) N last ++ rs) := by
  refine h.perm ?_
  unfold refL pnL
  rw [List.map_append, List.map_append, List.length_append]
  show List.Perm (bsR x f :: rst rb bv pv N last :: bsR bv ds :: rowR 124 neBb 1 pv (ps.length + 1) (ps.map (·.1) ++ [x]) :: ((ps.map fun p => bsR p.1 p.2) ++ rs)) (rst rb bv pv N last :: bsR bv ds :: rowR 124 neBb 1 pv (ps.length + 1) (ps.map (·.1) ++ [x]) :: (((ps.map fun p => bsR p.1 p.2) ++ [bsR x f]) ++ rs))
  have e : ((ps.map fun p => bsR p.1 p.2) ++ [bsR x f]) ++ rs = (ps.map fun p => bsR p.1 p.2) ++ bsR x f :: rs := by simp
  rw [e]
  exact (List.perm_middle (l₁ := rst rb bv pv N last :: bsR bv ds :: rowR 124 neBb 1 pv (ps.length + 1) (ps.map (·.1) ++ [x]) :: (ps.map fun p => bsR p.1 p.2)) (a := bsR x f) (l₂ := rs)).symm

/-- An empty one, just made. -/
theorem St.refNew (h : St w0 w rs) (N last : Int) : St w0 (w.alloc (.cells #[.slice none 0 0, .slice none 0 0, .int .i64 N, .int .i64 last] 127 (0, 0))) (refL w.heap.size (.slice none 0 0) (.slice none 0 0) [] [] N last ++ rs) := by
  have h1 := (h.newArr #[.slice none 0 0, .slice none 0 0, .int .i64 N, .int .i64 last] 127 neRd).bsNil.rowNil 124 neBb 1
  refine h1.perm ?_
  show List.Perm (_ :: _ :: _ :: rs) (_ :: _ :: _ :: ([] ++ rs))
  rw [List.nil_append]
  exact ((List.Perm.swap _ _ _).trans ((List.Perm.swap _ _ _).cons _)).trans ((List.Perm.swap _ _ _))
end
end Go.Proofs.Ytkanfpmmgaipnaa
