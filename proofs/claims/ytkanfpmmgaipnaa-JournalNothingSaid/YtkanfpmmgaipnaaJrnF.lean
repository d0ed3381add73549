/-
  Slices of function values, and captured variables of a loop, as objects.
-/
import Derived.Test.YtkanfpmmgaipnaaJrnE
import Derived.Test.YtkanfpmmgaipnaaRes2
namespace Go.Proofs.Ytkanfpmmgaipnaa
set_option linter.unusedVariables false
open Go.ChangeMaps Go.MapKept Go.RowKit

theorem infoFn : (Try.prog.info? 33).map (fun i => (i.zero, i.size, i.bytes)) = some (some .nilFunc, 1, 8) := by kernel_rfl
theorem neFn : (33 : TypeId) ≠ 5 := by decide

/-- A slice of function values that grows by append. -/
def fnRow (v : Value) (xs : List Value) : Res where
  M := fun x => v.ownBlock = some x
  inv := fun w => w.ownsRow 0 33 1 v xs.length xs
  lt := fun w H x hx => (H.lt x hx).2
  dry := fun w H x hx c' e => by
    rcases H.2 with ⟨rfl, _⟩ | ⟨g, cap, cur, rfl, _, h2, _⟩
    · cases hx
    · obtain rfl : g = x := by simpa [Value.ownBlock] using hx
      rw [h2] at e
      simp only [Option.some.injEq, Obj.cells.injEq] at e
      exact neFn e.2.1
  keep := fun w w' N H hf hd ha => ownsRow_of_block H (fun g hg => hf.block g (H.lt g hg).2 (ha g hg))

theorem St.fnNil {w0 w : World} {rs : List Res} (h : St w0 w rs) : St w0 w (fnRow (.slice none 0 0) [] :: rs) :=
  h.make (Frm.refl _ _) (fnRow _ _) (World.ownsRow_nil _ _ _ _) (fun _ hx => by cases hx)

/-- Behind an append to it (o: what the new ones lay in). -/
theorem St.fnAppend {w0 w : World} {rs : List Res} (h : St w0 w rs) (i : Nat) {v : Value} {xs : List Value} (hr : rs[i]? = some (fnRow v xs)) (o : Obj) {v' : Value} {w' : World} {news : List Value}
    (ho : w'.ownsRow 0 33 1 v' (xs.length + news.length) (xs ++ news)) (hg : (w.alloc o).grownBy w' v.ownBlock) (hat : v'.ownBlock = v.ownBlock ∨ v'.ownBlock = some (w.alloc o).heap.size) :
    St w0 w' (rs.set i (fnRow v' (xs ++ news))) := by
  refine h.write i hr (((Frm.refl (fnRow v xs).M w).alloc o).trans (Frm.ofGrown hg) (fun y _ e => e)) (fnRow v' (xs ++ news)) (by show w'.ownsRow _ _ _ _ (xs ++ news).length _; rw [List.length_append]; exact ho) (fun x hx => ?_)
  rcases hat with e | e
  · exact .inl (show v.ownBlock = some x from e ▸ (show v'.ownBlock = some x from hx))
  · have hx : v'.ownBlock = some x := hx
    rw [e] at hx
    have e' : (w.alloc o).heap.size = x := by injection hx
    have := ((Frm.refl NoB w).alloc o).size
    exact .inr (by omega)

/-- The objects in another order. -/
theorem St.perm {w0 w : World} {rs rs' : List Res} (h : St w0 w rs) (hp : rs.Perm rs') : St w0 w rs' :=
  ⟨h.base, fun r hr => h.inv r (hp.mem_iff.2 hr), fun r hr => h.new r (hp.mem_iff.2 hr), (hp.pairwise_iff (fun h x ha hb => h x hb ha)).1 h.apart⟩

/-- The blocks of a loop's captured counter, the last first. -/
def capR : List Nat → List Res
  | [] => []
  | b :: r => arr b #[.int .i64 (r.length : Int)] 3 neI8 :: capR r

theorem St.capMore {w0 w : World} {a : Res} {bl : List Nat} {rs : List Res} (h : St w0 w (a :: (capR bl ++ rs))) {z : Int} (hz : z = bl.length) : St w0 (w.alloc (.cells #[.int .i64 z] 3 (0, 0))) (a :: (capR (w.heap.size :: bl) ++ rs)) := by
  subst hz
  exact (h.newArr #[.int .i64 (bl.length : Int)] 3 neI8).perm (List.Perm.swap _ _ _)

/-- The closures that a loop made. -/
def fmtFns (bd : Nat) : List Nat → List Value
  | [] => []
  | b :: r => fmtFns bd r ++ [.func (.func 95) #[] #[.pointer (some ⟨bd, 0, none⟩), .pointer (some ⟨b, 0, none⟩)]]

theorem fmtFns_length (bd : Nat) : ∀ l, (fmtFns bd l).length = l.length
  | [] => rfl
  | b :: r => by rw [fmtFns, List.length_append, fmtFns_length bd r]; rfl

end Go.Proofs.Ytkanfpmmgaipnaa
