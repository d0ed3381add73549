/-
  The reference's Flush.
-/
import Derived.Test.YtkanfpmmgaipnaaTlwD
namespace Go.Proofs.Ytkanfpmmgaipnaa
set_option linter.unusedVariables false
open Go.ChangeMaps Go.MapKept Go.RowKit

/-- The first k blocks are flushed. -/
def DSt.upTo (D : DSt) (k : Nat) : DSt := { D with base := fun a => if a < k then D.last a else D.base a, pend := fun a => if a < k then [] else D.pend a }

theorem RefOk.upTo0 {D : DSt} {ds : List Blk} {ps : List (Value × List Blk)} {last : Int} (h : RefOk D ds ps last) : RefOk (D.upTo 0) ds ps last :=
  ⟨h.nb, h.np, fun k hk => (h.base k hk).trans (by simp [DSt.upTo]), fun k hk => (by have := h.pend k hk; simpa [DSt.upTo] using this), h.lst, h.n40, h.ops⟩

/-- Nothing was pending. -/
theorem RefOk.upToSame {D : DSt} {ds : List Blk} {ps : List (Value × List Blk)} {last : Int} {k : Nat} (h : RefOk (D.upTo k) ds ps last) (hk : D.pend k = []) : RefOk (D.upTo (k + 1)) ds ps last := by
  refine ⟨h.nb, h.np, fun a ha => (h.base a ha).trans ?_, fun a ha => ?_, h.lst, h.n40, h.ops⟩
  · show some (if a < k then D.last a else D.base a) = some (if a < k + 1 then D.last a else D.base a)
    by_cases e : a = k
    · subst e
      rw [if_neg (Nat.lt_irrefl _), if_pos (Nat.lt_succ_self _)]
      unfold DSt.last
      rw [hk]; rfl
    · by_cases e2 : a < k
      · rw [if_pos e2, if_pos (by omega)]
      · rw [if_neg e2, if_neg (by omega)]
  · obtain ⟨v, hv⟩ := h.pend a ha
    refine ⟨v, hv.trans ?_⟩
    show some (v, if a < k then [] else D.pend a) = some (v, if a < k + 1 then [] else D.pend a)
    by_cases e : a = k
    · subst e
      rw [if_neg (Nat.lt_irrefl _), if_pos (Nat.lt_succ_self _), hk]
    · by_cases e2 : a < k
      · rw [if_pos e2, if_pos (by omega)]
      · rw [if_neg e2, if_neg (by omega)]

/-- What was pending is flushed. -/
theorem RefOk.upToNext {D : DSt} {ds : List Blk} {ps : List (Value × List Blk)} {last : Int} {k : Nat} (h : RefOk (D.upTo k) ds ps last) (hk : k < D.n) : RefOk (D.upTo (k + 1)) (ds.set k (D.last k)) (ps.set k (.slice none 0 0, [])) last := by
  refine ⟨by rw [List.length_set]; exact h.nb, by rw [List.length_set]; exact h.np, fun a ha => ?_, fun a ha => ?_, h.lst, h.n40, h.ops⟩
  · show (ds.set k (D.last k))[a]? = some (if a < k + 1 then D.last a else D.base a)
    by_cases e : a = k
    · subst e
      rw [if_pos (Nat.lt_succ_self _), List.getElem?_set_self (by have := h.nb; have e : (D.upTo a).n = D.n := rfl; omega)]
    · rw [List.getElem?_set_ne (Ne.symm e)]
      refine (h.base a ha).trans ?_
      show some (if a < k then D.last a else D.base a) = _
      by_cases e2 : a < k
      · rw [if_pos e2, if_pos (by omega)]
      · rw [if_neg e2, if_neg (by omega)]
  · show ∃ v, (ps.set k (.slice none 0 0, []))[a]? = some (v, if a < k + 1 then [] else D.pend a)
    by_cases e : a = k
    · subst e
      exact ⟨.slice none 0 0, by rw [if_pos (Nat.lt_succ_self _), List.getElem?_set_self (by have := h.np; have e : (D.upTo a).n = D.n := rfl; omega)]⟩
    · obtain ⟨v, hv⟩ := h.pend a ha
      refine ⟨v, ?_⟩
      rw [List.getElem?_set_ne (Ne.symm e)]
      refine hv.trans ?_
      show some (v, if a < k then [] else D.pend a) = _
      by_cases e2 : a < k
      · rw [if_pos e2, if_pos (by omega)]
      · rw [if_neg e2, if_neg (by omega)]

/-- All are flushed. -/
theorem RefOk.upToAll {D : DSt} {ds : List Blk} {ps : List (Value × List Blk)} {last : Int} (h : RefOk (D.upTo D.n) ds ps last) (hD : D.Wf) : RefOk D.flushed ds ps last :=
  ⟨h.nb, h.np, fun k hk => (h.base k hk).trans (by
    have hk : k < D.n := hk
    show some (if k < D.n then D.last k else D.base k) = some (D.last k)
    rw [if_pos hk]), fun k hk => (by
    have hk : k < D.n := hk
    obtain ⟨v, hv⟩ := h.pend k hk
    refine ⟨v, hv.trans ?_⟩
    show some (v, if k < D.n then [] else D.pend k) = some (v, [])
    rw [if_pos hk]), h.lst, h.n40, h.ops⟩

section
variable {w0 : Gnd} {w : World} {rs : List Res}

/-- A row is let go; nil in its place. -/
theorem St.bsClear (h : St w0 w rs) (i : Nat) {v : Value} {ds : List Blk} (hr : rs[i]? = some (bsR v ds)) : St w0 w (rs.set i (bsR (.slice none 0 0) [])) :=
  h.write i hr (Frm.refl _ _) (bsR (.slice none 0 0) []) ⟨[], World.ownsRow_nil _ _ _ _, rfl, fun i u b hu _ => by simp at hu⟩ (fun x hx => by cases hx)
end
end Go.Proofs.Ytkanfpmmgaipnaa
