/-
  Rows of byte slices that grow by append; the reference's device: its count of ops.
-/
import Derived.Test.YtkanfpmmgaipnaaJlwB
namespace Go.Proofs.Ytkanfpmmgaipnaa
set_option linter.unusedVariables false
open Go.ChangeMaps Go.MapKept Go.RowKit

theorem neBy : ¬ U8T (31 : TypeId) := by decide
theorem neBb : ¬ U8T (124 : TypeId) := by decide
theorem neRd : ¬ U8T (127 : TypeId) := by decide

/-- A slice of slices of bytes: its own row; the bytes may lie anywhere. -/
def bsR (v : Value) (ds : List Blk) : Res where
  M := fun x => v.ownBlock = some x
  inv := fun _ w => ∃ vs, w.ownsRow 0 31 1 v ds.length vs ∧ vs.length = ds.length ∧ ∀ (i : Nat) u b, vs[i]? = some u → ds[i]? = some b → BytesAt w u b AnyB
  lt := fun _ w H x hx => by obtain ⟨vs, h, _⟩ := H; exact (h.lt x hx).2
  dry := fun _ w H x hx c e => by
    obtain ⟨vs, h, _⟩ := H
    rcases h.2 with ⟨rfl, _⟩ | ⟨g, cap, cur, rfl, _, h2, _⟩
    · cases hx
    · obtain rfl : g = x := by simpa [Value.ownBlock] using hx
      exact notC_cells h2 neBy c e
  keep := fun _ w w' N H hf hd ha => by
    obtain ⟨vs, h, hl, hb⟩ := H
    exact ⟨vs, ownsRow_of_block h (fun g hg => hf.block g (h.lt g hg).2 (ha g hg)), hl, fun i u b h1 h2 => (hb i u b h1 h2).frmZ hf hd⟩
  zone := fun _ _ _ H _ _ => H

section
variable {w0 : Gnd} {w : World} {rs : List Res}

theorem St.bsNil (h : St w0 w rs) : St w0 w (bsR (.slice none 0 0) [] :: rs) :=
  h.make (Frm.refl _ _) (bsR (.slice none 0 0) []) ⟨[], World.ownsRow_nil _ _ _ _, rfl, fun i u b hu _ => by simp at hu⟩ (fun _ hx => by cases hx)

theorem St.bsLen (h : St w0 w rs) {i : Nat} {v : Value} {ds : List Blk} (hr : rs[i]? = some (bsR v ds)) : ∃ a cap, v = .slice a ds.length cap := by
  obtain ⟨vs, h, _⟩ := h.get hr
  rcases h.2 with ⟨e, hl⟩ | ⟨g, cap, cur, e, _⟩
  · exact ⟨none, 0, by rw [e, hl]⟩
  · exact ⟨_, _, e⟩

/-- A slice of it, read. -/
theorem St.bsCell (h : St w0 w rs) {i n cap : Nat} {a : Option Addr} {ds : List Blk} (hr : rs[i]? = some (bsR (.slice a n cap) ds)) {j : Nat} {b : Blk} (hb : ds[j]? = some b) :
    ∃ g u, a = some ⟨g, 0, none⟩ ∧ w.cell? ⟨g, j, none⟩ = some u ∧ w.frozen? ⟨g, j, none⟩ = false ∧ BytesAt w u b AnyB := by
  obtain ⟨vs, H, hl, hby⟩ := h.get hr
  have hj := (List.getElem?_eq_some_iff.1 hb).1
  have hu : vs[j]? = some (vs[j]'(by omega)) := List.getElem?_eq_getElem _
  rcases H.2 with ⟨e, hl0⟩ | ⟨g, cap', cur, e, _, h2, _⟩
  · rw [hl0] at hj; omega
  · injection e with e1 e2 e3
    have hrow := H.cells (g := g) (by rw [e1]; rfl)
    have add0 : ∀ m, (⟨g, 0, none⟩ : Addr).add m = ⟨g, m, none⟩ := fun m => by unfold Addr.add; split <;> simp_all
    refine ⟨g, _, e1, ?_, frozen_of_block h2, hby j _ _ hu hb⟩
    have := hrow _ _ hu
    rw [add0] at this
    exact this

/-- Another slice is laid into a cell of it. -/
theorem St.bsSet (h : St w0 w rs) (i k : Nat) {g n cap : Nat} {ds : List Blk} (hr : rs[i]? = some (bsR (.slice (some ⟨g, 0, none⟩) n cap) ds)) {u : Value} {b : Blk} (hu : BytesAt w u b AnyB) (hn : n = ds.length) (hk : k < ds.length) :
    St w0 (w.setCell ⟨g, k, none⟩ u) (rs.set i (bsR (.slice (some ⟨g, 0, none⟩) n cap) (ds.set k b))) := by
  subst hn
  obtain ⟨vs, H, hl, hby⟩ := h.get hr
  have hf : Frm (bsR (.slice (some ⟨g, 0, none⟩) ds.length cap) ds).M w (w.setCell ⟨g, k, none⟩ u) := ((Frm.refl (Only g) w).setOnly u).mono (fun x _ e => by
    have e : x = g := e
    rw [e]; rfl)
  have hdry := (bsR (.slice (some ⟨g, 0, none⟩) ds.length cap) ds).dry w0.Z w (h.get hr)
  have hst := H.stored k u
  refine h.write i hr hf (bsR _ (ds.set k b)) ⟨vs.set k u, by rw [List.length_set]; exact hst.1, by rw [List.length_set, List.length_set]; exact hl, fun j x c hx hc => ?_⟩ (fun x hx => .inl hx)
  by_cases e : j = k
  · subst e
    rw [List.getElem?_set_self (by omega)] at hx
    rw [List.getElem?_set_self hk] at hc
    injection hx with hx
    injection hc with hc
    subst hx hc
    exact hu.frmZ hf (fun x _ hx => hdry x hx)
  · rw [List.getElem?_set_ne (Ne.symm e)] at hx hc
    exact (hby j x c hx hc).frmZ hf (fun x _ hx => hdry x hx)

/-- Behind an append of one slice. -/
theorem St.bsAppend (h : St w0 w rs) (i : Nat) {v : Value} {ds : List Blk} (hr : rs[i]? = some (bsR v ds)) {vs : List Value} (hvs : w.ownsRow 0 31 1 v ds.length vs ∧ vs.length = ds.length ∧ ∀ (i : Nat) u b, vs[i]? = some u → ds[i]? = some b → BytesAt w u b AnyB) {u : Value} {d : Blk} (hu : BytesAt w u d AnyB) (o : Obj) {v' : Value} {w' : World}
    (ho : w'.ownsRow 0 31 1 v' (ds.length + 1) (vs ++ [u])) (hg : (w.alloc o).grownBy w' v.ownBlock) (hat : v'.ownBlock = v.ownBlock ∨ v'.ownBlock = some (w.alloc o).heap.size) :
    St w0 w' (rs.set i (bsR v' (ds ++ [d]))) := by
  obtain ⟨I1, I2, I4⟩ := hvs
  have hf : Frm (bsR v ds).M w w' := ((Frm.refl _ w).alloc o).trans (Frm.ofGrown hg) (fun y _ e => e)
  have hdry := (bsR v ds).dry w0.Z w (h.get hr)
  have hkeep : ∀ u' b', BytesAt w u' b' AnyB → BytesAt w' u' b' AnyB := fun u' b' hu' => hu'.frmZ hf (fun x _ hx => hdry x hx)
  refine h.write i hr hf (bsR v' (ds ++ [d])) ⟨vs ++ [u], by rw [List.length_append]; exact ho, by simp [I2], fun q x b hx hb' => ?_⟩ (fun x hx => ?_)
  · rcases Nat.lt_trichotomy q vs.length with hq | hq | hq
    · rw [List.getElem?_append_left hq] at hx
      rw [List.getElem?_append_left (by omega)] at hb'
      exact hkeep _ _ (I4 q x b hx hb')
    · subst hq
      rw [List.getElem?_append_right (Nat.le_refl _), Nat.sub_self] at hx
      rw [I2, List.getElem?_append_right (Nat.le_refl _), Nat.sub_self] at hb'
      simp at hx hb'
      subst hx hb'
      exact hkeep _ _ hu
    · rw [List.getElem?_eq_none (by simp; omega)] at hx; cases hx
  · rcases hat with e | e
    · exact .inl (show v.ownBlock = some x from e ▸ (show v'.ownBlock = some x from hx))
    · have hx : v'.ownBlock = some x := hx
      rw [e] at hx
      have e' : (w.alloc o).heap.size = x := by injection hx
      have := ((Frm.refl NoB w).alloc o).size
      exact .inr (by omega)
end

/-! ### The cut, as the reference counts it -/

/-- The reference's Last, against what is still done. -/
def LastOk (ops : Nat) (lim : Option Nat) (last : Int) : Prop :=
  match lim with
  | none => last = -1
  | some c => 0 ≤ last ∧ ((c = 0 ∧ last ≤ (ops : Int)) ∨ (0 < c ∧ last = (ops : Int) + c) ∨ (1152921504606846976 ≤ c + ops ∧ 1152921504606846976 ≤ last ∧ last ≤ 1152921505606846976))

theorem LastOk.op {D : DSt} {last : Int} (h : LastOk D.ops D.lim last) (ho : D.ops ≤ 1000000) : LastOk D.op.ops D.op.lim last := by
  unfold LastOk at h ⊢
  show match D.lim.map (· - 1) with | none => _ | some c => _
  cases hl : D.lim with
  | none => rw [hl] at h; exact h
  | some c =>
    rw [hl] at h
    obtain ⟨h0, h1⟩ := h
    show 0 ≤ last ∧ ((c - 1 = 0 ∧ last ≤ ((D.ops + 1 : Nat) : Int)) ∨ (0 < c - 1 ∧ last = ((D.ops + 1 : Nat) : Int) + ((c - 1 : Nat) : Int)) ∨ (1152921504606846976 ≤ (c - 1) + (D.ops + 1) ∧ 1152921504606846976 ≤ last ∧ last ≤ 1152921505606846976))
    refine ⟨h0, ?_⟩
    rcases h1 with ⟨h1, h2⟩ | ⟨h1, h2⟩ | ⟨h1, h2, h3⟩
    · exact .inl ⟨by omega, by omega⟩
    · rcases Nat.lt_or_ge 1 c with h | h
      · exact .inr (.inl ⟨by omega, by omega⟩)
      · exact .inl ⟨by omega, by omega⟩
    · exact .inr (.inr ⟨by omega, h2, h3⟩)

/-- Is the next op beyond the cut? -/
theorem LastOk.off {D : DSt} {last : Int} (h : LastOk D.ops D.lim last) (ho : D.ops ≤ 1000000) : (decide (0 ≤ last) && decide (last < (D.ops : Int) + 1)) = D.off := by
  unfold LastOk at h
  unfold DSt.off
  cases hl : D.lim with
  | none =>
    rw [hl] at h
    have h : last = -1 := h
    subst h
    rfl
  | some c =>
    rw [hl] at h
    obtain ⟨h0, h1⟩ := h
    rw [decide_eq_true h0, Bool.true_and]
    have e : ((some c : Option Nat) == some 0) = decide (c = 0) := by
      cases c <;> rfl
    rw [e, Bool.eq_iff_iff, decide_eq_true_iff, decide_eq_true_iff]
    rcases h1 with ⟨h1, h2⟩ | ⟨h1, h2⟩ | ⟨h1, h2, h3⟩
    · omega
    · omega
    · omega

theorem LastOk.cut (D : DSt) (n : Int) (ho : D.ops ≤ 1000000) : LastOk (D.cut n).ops (D.cut n).lim ((D.ops : Int) + min (max n 0) 1152921504606846976) := by
  unfold LastOk
  show 0 ≤ _ ∧ _
  have e : (D.cut n).ops = D.ops := rfl
  rw [e]
  refine ⟨by omega, ?_⟩
  by_cases h0 : n ≤ 0
  · exact .inl ⟨by omega, by omega⟩
  · by_cases h1 : n ≤ 1152921504606846976
    · exact .inr (.inl ⟨by omega, by omega⟩)
    · exact .inr (.inr ⟨by omega, by omega, by omega⟩)
end Go.Proofs.Ytkanfpmmgaipnaa
