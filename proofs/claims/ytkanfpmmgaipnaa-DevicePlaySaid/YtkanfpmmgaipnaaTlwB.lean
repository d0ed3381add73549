/-
  The reference's device in memory: its struct, its rows; off, Cut.
-/
import Derived.Test.YtkanfpmmgaipnaaTlwA
import Derived.BigQuiet
import Derived.Deep.QuietTactic
namespace Go.Proofs.Ytkanfpmmgaipnaa
set_option linter.unusedVariables false
open Go.ChangeMaps Go.MapKept Go.RowKit

/-- The reference's struct. -/
abbrev rst (rb : Nat) (bv pv : Value) (N last : Int) : Res := arr rb #[bv, pv, .int .i64 N, .int .i64 last] 127 neRd

/-- What is pending of each block, each in a row of its own. -/
def pnL (ps : List (Value × List Blk)) : List Res := ps.map fun p => bsR p.1 p.2

/-- The reference's device: its struct, the row of what was flushed, the row of the rows of what is pending. -/
def refL (rb : Nat) (bv pv : Value) (ds : List Blk) (ps : List (Value × List Blk)) (N last : Int) : List Res :=
  rst rb bv pv N last :: bsR bv ds :: rowR 124 neBb 1 pv ps.length (ps.map (·.1)) :: pnL ps

/-- It is the device D. -/
structure RefOk (D : DSt) (ds : List Blk) (ps : List (Value × List Blk)) (last : Int) : Prop where
  nb : ds.length = D.n
  np : ps.length = D.n
  base : ∀ k, k < D.n → ds[k]? = some (D.base k)
  pend : ∀ k, k < D.n → ∃ v, ps[k]? = some (v, D.pend k)
  lst : LastOk D.ops D.lim last
  n40 : D.n ≤ 40
  ops : D.ops ≤ 1000

section
variable {w0 : Gnd} {w : World} {rs : List Res}

set_option maxRecDepth 100000 in
theorem S_rOff {rb : Nat} {bv pv : Value} {N last : Int} (h : St w0 w (rst rb bv pv N last :: rs)) (hN : 0 ≤ N ∧ N ≤ 1000000) :
    Calls Try.prog 105 #[.pointer (some ⟨rb, 0, none⟩)] w fun e w' => e = .returned (.bool (decide (0 ≤ last) && decide (last < N + 1))) ∧ St w0 w' (rst rb bv pv (N + 1) last :: rs) := by
  have c2 : w.cell? ⟨rb, 2, none⟩ = some (.int .i64 N) := (h.arrCell (i := 0) rfl 2).trans rfl
  have f2 : w.frozen? ⟨rb, 2, none⟩ = false := h.arrFree (i := 0) rfl 2
  have H2 := Lib.hid (show St w0 (w.setCell ⟨rb, 2, none⟩ (.int .i64 (N + 1))) (rst rb bv pv (N + 1) last :: rs) from h.setArr 0 rfl 2 (.int .i64 (N + 1)))
  obtain ⟨hN0, hN1⟩ := hN
  clear h
  go_enter Try.func105, Try.ntmps105
  go_upto_region 2 with (fail)
  obtain ⟨w2, hw2⟩ : ∃ w2, w2 = w.setCell ⟨rb, 2, none⟩ (.int .i64 (N + 1)) := ⟨_, rfl⟩
  rw [← hw2] at H2 ⊢
  clear hw2 c2 f2
  have c2 : w2.cell? ⟨rb, 2, none⟩ = some (.int .i64 (N + 1)) := (H2.out.arrCell (i := 0) rfl 2).trans rfl
  have c3 : w2.cell? ⟨rb, 3, none⟩ = some (.int .i64 last) := (H2.out.arrCell (i := 0) rfl 3).trans rfl
  by_cases h0 : 0 ≤ last
  · have hd : decide (0 ≤ last) = true := decide_eq_true h0
    go_quiet (fail)
    go_wp2
    go_ret
    exact ⟨by simp [h0], H2.out.frm0 ((Frm.refl NoB w2).drewN _)⟩
  · have hd : decide (0 ≤ last) = false := decide_eq_false h0
    go_quiet (fail)
    go_wp2
    go_ret
    exact ⟨by simp, H2.out.frm0 ((Frm.refl NoB w2).drewN _)⟩

theorem S_rCut {rb : Nat} {bv pv : Value} {N last : Int} (h : St w0 w (rst rb bv pv N last :: rs)) (hN : 0 ≤ N ∧ N ≤ 1000000) (n : Int) (hn : okI n) :
    Calls Try.prog 81 #[.pointer (some ⟨rb, 0, none⟩), .int .i64 n] w fun e w' => e = .returned (.tuple #[]) ∧ St w0 w' (rst rb bv pv N (N + min (max n 0) 1152921504606846976) :: rs) := by
  have c2 : w.cell? ⟨rb, 2, none⟩ = some (.int .i64 N) := (h.arrCell (i := 0) rfl 2).trans rfl
  have c3 : ∃ u, w.cell? ⟨rb, 3, none⟩ = some u := ⟨_, h.arrCell (i := 0) rfl 3⟩
  obtain ⟨u3, c3⟩ := c3
  have f3 : w.frozen? ⟨rb, 3, none⟩ = false := h.arrFree (i := 0) rfl 3
  have H2 : Hid (∀ x : Int, St w0 (w.setCell ⟨rb, 3, none⟩ (.int .i64 x)) (rst rb bv pv N x :: rs)) := Lib.hid fun x => h.setArr 0 rfl 3 (.int .i64 x)
  obtain ⟨hN0, hN1⟩ := hN
  have hn' := (okI_iff n).1 hn
  obtain ⟨hn1, hn2⟩ := hn'
  clear h hn
  go_enter Try.func81, Try.ntmps81
  by_cases h0 : n < 0
  · have e : N + min (max n 0) 1152921504606846976 = N := by omega
    rw [e]
    have hm : min (0 : Int) 1152921504606846976 = 0 := by omega
    clear e
    go_wp2
    go_end0
    exact ⟨rfl, H2.out N⟩
  · by_cases h1 : n ≤ 1152921504606846976
    · have e : N + min (max n 0) 1152921504606846976 = N + n := by omega
      rw [e]
      have hm : min n 1152921504606846976 = n := by omega
      clear e
      go_wp2
      go_end0
      exact ⟨rfl, H2.out (N + n)⟩
    · have e : N + min (max n 0) 1152921504606846976 = N + 1152921504606846976 := by omega
      rw [e]
      have hm : min n 1152921504606846976 = 1152921504606846976 := by omega
      clear e
      go_wp2
      go_end0
      exact ⟨rfl, H2.out (N + 1152921504606846976)⟩

theorem S_rReadFar {rb : Nat} {bv pv : Value} {ds : List Blk} {ps : List (Value × List Blk)} {N last : Int} (h : St w0 w (refL rb bv pv ds ps N last ++ rs)) (k : Int) (hk : k < 0 ∨ (ds.length : Int) ≤ k) :
    Calls Try.prog 84 #[.pointer (some ⟨rb, 0, none⟩), .int .i64 k] w fun e w' => w = w' ∧ e = .returned (.tuple #[.slice none 0 0, .int .i64 1]) := by
  have c0 : w.cell? ⟨rb, 0, none⟩ = some bv := (h.arrCell (i := 0) rfl 0).trans rfl
  obtain ⟨a, cap, rfl⟩ := h.bsLen (i := 1) rfl
  clear h
  go_enter Try.func84, Try.ntmps84
  by_cases h0 : k < 0
  · go_wp2
    go_ret2
    exact ⟨rfl, rfl⟩
  · have h1 : (ds.length : Int) ≤ k := by omega
    go_wp2
    go_ret2
    exact ⟨rfl, rfl⟩

/-- The k-th row of what is pending. -/
theorem St.pnGet {rb : Nat} {bv pv : Value} {ds : List Blk} {ps : List (Value × List Blk)} {N last : Int} (h : St w0 w (refL rb bv pv ds ps N last ++ rs)) {k : Nat} {v : Value} {f : List Blk} (hk : ps[k]? = some (v, f)) :
    (refL rb bv pv ds ps N last ++ rs)[3 + k]? = some (bsR v f) := by
  have hl := (List.getElem?_eq_some_iff.1 hk).1
  unfold refL
  rw [show rst rb bv pv N last :: bsR bv ds :: rowR 124 neBb 1 pv ps.length (ps.map (·.1)) :: pnL ps ++ rs = rst rb bv pv N last :: bsR bv ds :: rowR 124 neBb 1 pv ps.length (ps.map (·.1)) :: (pnL ps ++ rs) from rfl, Nat.add_comm 3 k]
  show (pnL ps ++ rs)[k]? = _
  rw [List.getElem?_append_left (by unfold pnL; rw [List.length_map]; exact hl)]
  unfold pnL
  rw [List.getElem?_map, hk]
  rfl

/-- The cell of the k-th row. -/
theorem St.pnCell {rb : Nat} {bv : Value} {a : Option Addr} {n cap : Nat} {ds : List Blk} {ps : List (Value × List Blk)} {N last : Int} (h : St w0 w (refL rb bv (.slice a n cap) ds ps N last ++ rs)) {k : Nat} {v : Value} {f : List Blk} (hk : ps[k]? = some (v, f)) :
    ∃ g, a = some ⟨g, 0, none⟩ ∧ w.cell? ⟨g, k, none⟩ = some v ∧ w.frozen? ⟨g, k, none⟩ = false := by
  have H : w.ownsRow 0 124 1 (.slice a n cap) ps.length (ps.map (·.1)) := h.get (i := 2) rfl
  have hl := (List.getElem?_eq_some_iff.1 hk).1
  rcases H.2 with ⟨e, hl0⟩ | ⟨g, cap', cur, e, _, h2, _⟩
  · omega
  · injection e with e1 e2 e3
    have hrow := H.cells (g := g) (by rw [e1]; rfl)
    have add0 : ∀ m, (⟨g, 0, none⟩ : Addr).add m = ⟨g, m, none⟩ := fun m => by unfold Addr.add; split <;> simp_all
    refine ⟨g, e1, ?_, frozen_of_block h2⟩
    have := hrow k v (by rw [List.getElem?_map, hk]; rfl)
    rw [add0] at this
    exact this

theorem St.pnLen {rb : Nat} {bv pv : Value} {ds : List Blk} {ps : List (Value × List Blk)} {N last : Int} (h : St w0 w (refL rb bv pv ds ps N last ++ rs)) : ∃ a cap, pv = .slice a ps.length cap := by
  have H : w.ownsRow 0 124 1 pv ps.length (ps.map (·.1)) := h.get (i := 2) rfl
  rcases H.2 with ⟨e, hl⟩ | ⟨g, cap, cur, e, _⟩
  · exact ⟨none, 0, by rw [e, hl]⟩
  · exact ⟨_, _, e⟩
end
end Go.Proofs.Ytkanfpmmgaipnaa
