/-
  Arguments that are slices of pairs of ints, and of steps: what the frames of the statements tell of them.
-/
import Derived.Test.YtkanfpmmgaipnaaJlwE
import Derived.Deep.Slices
import Derived.Deep.Fields
namespace Go.Proofs.Ytkanfpmmgaipnaa
set_option linter.unusedVariables false
open Go.ChangeMaps Go.MapKept Go.RowKit Go.Deep

theorem addr_plain {w : World} {x : Addr} {v : Value} (h : w.cell? x = some v) : ∃ b o, x = ⟨b, o, none⟩ := by
  obtain ⟨blk, off, spot⟩ := x
  cases spot with
  | none => exact ⟨_, _, rfl⟩
  | some s =>
    exfalso
    unfold World.cell? at h
    split at h
    · simp at h
    · cases h

theorem addr_add (b o n : Nat) : (⟨b, o, none⟩ : Addr).add n = ⟨b, o + n, none⟩ := by
  unfold Addr.add
  split
  · rename_i h; subst h; rfl
  · rfl

section
variable {H : Type} {enc : TypeId × Value → H} {P : Program} {w : World} {base : Nat} {spare : Nat → Bool} {held : Bool}

/-- A slice of structs of two fields of one cell each: of each element both cells, and how they read. -/
theorem open_twos {t e : TypeId} {f0 f1 : Field} {fuel : Nat} {cs : List Value} {x : DataW H × List MemPlace} (ht : P.underlying t = some (.slice e)) (he : P.underlying e = some (.struct #[f0, f1])) (hone : oneCellFields P #[f0, f1] = true) (hC : P.cellsOf e = 2)
    (h : DataW.trod enc P w base spare held fuel t cs = some x) :
    ∃ (a : Option Addr) (len cap : Nat), cs = [.slice a len cap] ∧ len ≤ maxLen ∧ ∀ i, i < len → ∃ (blk off : Nat) (v0 v1 : Value) (y0 y1 : DataW H × List MemPlace) (n : Nat), a = some ⟨blk, off, none⟩ ∧ blk < w.heap.size ∧
      w.cell? ⟨blk, off + i * 2, none⟩ = some v0 ∧ w.cell? ⟨blk, off + i * 2 + 1, none⟩ = some v1 ∧ DataW.trod enc P w base spare held n f0.type [v0] = some y0 ∧ DataW.trod enc P w base spare held n f1.type [v1] = some y1 := by
  rcases Go.Deep.open_slice ht h with ⟨rfl, _⟩ | ⟨a, len, cap, m, n, D, Pl, hcs, hb, hl, hm, hmm, hx, hi⟩
  · exact ⟨none, 0, 0, rfl, Nat.zero_le _, fun i hi => by omega⟩
  · refine ⟨some a, len, cap, hcs, by omega, fun i hil => ?_⟩
    have him : i < m := by rw [hmm]; split <;> omega
    obtain ⟨cs', hc, ht'⟩ := hi i him
    obtain ⟨ys, n', _, _, hlen, hyl, hf⟩ := DataW.trod_struct he ht'
    rw [hC] at hc
    obtain ⟨_, hcl, hat⟩ := World.cells?_some hc
    obtain ⟨o0, k0⟩ := hone_of hone 0 f0 rfl
    obtain ⟨o1, k1⟩ := hone_of hone 1 f1 rfl
    have g0 := hf 0 f0 rfl
    have g1 := hf 1 f1 rfl
    rw [o0, k0] at g0
    rw [o1, k1] at g1
    match cs', hcl with
    | [v0, v1], _ =>
      have c0 := hat 0 (by omega)
      have c1 := hat 1 (by omega)
      have hs2 : ys.length = 2 := hyl
      have e0 : ys[0]? = some (ys[0]'(by omega)) := List.getElem?_eq_getElem _
      have e1 : ys[1]? = some (ys[1]'(by omega)) := List.getElem?_eq_getElem _
      rw [show (a.add (i * 2)).add 0 = a.add (i * 2) from rfl] at c0
      have hpl : ∃ b o, a = ⟨b, o, none⟩ := by
        obtain ⟨cs0, hc0, _⟩ := hi 0 (by omega)
        rw [hC] at hc0
        obtain ⟨_, hcl0, hat0⟩ := World.cells?_some hc0
        have h00 := hat0 0 (by omega)
        rw [List.getElem?_eq_getElem (by omega)] at h00
        exact addr_plain (x := a) h00
      obtain ⟨b, o, rfl⟩ := hpl
      rw [addr_add] at c0 c1
      rw [addr_add] at c1
      exact ⟨b, o, v0, v1, _, _, n', rfl, World.block_lt_of_cell? w _ c0, c0, c1, g0.trans e0, g1.trans e1⟩

/-- A slice of pairs of ints that came in. -/
theorem open_pairs {t e : TypeId} {f0 f1 : Field} {fuel : Nat} {cs : List Value} {x : DataW H × List MemPlace} (ht : P.underlying t = some (.slice e)) (he : P.underlying e = some (.struct #[f0, f1])) (hone : oneCellFields P #[f0, f1] = true) (hC : P.cellsOf e = 2)
    (h0 : P.underlying f0.type = some (.int .i64)) (h1 : P.underlying f1.type = some (.int .i64)) (h : DataW.trod enc P w base spare held fuel t cs = some x) :
    ∃ (v : Value) (l : List (Int × Int)), cs = [v] ∧ Pairs w v l ∧ (∀ p ∈ l, okI p.1 ∧ okI p.2) ∧ l.length ≤ maxLen := by
  obtain ⟨a, len, cap, hcs, hm, hi⟩ := open_twos ht he hone hC h
  have hch : ∃ G : Nat → Int × Int, ∀ i, i < len → ∃ blk off, a = some ⟨blk, off, none⟩ ∧ blk < w.heap.size ∧ w.cell? ⟨blk, off + i * 2, none⟩ = some (.int .i64 (G i).1) ∧ w.cell? ⟨blk, off + i * 2 + 1, none⟩ = some (.int .i64 (G i).2) ∧ okI (G i).1 ∧ okI (G i).2 := by
    have : ∀ i, ∃ p : Int × Int, i < len → ∃ blk off, a = some ⟨blk, off, none⟩ ∧ blk < w.heap.size ∧ w.cell? ⟨blk, off + i * 2, none⟩ = some (.int .i64 p.1) ∧ w.cell? ⟨blk, off + i * 2 + 1, none⟩ = some (.int .i64 p.2) ∧ okI p.1 ∧ okI p.2 := fun i => by
      by_cases hil : i < len
      · obtain ⟨blk, off, v0, v1, y0, y1, n, ha, hb, c0, c1, t0, t1⟩ := hi i hil
        obtain ⟨z0, e0, _, w0⟩ := DataW.trod_int h0 t0
        obtain ⟨z1, e1, _, w1⟩ := DataW.trod_int h1 t1
        have e0 : v0 = .int .i64 z0 := by simpa using e0
        have e1 : v1 = .int .i64 z1 := by simpa using e1
        subst e0 e1
        exact ⟨(z0, z1), fun _ => ⟨blk, off, ha, hb, c0, c1, w0, w1⟩⟩
      · exact ⟨(0, 0), fun h => absurd h hil⟩
    exact ⟨fun i => (this i).choose, fun i hil => (this i).choose_spec hil⟩
  obtain ⟨G, hG⟩ := hch
  refine ⟨_, (List.range len).map G, hcs, ⟨a, cap, by simp, fun i p hp => ?_⟩, fun p hp => ?_, by simpa using hm⟩
  · rw [List.getElem?_map] at hp
    have hil : i < len := by
      rcases Nat.lt_or_ge i len with h | h
      · exact h
      · rw [List.getElem?_eq_none (by simpa using h)] at hp; cases hp
    rw [List.getElem?_range hil] at hp
    have e : G i = p := by simpa using hp
    obtain ⟨blk, off, g1, g2, g3, g4, _⟩ := hG i hil
    rw [e] at g3 g4
    exact ⟨blk, off, g1, g2, g3, g4⟩
  · obtain ⟨i, hi2, rfl⟩ := List.mem_map.1 hp
    obtain ⟨_, _, _, _, _, _, g5⟩ := hG i (List.mem_range.1 hi2)
    exact g5

/-- A slice of steps: each a kind and a slice of pairs. -/
def Steps (w : World) (v : Value) (l : List (Int × List (Int × Int))) : Prop :=
  ∃ a cap, v = .slice a l.length cap ∧ ∀ (i : Nat) p, l[i]? = some p → ∃ blk off u, a = some ⟨blk, off, none⟩ ∧ blk < w.heap.size ∧ w.cell? ⟨blk, off + i * 2, none⟩ = some (.int .i64 p.1) ∧ w.cell? ⟨blk, off + i * 2 + 1, none⟩ = some u ∧ Pairs w u p.2

theorem Steps.frm {w w' : World} {v : Value} {l : List (Int × List (Int × Int))} (h : Steps w v l) (hf : Frm NoB w w') : Steps w' v l := by
  obtain ⟨a, cap, e, hc⟩ := h
  refine ⟨a, cap, e, fun i p hp => ?_⟩
  obtain ⟨blk, off, u, h1, h2, h3, h4, h5⟩ := hc i p hp
  exact ⟨blk, off, u, h1, Nat.lt_of_lt_of_le h2 hf.size, (hf.cell h2 (fun e => e)).trans h3, (hf.cell h2 (fun e => e)).trans h4, h5.frm hf⟩

/-- A slice of steps that came in. -/
theorem open_steps {t e t1 e1 : TypeId} {f0 f1 g0 g1 : Field} {fuel : Nat} {cs : List Value} {x : DataW H × List MemPlace} (ht : P.underlying t = some (.slice e)) (he : P.underlying e = some (.struct #[f0, f1])) (hone : oneCellFields P #[f0, f1] = true) (hC : P.cellsOf e = 2)
    (h0 : P.underlying f0.type = some (.int .i64)) (h1 : P.underlying f1.type = some (.slice e1)) (he1 : P.underlying e1 = some (.struct #[g0, g1])) (hone1 : oneCellFields P #[g0, g1] = true) (hC1 : P.cellsOf e1 = 2) (k0 : P.underlying g0.type = some (.int .i64)) (k1 : P.underlying g1.type = some (.int .i64))
    (h : DataW.trod enc P w base spare held fuel t cs = some x) :
    ∃ (v : Value) (l : List (Int × List (Int × Int))), cs = [v] ∧ Steps w v l ∧ (∀ p ∈ l, okI p.1 ∧ (∀ q ∈ p.2, okI q.1 ∧ okI q.2) ∧ p.2.length ≤ maxLen) ∧ l.length ≤ maxLen := by
  obtain ⟨a, len, cap, hcs, hm, hi⟩ := open_twos ht he hone hC h
  have hch : ∃ G : Nat → Int × List (Int × Int), ∀ i, i < len → ∃ blk off u, a = some ⟨blk, off, none⟩ ∧ blk < w.heap.size ∧ w.cell? ⟨blk, off + i * 2, none⟩ = some (.int .i64 (G i).1) ∧ w.cell? ⟨blk, off + i * 2 + 1, none⟩ = some u ∧ Pairs w u (G i).2 ∧ okI (G i).1 ∧ (∀ q ∈ (G i).2, okI q.1 ∧ okI q.2) ∧ (G i).2.length ≤ maxLen := by
    have : ∀ i, ∃ p : Int × List (Int × Int), i < len → ∃ blk off u, a = some ⟨blk, off, none⟩ ∧ blk < w.heap.size ∧ w.cell? ⟨blk, off + i * 2, none⟩ = some (.int .i64 p.1) ∧ w.cell? ⟨blk, off + i * 2 + 1, none⟩ = some u ∧ Pairs w u p.2 ∧ okI p.1 ∧ (∀ q ∈ p.2, okI q.1 ∧ okI q.2) ∧ p.2.length ≤ maxLen := fun i => by
      by_cases hil : i < len
      · obtain ⟨blk, off, v0, v1, y0, y1, n, ha, hb, c0, c1, t0, t1⟩ := hi i hil
        obtain ⟨z0, e0, _, w0⟩ := DataW.trod_int h0 t0
        have e0 : v0 = .int .i64 z0 := by simpa using e0
        subst e0
        obtain ⟨u, l, e1, hp, hok, hln⟩ := open_pairs h1 he1 hone1 hC1 k0 k1 t1
        have e1 : v1 = u := by simpa using e1
        subst e1
        exact ⟨(z0, l), fun _ => ⟨blk, off, _, ha, hb, c0, c1, hp, w0, hok, hln⟩⟩
      · exact ⟨(0, []), fun h => absurd h hil⟩
    exact ⟨fun i => (this i).choose, fun i hil => (this i).choose_spec hil⟩
  obtain ⟨G, hG⟩ := hch
  refine ⟨_, (List.range len).map G, hcs, ⟨a, cap, by simp, fun i p hp => ?_⟩, fun p hp => ?_, by simpa using hm⟩
  · rw [List.getElem?_map] at hp
    have hil : i < len := by
      rcases Nat.lt_or_ge i len with h | h
      · exact h
      · rw [List.getElem?_eq_none (by simpa using h)] at hp; cases hp
    rw [List.getElem?_range hil] at hp
    have e : G i = p := by simpa using hp
    obtain ⟨blk, off, u, g1, g2, g3, g4, g5, _⟩ := hG i hil
    rw [e] at g3 g5
    exact ⟨blk, off, u, g1, g2, g3, g4, g5⟩
  · obtain ⟨i, hi2, rfl⟩ := List.mem_map.1 hp
    obtain ⟨_, _, _, _, _, _, _, _, g6⟩ := hG i (List.mem_range.1 hi2)
    exact g6
end
end Go.Proofs.Ytkanfpmmgaipnaa
