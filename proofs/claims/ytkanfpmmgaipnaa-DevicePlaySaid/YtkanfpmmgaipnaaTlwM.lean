/-
  An argument that is a slice of the device's steps: what the frame of the statement tells of it.
-/
import Derived.Test.YtkanfpmmgaipnaaJlwF
import Derived.ChangeSlices
namespace Go.Proofs.Ytkanfpmmgaipnaa
set_option linter.unusedVariables false
open Go.ChangeMaps Go.MapKept Go.RowKit Go.Deep Go.ChangeShapes

abbrev Ply := Int × Int × Int × List Int

/-- A slice of steps: a kind, two numbers, picks. -/
def Plays (w : World) (v : Value) (l : List Ply) : Prop :=
  ∃ a cap, v = .slice a l.length cap ∧ ∀ (i : Nat) p, l[i]? = some p → ∃ blk off u, a = some ⟨blk, off, none⟩ ∧ blk < w.heap.size ∧ w.cell? ⟨blk, off + i * 4, none⟩ = some (.int .i64 p.1) ∧ w.cell? ⟨blk, off + i * 4 + 1, none⟩ = some (.int .i64 p.2.1) ∧ w.cell? ⟨blk, off + i * 4 + 2, none⟩ = some (.int .i64 p.2.2.1) ∧
    w.cell? ⟨blk, off + i * 4 + 3, none⟩ = some u ∧ Elems w u (p.2.2.2.map IntK)

theorem Plays.frm {w w' : World} {v : Value} {l : List Ply} (h : Plays w v l) (hf : Frm NoB w w') : Plays w' v l := by
  obtain ⟨a, cap, e, hc⟩ := h
  refine ⟨a, cap, e, fun i p hp => ?_⟩
  obtain ⟨blk, off, u, h1, h2, h3, h4, h5, h6, h7⟩ := hc i p hp
  exact ⟨blk, off, u, h1, Nat.lt_of_lt_of_le h2 hf.size, (hf.cell h2 (fun e => e)).trans h3, (hf.cell h2 (fun e => e)).trans h4, (hf.cell h2 (fun e => e)).trans h5, (hf.cell h2 (fun e => e)).trans h6, h7.frm hf⟩

section
variable {H : Type} {enc : TypeId × Value → H} {P : Program} {w : World} {base : Nat} {held : Bool}

theorem open_fours {t e : TypeId} {f0 f1 f2 f3 : Field} {fuel : Nat} {cs : List Value} {x : DataW H × List MemPlace} {spare : Nat → Bool} (ht : P.underlying t = some (.slice e)) (he : P.underlying e = some (.struct #[f0, f1, f2, f3])) (hone : oneCellFields P #[f0, f1, f2, f3] = true) (hC : P.cellsOf e = 4)
    (h : DataW.trod enc P w base spare held fuel t cs = some x) :
    ∃ (a : Option Addr) (len cap : Nat), cs = [.slice a len cap] ∧ len ≤ maxLen ∧ ∀ i, i < len → ∃ (blk off : Nat) (v0 v1 v2 v3 : Value) (y0 y1 y2 y3 : DataW H × List MemPlace) (n : Nat), a = some ⟨blk, off, none⟩ ∧ blk < w.heap.size ∧
      w.cell? ⟨blk, off + i * 4, none⟩ = some v0 ∧ w.cell? ⟨blk, off + i * 4 + 1, none⟩ = some v1 ∧ w.cell? ⟨blk, off + i * 4 + 2, none⟩ = some v2 ∧ w.cell? ⟨blk, off + i * 4 + 3, none⟩ = some v3 ∧
      DataW.trod enc P w base spare held n f0.type [v0] = some y0 ∧ DataW.trod enc P w base spare held n f1.type [v1] = some y1 ∧ DataW.trod enc P w base spare held n f2.type [v2] = some y2 ∧ DataW.trod enc P w base spare held n f3.type [v3] = some y3 := by
  rcases Go.Deep.open_slice ht h with ⟨rfl, _⟩ | ⟨a, len, cap, m, n, D, Pl, hcs, hb, hl, hm, hmm, hx, hi⟩
  · exact ⟨none, 0, 0, rfl, Nat.zero_le _, fun i hi => by omega⟩
  · refine ⟨some a, len, cap, hcs, by omega, fun i hil => ?_⟩
    have him : i < m := by rw [hmm]; split <;> omega
    obtain ⟨cs', hc, ht'⟩ := hi i him
    obtain ⟨ys, n', _, _, hlen, hyl, hf⟩ := DataW.trod_struct he ht'
    rw [hC] at hc
    obtain ⟨_, hcl, hat⟩ := World.cells?_some hc
    obtain ⟨o0, k0⟩ := hone_of hone 0 f0 rfl
    obtain ⟨o1, k1⟩ := hone_of hone 1 f1 rfl
    obtain ⟨o2, k2⟩ := hone_of hone 2 f2 rfl
    obtain ⟨o3, k3⟩ := hone_of hone 3 f3 rfl
    have g0 := hf 0 f0 rfl
    have g1 := hf 1 f1 rfl
    have g2 := hf 2 f2 rfl
    have g3 := hf 3 f3 rfl
    rw [o0, k0] at g0
    rw [o1, k1] at g1
    rw [o2, k2] at g2
    rw [o3, k3] at g3
    match cs', hcl with
    | [v0, v1, v2, v3], _ =>
      have c0 := hat 0 (by omega)
      have c1 := hat 1 (by omega)
      have c2 := hat 2 (by omega)
      have c3 := hat 3 (by omega)
      have hs2 : ys.length = 4 := hyl
      have e0 : ys[0]? = some (ys[0]'(by omega)) := List.getElem?_eq_getElem _
      have e1 : ys[1]? = some (ys[1]'(by omega)) := List.getElem?_eq_getElem _
      have e2 : ys[2]? = some (ys[2]'(by omega)) := List.getElem?_eq_getElem _
      have e3 : ys[3]? = some (ys[3]'(by omega)) := List.getElem?_eq_getElem _
      rw [show (a.add (i * 4)).add 0 = a.add (i * 4) from rfl] at c0
      have hpl : ∃ b o, a = ⟨b, o, none⟩ := by
        obtain ⟨cs0, hc0, _⟩ := hi 0 (by omega)
        rw [hC] at hc0
        obtain ⟨_, hcl0, hat0⟩ := World.cells?_some hc0
        have h00 := hat0 0 (by omega)
        rw [List.getElem?_eq_getElem (by omega)] at h00
        exact addr_plain (x := a) h00
      obtain ⟨b, o, rfl⟩ := hpl
      rw [addr_add] at c0 c1 c2 c3
      rw [addr_add] at c1 c2 c3
      exact ⟨b, o, v0, v1, v2, v3, _, _, _, _, n', rfl, World.block_lt_of_cell? w _ c0, c0, c1, c2, c3, g0.trans e0, g1.trans e1, g2.trans e2, g3.trans e3⟩

/-- What is told of one step. -/
def PlyAt (w : World) (a : Option Addr) (i : Nat) (p : Ply) : Prop :=
  ∃ blk off u, a = some ⟨blk, off, none⟩ ∧ blk < w.heap.size ∧ w.cell? ⟨blk, off + i * 4, none⟩ = some (.int .i64 p.1) ∧ w.cell? ⟨blk, off + i * 4 + 1, none⟩ = some (.int .i64 p.2.1) ∧ w.cell? ⟨blk, off + i * 4 + 2, none⟩ = some (.int .i64 p.2.2.1) ∧
    w.cell? ⟨blk, off + i * 4 + 3, none⟩ = some u ∧ Elems w u (p.2.2.2.map IntK)
def PlyOk (p : Ply) : Prop := okI p.1 ∧ okI p.2.1 ∧ okI p.2.2.1 ∧ (∀ x ∈ p.2.2.2, okI x) ∧ p.2.2.2.length ≤ maxLen

/-- A slice of steps that came in. -/
theorem open_plays {t e : TypeId} {f0 f1 f2 f3 : Field} {ei : TypeId} {fuel : Nat} {cs : List Value} {x : DataW H × List MemPlace} (ht : P.underlying t = some (.slice e)) (he : P.underlying e = some (.struct #[f0, f1, f2, f3])) (hone : oneCellFields P #[f0, f1, f2, f3] = true) (hC : P.cellsOf e = 4)
    (h0 : P.underlying f0.type = some (.int .i64)) (h1 : P.underlying f1.type = some (.int .i64)) (h2 : P.underlying f2.type = some (.int .i64)) (h3 : P.underlying f3.type = some (.slice ei)) (hi0 : P.underlying ei = some (.int .i64)) (hi1 : P.cellsOf ei = 1)
    (h : DataW.trod enc P w base (fun _ => true) held fuel t cs = some x) :
    ∃ (v : Value) (l : List Ply), cs = [v] ∧ Plays w v l ∧ (∀ p ∈ l, PlyOk p) ∧ l.length ≤ maxLen := by
  obtain ⟨a, len, cap, hcs, hm, hi⟩ := open_fours ht he hone hC h
  have hch : ∃ G : Nat → Ply, ∀ i, i < len → PlyAt w a i (G i) ∧ PlyOk (G i) := by
    have : ∀ i, ∃ p : Ply, i < len → PlyAt w a i p ∧ PlyOk p := fun i => by
      by_cases hil : i < len
      · obtain ⟨blk, off, v0, v1, v2, v3, y0, y1, y2, y3, n, ha, hb, c0, c1, c2, c3, t0, t1, t2, t3⟩ := hi i hil
        obtain ⟨z0, e0, _, w0⟩ := DataW.trod_int h0 t0
        obtain ⟨z1, e1, _, w1⟩ := DataW.trod_int h1 t1
        obtain ⟨z2, e2, _, w2⟩ := DataW.trod_int h2 t2
        have e0 : v0 = .int .i64 z0 := by simpa using e0
        have e1 : v1 = .int .i64 z1 := by simpa using e1
        have e2 : v2 = .int .i64 z2 := by simpa using e2
        subst e0 e1 e2
        rcases open_ints h3 hi0 hi1 t3 with ⟨hcs, _⟩ | ⟨y, ln, c, zs, hcs, _, hl, hmx, hz, _, hcell, hwz⟩
        · have e3 : v3 = .slice none 0 0 := by simpa using hcs
          subst e3
          exact ⟨(z0, z1, z2, []), fun _ => ⟨⟨blk, off, _, ha, hb, c0, c1, c2, c3, none, 0, rfl, fun i x hx => by simp at hx⟩, w0, w1, w2, (fun x hx => (by cases hx)), Nat.zero_le _⟩⟩
        · have e3 : v3 = .slice (some y) ln c := by simpa using hcs
          subst e3
          obtain ⟨l, hE, hok⟩ := elems_of_row (w := w) (a := some y) (len := ln) (cap := c) (zs := zs) (.inr ⟨_, rfl, hl, hmx, by simpa using hz, hcell, hwz⟩)
          have hln : l.length ≤ maxLen := by
            obtain ⟨a', c', e', _⟩ := hE
            injection e' with e1 e2 e3
            rw [List.length_map] at e2
            omega
          exact ⟨(z0, z1, z2, l), fun _ => ⟨⟨blk, off, _, ha, hb, c0, c1, c2, c3, hE⟩, w0, w1, w2, hok, hln⟩⟩
      · exact ⟨(0, 0, 0, []), fun h => absurd h hil⟩
    exact ⟨fun i => (this i).choose, fun i hil => (this i).choose_spec hil⟩
  obtain ⟨G, hG⟩ := hch
  refine ⟨_, (List.range len).map G, hcs, ⟨a, cap, by simp, fun i p hp => ?_⟩, fun p hp => ?_, by simpa using hm⟩
  · rw [List.getElem?_map] at hp
    have hil : i < len := by
      rcases Nat.lt_or_ge i len with h | h
      · exact h
      · rw [List.getElem?_eq_none (by simpa using h)] at hp; cases hp
    rw [List.getElem?_range hil] at hp
    have e : G i = p := by simpa using hp
    have := (hG i hil).1
    rw [e] at this
    exact this
  · obtain ⟨i, hi2, rfl⟩ := List.mem_map.1 hp
    exact (hG i (List.mem_range.1 hi2)).2
end
end Go.Proofs.Ytkanfpmmgaipnaa
