/-
  Arguments that are slices of triples of ints; a map of the homes that were met.
-/
import Derived.Test.YtkanfpmmgaipnaaClwF
import Derived.Test.YtkanfpmmgaipnaaJlwF
namespace Go.Proofs.Ytkanfpmmgaipnaa
set_option linter.unusedVariables false
open Go.ChangeMaps Go.MapKept Go.RowKit Go.Deep

/-- A slice of triples of ints. -/
def Trips (w : World) (v : Value) (l : List (Int × Int × Int)) : Prop :=
  ∃ a cap, v = .slice a l.length cap ∧ ∀ (i : Nat) p, l[i]? = some p → ∃ blk off, a = some ⟨blk, off, none⟩ ∧ blk < w.heap.size ∧ w.cell? ⟨blk, off + i * 3, none⟩ = some (.int .i64 p.1) ∧ w.cell? ⟨blk, off + i * 3 + 1, none⟩ = some (.int .i64 p.2.1) ∧ w.cell? ⟨blk, off + i * 3 + 2, none⟩ = some (.int .i64 p.2.2)

section
variable {H : Type} {enc : TypeId × Value → H} {P : Program} {w : World} {base : Nat} {spare : Nat → Bool} {held : Bool}

theorem open_threes {t e : TypeId} {f0 f1 f2 : Field} {fuel : Nat} {cs : List Value} {x : DataW H × List MemPlace} (ht : P.underlying t = some (.slice e)) (he : P.underlying e = some (.struct #[f0, f1, f2])) (hone : oneCellFields P #[f0, f1, f2] = true) (hC : P.cellsOf e = 3)
    (h : DataW.trod enc P w base spare held fuel t cs = some x) :
    ∃ (a : Option Addr) (len cap : Nat), cs = [.slice a len cap] ∧ len ≤ maxLen ∧ ∀ i, i < len → ∃ (blk off : Nat) (v0 v1 v2 : Value) (y0 y1 y2 : DataW H × List MemPlace) (n : Nat), a = some ⟨blk, off, none⟩ ∧ blk < w.heap.size ∧
      w.cell? ⟨blk, off + i * 3, none⟩ = some v0 ∧ w.cell? ⟨blk, off + i * 3 + 1, none⟩ = some v1 ∧ w.cell? ⟨blk, off + i * 3 + 2, none⟩ = some v2 ∧ DataW.trod enc P w base spare held n f0.type [v0] = some y0 ∧ DataW.trod enc P w base spare held n f1.type [v1] = some y1 ∧ DataW.trod enc P w base spare held n f2.type [v2] = some y2 := by
  rcases Go.Deep.open_slice ht h with ⟨rfl, _⟩ | ⟨a, len, cap, m, n, D, Pl, hcs, hb, hl, hm, hmm, hx, hi⟩
  · exact ⟨none, 0, 0, rfl, Nat.zero_le _, fun i hi => by omega⟩
  · refine ⟨some a, len, cap, hcs, by omega, fun i hil => ?_⟩
    have him : i < m := by rw [hmm]; split <;> omega
    obtain ⟨cs', hc, ht'⟩ := hi i him
    obtain ⟨ys, n', _, _, hlen, hyl, hf⟩ := DataW.trod_struct he ht'
    rw [hC] at hc
    obtain ⟨_, hcl, hat⟩ := World.cells?_some hc
    obtain ⟨o0, k0⟩ := hone_of hone 0 f0 rfl
    obtain ⟨o1, k1⟩ := hone_of hone 1 f1 rfl
    obtain ⟨o2, k2⟩ := hone_of hone 2 f2 rfl
    have g0 := hf 0 f0 rfl
    have g1 := hf 1 f1 rfl
    have g2 := hf 2 f2 rfl
    rw [o0, k0] at g0
    rw [o1, k1] at g1
    rw [o2, k2] at g2
    match cs', hcl with
    | [v0, v1, v2], _ =>
      have c0 := hat 0 (by omega)
      have c1 := hat 1 (by omega)
      have c2 := hat 2 (by omega)
      have hs2 : ys.length = 3 := hyl
      have e0 : ys[0]? = some (ys[0]'(by omega)) := List.getElem?_eq_getElem _
      have e1 : ys[1]? = some (ys[1]'(by omega)) := List.getElem?_eq_getElem _
      have e2 : ys[2]? = some (ys[2]'(by omega)) := List.getElem?_eq_getElem _
      rw [show (a.add (i * 3)).add 0 = a.add (i * 3) from rfl] at c0
      have hpl : ∃ b o, a = ⟨b, o, none⟩ := by
        obtain ⟨cs0, hc0, _⟩ := hi 0 (by omega)
        rw [hC] at hc0
        obtain ⟨_, hcl0, hat0⟩ := World.cells?_some hc0
        have h00 := hat0 0 (by omega)
        rw [List.getElem?_eq_getElem (by omega)] at h00
        exact addr_plain (x := a) h00
      obtain ⟨b, o, rfl⟩ := hpl
      rw [addr_add] at c0 c1 c2
      rw [addr_add] at c1 c2
      exact ⟨b, o, v0, v1, v2, _, _, _, n', rfl, World.block_lt_of_cell? w _ c0, c0, c1, c2, g0.trans e0, g1.trans e1, g2.trans e2⟩

/-- A slice of triples of ints that came in. -/
theorem open_trips {t e : TypeId} {f0 f1 f2 : Field} {fuel : Nat} {cs : List Value} {x : DataW H × List MemPlace} (ht : P.underlying t = some (.slice e)) (he : P.underlying e = some (.struct #[f0, f1, f2])) (hone : oneCellFields P #[f0, f1, f2] = true) (hC : P.cellsOf e = 3)
    (h0 : P.underlying f0.type = some (.int .i64)) (h1 : P.underlying f1.type = some (.int .i64)) (h2 : P.underlying f2.type = some (.int .i64)) (h : DataW.trod enc P w base spare held fuel t cs = some x) :
    ∃ (v : Value) (l : List (Int × Int × Int)), cs = [v] ∧ Trips w v l ∧ (∀ p ∈ l, okI p.1 ∧ okI p.2.1 ∧ okI p.2.2) ∧ l.length ≤ maxLen := by
  obtain ⟨a, len, cap, hcs, hm, hi⟩ := open_threes ht he hone hC h
  have hch : ∃ G : Nat → Int × Int × Int, ∀ i, i < len → ∃ blk off, a = some ⟨blk, off, none⟩ ∧ blk < w.heap.size ∧ w.cell? ⟨blk, off + i * 3, none⟩ = some (.int .i64 (G i).1) ∧ w.cell? ⟨blk, off + i * 3 + 1, none⟩ = some (.int .i64 (G i).2.1) ∧ w.cell? ⟨blk, off + i * 3 + 2, none⟩ = some (.int .i64 (G i).2.2) ∧ okI (G i).1 ∧ okI (G i).2.1 ∧ okI (G i).2.2 := by
    have : ∀ i, ∃ p : Int × Int × Int, i < len → ∃ blk off, a = some ⟨blk, off, none⟩ ∧ blk < w.heap.size ∧ w.cell? ⟨blk, off + i * 3, none⟩ = some (.int .i64 p.1) ∧ w.cell? ⟨blk, off + i * 3 + 1, none⟩ = some (.int .i64 p.2.1) ∧ w.cell? ⟨blk, off + i * 3 + 2, none⟩ = some (.int .i64 p.2.2) ∧ okI p.1 ∧ okI p.2.1 ∧ okI p.2.2 := fun i => by
      by_cases hil : i < len
      · obtain ⟨blk, off, v0, v1, v2, y0, y1, y2, n, ha, hb, c0, c1, c2, t0, t1, t2⟩ := hi i hil
        obtain ⟨z0, e0, _, w0⟩ := DataW.trod_int h0 t0
        obtain ⟨z1, e1, _, w1⟩ := DataW.trod_int h1 t1
        obtain ⟨z2, e2, _, w2⟩ := DataW.trod_int h2 t2
        have e0 : v0 = .int .i64 z0 := by simpa using e0
        have e1 : v1 = .int .i64 z1 := by simpa using e1
        have e2 : v2 = .int .i64 z2 := by simpa using e2
        subst e0 e1 e2
        exact ⟨(z0, z1, z2), fun _ => ⟨blk, off, ha, hb, c0, c1, c2, w0, w1, w2⟩⟩
      · exact ⟨(0, 0, 0), fun h => absurd h hil⟩
    exact ⟨fun i => (this i).choose, fun i hil => (this i).choose_spec hil⟩
  obtain ⟨G, hG⟩ := hch
  refine ⟨_, (List.range len).map G, hcs, ⟨a, cap, by simp, fun i p hp => ?_⟩, fun p hp => ?_, by simpa using hm⟩
  · rw [List.getElem?_map] at hp
    have hil : i < len := by
      rcases Nat.lt_or_ge i len with h | h
      · exact h
      · rw [List.getElem?_eq_none (by simpa using h)] at hp; cases hp
    rw [List.getElem?_range hil] at hp
    have e : G i = p := by simpa using hp
    obtain ⟨blk, off, g1, g2, g3, g4, g5, _⟩ := hG i hil
    rw [e] at g3 g4 g5
    exact ⟨blk, off, g1, g2, g3, g4, g5⟩
  · obtain ⟨i, hi2, rfl⟩ := List.mem_map.1 hp
    obtain ⟨_, _, _, _, _, _, _, g6⟩ := hG i (List.mem_range.1 hi2)
    exact g6
end

/-! ### The homes that were met, as a map -/

def mtR (mb : Nat) (wl : WrL) : Res where
  M := Only mb
  inv := fun _ w => ∃ F, MapAt IntK okI w mb wl.length F ∧ ∀ k, okI k → F k = if (look wl (245 + k)).isSome then some (.int .i64 1) else none
  lt := fun _ w H x hx => by obtain rfl : x = mb := hx; obtain ⟨F, h, _⟩ := H; exact h.lt
  dry := fun _ w H x hx c e => by
    obtain rfl : x = mb := hx
    obtain ⟨F, ⟨es, clock, h, _⟩, _⟩ := H
    exact notC_map h c e
  keep := fun _ w w' N H hf hd ha => by
    obtain ⟨F, h, hb⟩ := H
    exact ⟨F, h.of_block (hf.block mb h.lt (ha mb rfl)), hb⟩
  zone := fun _ _ _ H _ _ => H

section
variable {w0 : Gnd} {w : World} {rs : List Res}

theorem St.mtNew (h : St w0 w rs) : St w0 (w.alloc (.map #[] 0)) (mtR w.heap.size [] :: rs) :=
  h.make ((Frm.refl _ _).alloc _) (mtR w.heap.size []) ⟨_, MapAt.made w, fun k hk => rfl⟩ (fun x hx => by obtain rfl : x = w.heap.size := hx; exact Nat.le_refl _)

theorem St.mtLook (h : St w0 w rs) {i mb : Nat} {wl : WrL} (hr : rs[i]? = some (mtR mb wl)) {k : Int} (hk : okI k) {s : Bool} (hs : (look wl (245 + k)).isSome = s) (W : World) (hW : W.heap[mb]? = w.heap[mb]?) :
    (Instr.lookup 96 (.map (some mb)) (.int .i64 k) true).run Try.prog W = .ok (.tuple #[.int .i64 (if s then 1 else 0), .bool s]) W := by
  obtain ⟨F, hm, hf⟩ := h.get hr
  have := hm.lookup_ok kindInt Try.underlying96 hk zeroInt W hW
  rw [hf k hk, hs] at this
  rw [this]
  cases s <;> rfl

theorem St.mtLen (h : St w0 w rs) {i mb : Nat} {wl : WrL} (hr : rs[i]? = some (mtR mb wl)) (ty : TypeId) (W : World) (hW : W.heap[mb]? = w.heap[mb]?) :
    (Builtin.len_ #[96] ty #[.map (some mb)]).run Try.prog W = .ok (goInt wl.length) W := by
  obtain ⟨F, hm, hf⟩ := h.get hr
  exact hm.len Try.underlying96 ty W hW

theorem St.mtPut (h : St w0 w rs) (i : Nat) {mb : Nat} {wl : WrL} (hr : rs[i]? = some (mtR mb wl)) {k : Int} (hk : okI k) (b : Blk) :
    ∃ o, (Instr.mapUpdate 96 (.map (some mb)) (.int .i64 k) (.int .i64 1)).run Try.prog w = .ok () (setBlock w mb o) ∧ St w0 (setBlock w mb o) (rs.set i (mtR mb (putW wl (245 + k) b))) := by
  obtain ⟨F, hm, hf⟩ := h.get hr
  obtain ⟨o, q1, q2⟩ := hm.update kindInt Try.underlying96 hk (.int .i64 1)
  refine ⟨o, q1 w rfl, h.write i hr ((Frm.refl (Only mb) w).setBlock (.inl rfl) o) (mtR mb (putW wl (245 + k) b)) ⟨upd F k (some (.int .i64 1)), ?_, fun x hx => ?_⟩ (fun _ hx => .inl hx)⟩
  · have h2 := q2 w hm.lt
    rw [put_length]
    rw [hf k hk] at h2
    have e : (if (look wl (245 + k)).isSome then some (Value.int .i64 1) else none).isSome = (look wl (245 + k)).isSome := by
      cases (look wl (245 + k)).isSome <;> rfl
    rw [e] at h2
    exact h2
  · unfold upd
    by_cases e : x = k
    · subst e; rw [if_pos rfl, look_put_same]; rfl
    · rw [if_neg e, hf x hx, look_put_other _ _ (by omega)]
end
end Go.Proofs.Ytkanfpmmgaipnaa
