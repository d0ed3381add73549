/-
  What a device is, as plain data: blocks, what is pending, the ops, the cut.
-/
namespace Go.Proofs.Ytkanfpmmgaipnaa

abbrev Blk := List UInt8

/-- A block of noughts. -/
def zeros : Blk := List.replicate 512 0

/-- A device: its blocks as they were flushed, the writes of each since then, the ops that were called, and how many are still done (none: all). -/
structure DSt where
  n : Nat
  base : Nat → Blk
  pend : Nat → List Blk
  ops : Nat
  lim : Option Nat

structure DSt.Wf (D : DSt) : Prop where
  n : D.n ≤ 65536
  n1 : 1 ≤ D.n
  base : ∀ k, (D.base k).length = 512
  pend : ∀ k, ∀ b ∈ D.pend k, b.length = 512
  far : ∀ k, D.n ≤ k → D.pend k = []
  few : ∀ k, (D.pend k).length ≤ D.ops

def DSt.new (n : Nat) : DSt := { n := n, base := fun _ => zeros, pend := fun _ => [], ops := 0, lim := none }

def DSt.off (D : DSt) : Bool := D.lim == some 0

/-- An op has been called. -/
def DSt.op (D : DSt) : DSt := { D with ops := D.ops + 1, lim := D.lim.map (· - 1) }

def DSt.last (D : DSt) (k : Nat) : Blk := (D.pend k).getLastD (D.base k)

def DSt.may (D : DSt) (k : Int) (b : Blk) : Bool := decide (0 ≤ k ∧ k < D.n ∧ b.length = 512)

def DSt.put (D : DSt) (k : Nat) (b : Blk) : DSt := { D with pend := fun x => if x = k then D.pend k ++ [b] else D.pend x }

def DSt.write (D : DSt) (k : Int) (b : Blk) : DSt :=
  if D.off then D.op else if D.may k b then D.op.put k.toNat b else D.op

def DSt.writeE (D : DSt) (k : Int) (b : Blk) : Int := if D.off then 9 else if D.may k b then 0 else 1

def DSt.flushed (D : DSt) : DSt := { D with base := D.last, pend := fun _ => [] }

def DSt.flush (D : DSt) : DSt := if D.off then D.op else D.op.flushed

def DSt.flushE (D : DSt) : Int := if D.off then 9 else 0

def DSt.cut (D : DSt) (n : Int) : DSt := { D with lim := some n.toNat }

/-- How many blocks below k have pending writes. -/
def DSt.rank (D : DSt) (k : Nat) : Nat := ((List.range k).filter (fun j => !(D.pend j).isEmpty)).length

/-- Which write of block k is picked. -/
def DSt.pick (D : DSt) (picks : List Int) (k : Nat) : Nat := ((picks.getD (D.rank k) 0) % (((D.pend k).length : Int) + 1)).toNat

def DSt.crashBlk (D : DSt) (picks : List Int) (k : Nat) : Blk :=
  if D.pick picks k = 0 then D.base k else (D.pend k).getD (D.pick picks k - 1) (D.base k)

def DSt.crash (D : DSt) (picks : List Int) : DSt :=
  { n := D.n, base := fun k => if (D.pend k).isEmpty then D.base k else D.crashBlk picks k, pend := fun _ => [], ops := 0, lim := none }

theorem zeros_length : zeros.length = 512 := List.length_replicate

theorem DSt.new_wf {n : Nat} (h1 : 1 ≤ n) (h2 : n ≤ 65536) : (DSt.new n).Wf :=
  ⟨h2, h1, fun _ => zeros_length, fun _ _ h => by simp [DSt.new] at h, fun _ _ => rfl, fun _ => by simp [DSt.new]⟩

theorem DSt.op_wf {D : DSt} (h : D.Wf) : D.op.Wf := ⟨h.n, h.n1, h.base, h.pend, h.far, fun k => Nat.le_succ_of_le (h.few k)⟩

theorem DSt.last_length {D : DSt} (h : D.Wf) (k : Nat) : (D.last k).length = 512 := by
  unfold DSt.last
  cases hp : D.pend k with
  | nil => exact h.base k
  | cons a l =>
    have : (a :: l).getLastD (D.base k) ∈ D.pend k := by
      rw [hp]
      exact List.getLast_mem (l := a :: l) (by simp)
    exact h.pend k _ this

theorem DSt.put_wf {D : DSt} (h : D.Wf) {k : Nat} {b : Blk} (hk : k < D.n) (hb : b.length = 512) (hf : (D.pend k).length + 1 ≤ D.ops) : (D.put k b).Wf := by
  refine ⟨h.n, h.n1, h.base, ?_, ?_, ?_⟩
  · intro x c hc
    simp only [DSt.put] at hc
    split at hc
    · rcases List.mem_append.1 hc with hc | hc
      · exact h.pend k c hc
      · simp at hc; subst hc; exact hb
    · exact h.pend x c hc
  · intro x hx
    have hx' : D.n ≤ x := hx
    simp only [DSt.put]
    rw [if_neg (by omega)]
    exact h.far x hx
  · intro x
    simp only [DSt.put]
    split
    · simp; omega
    · exact h.few x

theorem DSt.write_wf {D : DSt} (h : D.Wf) (k : Int) (b : Blk) : (D.write k b).Wf := by
  unfold DSt.write
  split
  · exact DSt.op_wf h
  · split
    · rename_i hm
      simp only [DSt.may, decide_eq_true_eq] at hm
      have hlt : k.toNat < D.op.n := by show k.toNat < D.n; omega
      exact DSt.put_wf (DSt.op_wf h) hlt hm.2.2 (Nat.succ_le_succ (h.few _))
    · exact DSt.op_wf h

theorem DSt.flushed_wf {D : DSt} (h : D.Wf) : D.flushed.Wf :=
  ⟨h.n, h.n1, fun k => DSt.last_length h k, fun _ _ hb => by simp [DSt.flushed] at hb, fun _ _ => rfl, fun _ => Nat.zero_le _⟩

theorem DSt.flush_wf {D : DSt} (h : D.Wf) : D.flush.Wf := by
  unfold DSt.flush
  split
  · exact DSt.op_wf h
  · exact DSt.flushed_wf (DSt.op_wf h)

theorem DSt.cut_wf {D : DSt} (h : D.Wf) (n : Int) : (D.cut n).Wf := ⟨h.n, h.n1, h.base, h.pend, h.far, h.few⟩

theorem DSt.crashBlk_length {D : DSt} (h : D.Wf) (picks : List Int) (k : Nat) : (D.crashBlk picks k).length = 512 := by
  unfold DSt.crashBlk
  split
  · exact h.base k
  · rw [List.getD_eq_getElem?_getD]
    cases hx : (D.pend k)[D.pick picks k - 1]? with
    | none => exact h.base k
    | some b => exact h.pend k b (List.mem_of_getElem? hx)

theorem DSt.crash_wf {D : DSt} (h : D.Wf) (picks : List Int) : (D.crash picks).Wf := by
  refine ⟨h.n, h.n1, fun k => ?_, fun _ _ hb => by simp [DSt.crash] at hb, fun _ _ => rfl, fun _ => Nat.zero_le _⟩
  simp only [DSt.crash]
  split
  · exact h.base k
  · exact DSt.crashBlk_length h picks k
end Go.Proofs.Ytkanfpmmgaipnaa
