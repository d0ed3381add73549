/-
  What a call holds in memory, object by object: each in blocks of its own, none of which was there when the call began.
-/
import Derived.Test.YtkanfpmmgaipnaaDevL
namespace Go.Proofs.Ytkanfpmmgaipnaa
set_option linter.unusedVariables false
open Go.ChangeMaps Go.MapKept Go.RowKit

/-- An object: the blocks that it may write, and what holds of it. -/
structure Res where
  M : Nat → Prop
  inv : World → Prop
  lt : ∀ w, inv w → ∀ x, M x → x < w.heap.size
  dry : ∀ w, inv w → ∀ x, M x → ∀ c, w.heap[x]? ≠ some (.cells c 5 (0, 0))
  keep : ∀ w w' N, inv w → Frm N w w' → Dry w N → (∀ x, M x → ¬ N x) → inv w'

/-- What was there when the call began is as it was; each object holds; none shares a block with another. -/
structure St (w0 w : World) (rs : List Res) : Prop where
  base : Frm NoB w0 w
  inv : ∀ r ∈ rs, r.inv w
  new : ∀ r ∈ rs, ∀ x, r.M x → w0.heap.size ≤ x
  apart : rs.Pairwise (fun a b => ∀ x, a.M x → ¬ b.M x)

theorem St.start (w : World) : St w w [] := ⟨Frm.refl _ _, fun _ h => (by cases h), fun _ h => (by cases h), List.Pairwise.nil⟩

theorem St.get {w0 w : World} {rs : List Res} (h : St w0 w rs) {i : Nat} {r : Res} (hr : rs[i]? = some r) : r.inv w := h.inv r (List.mem_of_getElem? hr)

theorem St.frm0 {w0 w w' : World} {rs : List Res} (h : St w0 w rs) (hf : Frm NoB w w') : St w0 w' rs :=
  ⟨h.base.trans hf (fun _ _ e => e), fun r hr => r.keep w w' NoB (h.inv r hr) hf (Dry.none w) (fun _ _ e => e), h.new, h.apart⟩

theorem St.make {w0 w w' : World} {rs : List Res} (h : St w0 w rs) (hf : Frm NoB w w') (r : Res) (hi : r.inv w') (hn : ∀ x, r.M x → w.heap.size ≤ x) : St w0 w' (r :: rs) := by
  have h1 := h.frm0 hf
  refine ⟨h1.base, fun a ha => ?_, fun a ha => ?_, List.pairwise_cons.2 ⟨fun b hb x hx hbx => ?_, h1.apart⟩⟩
  · rcases List.mem_cons.1 ha with rfl | ha
    · exact hi
    · exact h1.inv a ha
  · rcases List.mem_cons.1 ha with rfl | ha
    · exact fun x hx => Nat.le_trans h.base.size (hn x hx)
    · exact h1.new a ha
  · have := b.lt w (h.inv b hb) x hbx
    have := hn x hx
    omega

theorem St.write {w0 w w' : World} {rs : List Res} (h : St w0 w rs) (i : Nat) {r : Res} (hr : rs[i]? = some r) (hf : Frm r.M w w') (r' : Res) (hi : r'.inv w') (hM : ∀ x, r'.M x → r.M x ∨ w.heap.size ≤ x) : St w0 w' (rs.set i r') := by
  have hmem := List.mem_of_getElem? hr
  obtain ⟨hi1, hi2⟩ := List.getElem?_eq_some_iff.1 hr
  have hoth : ∀ (j : Nat) (hj : j < rs.length), j ≠ i → ∀ x, rs[j].M x → ¬ r.M x := fun j hj hne x hx hrx => by
    have hp := List.pairwise_iff_getElem.1 h.apart
    rcases Nat.lt_or_gt_of_ne hne with hlt | hlt
    · exact hp j i hj hi1 hlt x hx (hi2 ▸ hrx)
    · exact hp i j hi1 hj hlt x (hi2 ▸ hrx) hx
  have hbig : ∀ (j : Nat) (hj : j < rs.length) x, rs[j].M x → x < w.heap.size := fun j hj x hx => rs[j].lt w (h.inv _ (List.getElem_mem hj)) x hx
  refine ⟨h.base.trans hf (fun x hx hM => by have := h.new r hmem x hM; omega), fun a ha => ?_, fun a ha x hx => ?_, ?_⟩
  · obtain ⟨j, hj, rfl⟩ := List.getElem_of_mem ha
    rw [List.length_set] at hj
    rw [List.getElem_set]
    split
    · exact hi
    · rename_i hne
      exact rs[j].keep w w' r.M (h.inv _ (List.getElem_mem hj)) hf (fun x _ hx => r.dry w (h.inv r hmem) x hx) (hoth j hj (Ne.symm hne))
  · obtain ⟨j, hj, rfl⟩ := List.getElem_of_mem ha
    rw [List.length_set] at hj
    rw [List.getElem_set] at hx
    split at hx
    · rcases hM x hx with h1 | h1
      · exact h.new r hmem x h1
      · exact Nat.le_trans h.base.size h1
    · exact h.new _ (List.getElem_mem hj) x hx
  · rw [List.pairwise_iff_getElem]
    intro j k hj hk hjk x hx hkx
    rw [List.length_set] at hj hk
    rw [List.getElem_set] at hx hkx
    split at hx
    · split at hkx
      · omega
      · rename_i e hne
        rcases hM x hx with h1 | h1
        · exact hoth k hk (Ne.symm hne) x hkx h1
        · have := hbig k hk x hkx; omega
    · rename_i hne
      split at hkx
      · rcases hM x hkx with h1 | h1
        · exact hoth j hj (Ne.symm hne) x hx h1
        · have := hbig j hj x hx; omega
      · exact List.pairwise_iff_getElem.1 h.apart j k hj hk hjk x hx hkx

theorem St.sub {w0 w : World} {rs rs' : List Res} (h : St w0 w rs) (hs : rs'.Sublist rs) : St w0 w rs' :=
  ⟨h.base, fun r hr => h.inv r (hs.subset hr), fun r hr => h.new r (hs.subset hr), h.apart.sublist hs⟩

theorem St.drop {w0 w : World} {rs : List Res} (h : St w0 w rs) (n : Nat) : St w0 w (rs.drop n) := h.sub (List.drop_sublist n rs)

/-- The objects that stand at some places, in this order (each place once). -/
theorem St.pick {w0 w : World} {rs : List Res} (h : St w0 w rs) (is : List Nat) (rs' : List Res) (hn : is.Nodup) (hr : is.map (rs[·]?) = rs'.map some) : St w0 w rs' := by
  have hlen : is.length = rs'.length := by have := congrArg List.length hr; simpa using this
  have hget : ∀ (j : Nat) (hj : j < rs'.length), rs[is[j]'(by omega)]? = some rs'[j] := fun j hj => by
    have := congrArg (fun l => l[j]?) hr
    simp only [List.getElem?_map] at this
    rw [List.getElem?_eq_getElem (by omega), List.getElem?_eq_getElem hj] at this
    simpa using this
  have hmem : ∀ r ∈ rs', r ∈ rs := fun r hr => by
    obtain ⟨j, hj, rfl⟩ := List.getElem_of_mem hr
    exact List.mem_of_getElem? (hget j hj)
  refine ⟨h.base, fun r hr => h.inv r (hmem r hr), fun r hr => h.new r (hmem r hr), ?_⟩
  rw [List.pairwise_iff_getElem]
  intro j k hj hk hjk x hx hkx
  obtain ⟨a1, a2⟩ := List.getElem?_eq_some_iff.1 (hget j hj)
  obtain ⟨b1, b2⟩ := List.getElem?_eq_some_iff.1 (hget k hk)
  have hne : is[j]'(by omega) ≠ is[k]'(by omega) := List.pairwise_iff_getElem.1 hn j k (by omega) (by omega) hjk
  have hp := List.pairwise_iff_getElem.1 h.apart
  rcases Nat.lt_or_gt_of_ne hne with hlt | hlt
  · exact hp _ _ a1 b1 hlt x (a2 ▸ hx) (b2 ▸ hkx)
  · exact hp _ _ b1 a1 hlt x (b2 ▸ hkx) (a2 ▸ hx)

/-! ### The device and bytes as objects -/

def dev (h : Hdl) (D : DSt) : Res where
  M := h.M
  inv := fun w => DevIn w h D
  lt := fun w H x hx => by
    obtain ⟨_, ⟨left, hb, _⟩, ⟨nf, f, Mf, _⟩, ⟨ng, g, Mg, _⟩, ⟨nm, m, Mm, _⟩, _⟩ := H
    rcases hx with rfl | rfl | rfl | rfl
    · exact lt_of_block hb
    · exact Mf.lt
    · exact Mg.lt
    · exact Mm.lt
  dry := fun w H x hx => H.noBytes x hx
  keep := fun w w' N H hf hd ha => H.frm hf hd (fun x hn hx => ha x hx hn)

def byt (v : Value) (bs : List UInt8) : Res where
  M := NoB
  inv := fun w => BytesAt w v bs AnyB
  lt := fun _ _ _ h => h.elim
  dry := fun _ _ _ h => h.elim
  keep := fun w w' N H hf hd _ => H.of_block fun x c _ hc => hf.block x (lt_of_block hc) (fun hN => hd x (lt_of_block hc) hN c hc)

/-- A block of cells that are no bytes. -/
def arr (b : Nat) (c : Array Value) (t : TypeId) (ht : t ≠ 5) : Res where
  M := Only b
  inv := fun w => w.heap[b]? = some (.cells c t (0, 0))
  lt := fun w H x hx => by obtain rfl : x = b := hx; exact lt_of_block H
  dry := fun w H x hx c' e => by
    obtain rfl : x = b := hx
    rw [H] at e
    simp only [Option.some.injEq, Obj.cells.injEq] at e
    exact ht e.2.1
  keep := fun w w' N H hf _ ha => (hf.block b (lt_of_block H) (ha b rfl)).trans H

theorem St.newArr {w0 w : World} {rs : List Res} (h : St w0 w rs) (c : Array Value) (t : TypeId) (ht : t ≠ 5) : St w0 (w.alloc (.cells c t (0, 0))) (arr w.heap.size c t ht :: rs) :=
  h.make ((Frm.refl _ _).alloc _) (arr w.heap.size c t ht) (block_alloc_new _ _) (fun x hx => by obtain rfl : x = w.heap.size := hx; exact Nat.le_refl _)

theorem St.setArr {w0 w : World} {rs : List Res} (h : St w0 w rs) (i : Nat) {b : Nat} {c : Array Value} {t : TypeId} {ht : t ≠ 5} (hr : rs[i]? = some (arr b c t ht)) (j : Nat) (v : Value) :
    St w0 (w.setCell ⟨b, j, none⟩ v) (rs.set i (arr b (c.setIfInBounds j v) t ht)) :=
  h.write i hr ((Frm.refl (Only b) w).setOnly v) (arr b _ t ht) (block_setCell_same v (h.get hr)) (fun _ hx => .inl hx)

theorem St.arrCell {w0 w : World} {rs : List Res} (h : St w0 w rs) {i : Nat} {b : Nat} {c : Array Value} {t : TypeId} {ht : t ≠ 5} (hr : rs[i]? = some (arr b c t ht)) (j : Nat) : w.cell? ⟨b, j, none⟩ = c[j]? :=
  cell_of_block (h.get hr)

theorem St.arrFree {w0 w : World} {rs : List Res} (h : St w0 w rs) {i : Nat} {b : Nat} {c : Array Value} {t : TypeId} {ht : t ≠ 5} (hr : rs[i]? = some (arr b c t ht)) (j : Nat) : w.frozen? ⟨b, j, none⟩ = false :=
  frozen_of_block (h.get hr)

/-- A block of cells, the first m of which are slices of bytes. -/
def bArr (b : Nat) (c : Array Value) (t : TypeId) (ht : t ≠ 5) (m : Nat) (bs : Nat → Blk) : Res where
  M := Only b
  inv := fun w => w.heap[b]? = some (.cells c t (0, 0)) ∧ ∀ j, j < m → ∃ v, c[j]? = some v ∧ BytesAt w v (bs j) AnyB
  lt := fun w H x hx => by obtain rfl : x = b := hx; exact lt_of_block H.1
  dry := fun w H x hx c' e => by
    obtain rfl : x = b := hx
    rw [H.1] at e
    simp only [Option.some.injEq, Obj.cells.injEq] at e
    exact ht e.2.1
  keep := fun w w' N H hf hd ha => ⟨(hf.block b (lt_of_block H.1) (ha b rfl)).trans H.1, fun j hj => by
    obtain ⟨v, hv, hb⟩ := H.2 j hj
    exact ⟨v, hv, hb.of_block fun x c _ hc => hf.block x (lt_of_block hc) (fun hN => hd x (lt_of_block hc) hN c hc)⟩⟩

theorem St.newBArr {w0 w : World} {rs : List Res} (h : St w0 w rs) (c : Array Value) (t : TypeId) (ht : t ≠ 5) (bs : Nat → Blk) : St w0 (w.alloc (.cells c t (0, 0))) (bArr w.heap.size c t ht 0 bs :: rs) :=
  h.make ((Frm.refl _ _).alloc _) (bArr w.heap.size c t ht 0 bs) ⟨block_alloc_new _ _, fun _ h => by omega⟩ (fun x hx => by obtain rfl : x = w.heap.size := hx; exact Nat.le_refl _)

/-- The next slice of bytes is laid. -/
theorem St.setBArr {w0 w : World} {rs : List Res} (h : St w0 w rs) (i k : Nat) {b : Nat} {c : Array Value} {t : TypeId} {ht : t ≠ 5} {m : Nat} {bs : Nat → Blk} (hr : rs[i]? = some (bArr b c t ht m bs)) (hm : m < c.size) {v : Value} {x : Blk}
    (hv : rs[k]? = some (byt v x)) (hx : x = bs m) : St w0 (w.setCell ⟨b, m, none⟩ v) (rs.set i (bArr b (c.setIfInBounds m v) t ht (m + 1) bs)) := by
  have hi := h.get hr
  have hb := h.get hv
  have hf : Frm (Only b) w (w.setCell ⟨b, m, none⟩ v) := (Frm.refl (Only b) w).setOnly v
  have hk : ∀ u y, BytesAt w u y AnyB → BytesAt (w.setCell ⟨b, m, none⟩ v) u y AnyB := fun u y hu => hu.frmB hf (fun z hz c' e => by
    obtain rfl : z = b := hz
    rw [hi.1] at e
    simp only [Option.some.injEq, Obj.cells.injEq] at e
    exact ht e.2.1)
  refine h.write i hr hf (bArr b _ t ht (m + 1) bs) ⟨block_setCell_same v hi.1, fun j hj => ?_⟩ (fun _ hx => .inl hx)
  by_cases hjm : j = m
  · subst hjm
    exact ⟨v, Array.getElem?_setIfInBounds_self_of_lt hm, hk _ _ (hx ▸ hb)⟩
  · obtain ⟨u, hu, hbu⟩ := hi.2 j (by omega)
    exact ⟨u, by rw [Array.getElem?_setIfInBounds_ne (Ne.symm hjm)]; exact hu, hk _ _ hbu⟩

theorem St.bArrCell {w0 w : World} {rs : List Res} (h : St w0 w rs) {i : Nat} {b : Nat} {c : Array Value} {t : TypeId} {ht : t ≠ 5} {m : Nat} {bs : Nat → Blk} (hr : rs[i]? = some (bArr b c t ht m bs)) (j : Nat) : w.cell? ⟨b, j, none⟩ = c[j]? :=
  cell_of_block (h.get hr).1

theorem St.bArrFree {w0 w : World} {rs : List Res} (h : St w0 w rs) {i : Nat} {b : Nat} {c : Array Value} {t : TypeId} {ht : t ≠ 5} {m : Nat} {bs : Nat → Blk} (hr : rs[i]? = some (bArr b c t ht m bs)) (j : Nat) : w.frozen? ⟨b, j, none⟩ = false :=
  frozen_of_block (h.get hr).1

/-- One of the slices that were laid, as an object of its own. -/
theorem St.getBArr {w0 w : World} {rs : List Res} (h : St w0 w rs) {i : Nat} {b : Nat} {c : Array Value} {t : TypeId} {ht : t ≠ 5} {m : Nat} {bs : Nat → Blk} (hr : rs[i]? = some (bArr b c t ht m bs)) (j : Nat) (hj : j < m) :
    ∃ v, w.cell? ⟨b, j, none⟩ = some v ∧ St w0 w (byt v (bs j) :: rs) := by
  obtain ⟨v, hv, hb⟩ := (h.get hr).2 j hj
  exact ⟨v, (cell_of_block (h.get hr).1).trans hv, h.make (Frm.refl _ _) (byt v _) hb (fun _ h => h.elim)⟩

/-- A slice of ints that came in, as the frames of the statements tell of it. -/
theorem elems_of_row {w : World} {a : Option Addr} {len cap : Nat} {zs : List Int}
    (h : (a = none ∧ len = 0 ∧ cap = 0 ∧ zs = []) ∨ ∃ x, a = some x ∧ len ≤ cap ∧ cap ≤ maxLen ∧ zs.length = cap ∧ (∀ i, i < zs.length → w.cell? (x.add i) = some (.int .i64 (zs.getD i 0))) ∧ ∀ n ∈ zs, (Lit.int .i64 n).wf = true) :
    ∃ l : List Int, Elems w (.slice a len cap) (l.map IntK) ∧ (∀ x ∈ l, okI x) := by
  rcases h with ⟨rfl, rfl, rfl, rfl⟩ | ⟨x, rfl, h1, h2, h3, h4, h5⟩
  · exact ⟨[], ⟨none, 0, rfl, fun i x hx => by simp at hx⟩, fun x hx => by cases hx⟩
  · refine ⟨zs.take len, ⟨some x, cap, by rw [List.length_map, List.length_take, Nat.min_eq_left (by omega)], fun i v hv => ?_⟩, fun y hy => h5 y (List.mem_of_mem_take hy)⟩
    rw [List.getElem?_map] at hv
    have hi : i < len := by
      rcases Nat.lt_or_ge i len with h | h
      · exact h
      · rw [List.getElem?_eq_none (by rw [List.length_take]; omega)] at hv; cases hv
    rw [List.getElem?_take, if_pos hi, List.getElem?_eq_getElem (by omega)] at hv
    have hz : v = IntK (zs[i]'(by omega)) := by simpa using hv.symm
    have h40 := h4 0 (by omega)
    have h4i := h4 i (by omega)
    rw [List.getD_eq_getElem?_getD, List.getElem?_eq_getElem (by omega)] at h4i
    obtain ⟨blk, off, spot⟩ := x
    have hs : spot = none := by
      cases spot with
      | none => rfl
      | some s =>
        simp only [Addr.add, if_pos] at h40
        unfold World.cell? at h40
        split at h40
        · simp at h40
        · cases h40
    subst hs
    have hadd : (⟨blk, off, none⟩ : Addr).add i = ⟨blk, off + i, none⟩ := by
      unfold Addr.add
      split
      · rename_i h0; subst h0; rfl
      · rfl
    rw [hadd] at h4i
    refine ⟨blk, off, rfl, ?_, by rw [hz]; exact h4i⟩
    exact World.block_lt_of_cell? w _ h4i

/-- Behind writes of whole blocks of one byte, to places by numbers, one behind the other. -/
def wrs (n : Int) (g : Nat → Int) : DSt → Nat → List Int → DSt
  | D, _, [] => D
  | D, i, x :: r => wrs n g (D.op.put (x % n).toNat (blockOf (g i))) (i + 1) r

theorem wrs_snoc (n : Int) (g : Nat → Int) : ∀ (l : List Int) (D : DSt) (i : Nat) (x : Int), wrs n g D i (l ++ [x]) = (wrs n g D i l).op.put (x % n).toNat (blockOf (g (i + l.length)))
  | [], D, i, x => rfl
  | y :: r, D, i, x => by
    have := wrs_snoc n g r (D.op.put (y % n).toNat (blockOf (g i))) (i + 1) x
    rw [show i + (y :: r).length = i + 1 + r.length from by simp; omega]
    exact this

theorem wrs_take (n : Int) (g : Nat → Int) (D : DSt) (l : List Int) (i : Nat) (x : Int) (h : l[i]? = some x) : wrs n g D 0 (l.take (i + 1)) = (wrs n g D 0 (l.take i)).op.put (x % n).toNat (blockOf (g i)) := by
  obtain ⟨h1, h2⟩ := List.getElem?_eq_some_iff.1 h
  rw [List.take_succ_eq_append_getElem h1, h2, wrs_snoc, List.length_take, Nat.min_eq_left (by omega), Nat.zero_add]

theorem wrs_n (n : Int) (g : Nat → Int) : ∀ (l : List Int) (D : DSt) (i : Nat), (wrs n g D i l).n = D.n
  | [], _, _ => rfl
  | _ :: r, D, i => (wrs_n n g r _ _).trans rfl

theorem wrs_ops (n : Int) (g : Nat → Int) : ∀ (l : List Int) (D : DSt) (i : Nat), (wrs n g D i l).ops = D.ops + l.length
  | [], _, _ => rfl
  | x :: r, D, i => by
    rw [show wrs n g D i (x :: r) = wrs n g (D.op.put (x % n).toNat (blockOf (g i))) (i + 1) r from rfl, wrs_ops n g r]
    show D.ops + 1 + r.length = _
    simp; omega

theorem wrs_lim (n : Int) (g : Nat → Int) : ∀ (l : List Int) (D : DSt) (i : Nat), D.lim = none → (wrs n g D i l).lim = none
  | [], _, _, h => h
  | x :: r, D, i, h => wrs_lim n g r _ _ (by show D.lim.map (· - 1) = none; rw [h]; rfl)

theorem wrs_base (n : Int) (g : Nat → Int) : ∀ (l : List Int) (D : DSt) (i : Nat), (wrs n g D i l).base = D.base
  | [], _, _ => rfl
  | _ :: r, D, i => (wrs_base n g r _ _).trans rfl

theorem off_of_lim {D : DSt} (h : D.lim = none) : D.off = false := by unfold DSt.off; rw [h]; rfl

theorem last_put_same (D : DSt) (k : Nat) (b : Blk) : (D.put k b).last k = b := by simp [DSt.last, DSt.put]
theorem last_put_other (D : DSt) {k j : Nat} (b : Blk) (h : j ≠ k) : (D.put k b).last j = D.last j := by simp [DSt.last, DSt.put, h]
theorem last_op (D : DSt) : D.op.last = D.last := rfl
theorem last_flushed (D : DSt) (k : Nat) : D.flushed.last k = D.last k := rfl
theorem last_crash (D : DSt) (picks : List Int) (k : Nat) : (D.crash picks).last k = (D.crash picks).base k := rfl
theorem crash_nil (D : DSt) (k : Nat) : (D.crash []).last k = D.base k := by
  show (if (D.pend k).isEmpty then D.base k else D.crashBlk [] k) = D.base k
  have : D.crashBlk [] k = D.base k := by
    unfold DSt.crashBlk DSt.pick
    simp
  rw [this]; split <;> rfl
theorem last_of_clean (D : DSt) (k : Nat) (h : D.pend k = []) : D.last k = D.base k := by unfold DSt.last; rw [h]; rfl
theorem crash_clean (D : DSt) (picks : List Int) (k : Nat) (h : D.pend k = []) : (D.crash picks).last k = D.base k := by
  show (if (D.pend k).isEmpty then D.base k else D.crashBlk picks k) = D.base k
  rw [h]; rfl

section
variable {w0 w : World} {rs : List Res}

theorem S_New (h : St w0 w rs) (n : Int) (h1 : 1 ≤ n) (h2 : n ≤ 65536) :
    Calls Try.prog 29 #[.int .i64 n] w fun e w' => ∃ H : Hdl, e = .returned (.tuple #[.pointer (some ⟨H.b, 0, none⟩), .int .i64 0]) ∧ St w0 w' (dev H (DSt.new n.toNat) :: rs) :=
  (New_in w n h1 h2).mono fun _ _ ⟨v, a, hf, H, b, hd, hm⟩ => ⟨H, by rw [a, b], h.make hf (dev H _) hd hm⟩

theorem S_Block (h : St w0 w rs) (c : Int) : Calls Try.prog 32 #[.int .i64 c] w fun e w' => ∃ v, e = .returned v ∧ St w0 w' (byt v (blockOf c) :: rs) :=
  (Block_in w c).mono fun _ _ ⟨v, a, hb, hf⟩ => ⟨v, a, h.make hf (byt v _) hb (fun _ h => h.elim)⟩

theorem S_Write (h : St w0 w rs) (i j : Nat) {H : Hdl} {D : DSt} {v : Value} {bs : Blk} (hr : rs[i]? = some (dev H D)) (hv : rs[j]? = some (byt v bs)) (k : Int) (ho : D.ops < 4611686018427387904) (hoff : D.off = false) (h0 : 0 ≤ k) (hk : k < D.n) (hbs : bs.length = 512) :
    Calls Try.prog 31 #[.pointer (some ⟨H.b, 0, none⟩), .int .i64 k, v] w fun e w' => e = .returned (.int .i64 0) ∧ St w0 w' (rs.set i (dev H (D.op.put k.toNat bs))) :=
  (Write_in w H D (h.get hr) ho hoff k v bs AnyB h0 hk hbs (h.get hv)).mono fun _ _ ⟨a, hd, hf⟩ => ⟨a, h.write i hr hf (dev H _) hd (fun _ h => .inl h)⟩

theorem S_WriteOff (h : St w0 w rs) (i : Nat) {H : Hdl} {D : DSt} (hr : rs[i]? = some (dev H D)) (k : Int) (v : Value) (ho : D.ops < 4611686018427387904) (hoff : D.off = true) :
    Calls Try.prog 31 #[.pointer (some ⟨H.b, 0, none⟩), .int .i64 k, v] w fun e w' => e = .returned (.int .i64 9) ∧ St w0 w' (rs.set i (dev H D.op)) :=
  (Write_off w H D AnyB (h.get hr) ho hoff k v).mono fun _ _ ⟨a, hd, hf⟩ => ⟨a, h.write i hr hf (dev H _) hd (fun _ h => .inl h)⟩

theorem S_Flush (h : St w0 w rs) (i : Nat) {H : Hdl} {D : DSt} (hr : rs[i]? = some (dev H D)) (ho : D.ops < 4611686018427387903) (hoff : D.off = false) :
    Calls Try.prog 33 #[.pointer (some ⟨H.b, 0, none⟩)] w fun e w' => e = .returned (.int .i64 0) ∧ St w0 w' (rs.set i (dev H D.op.flushed)) :=
  (Flush_in w H D (h.get hr) ho hoff).mono fun _ _ ⟨a, hd, hf⟩ => ⟨a, h.write i hr hf (dev H _) hd (fun _ h => .inl h)⟩

theorem S_FlushOff (h : St w0 w rs) (i : Nat) {H : Hdl} {D : DSt} (hr : rs[i]? = some (dev H D)) (ho : D.ops < 4611686018427387904) (hoff : D.off = true) :
    Calls Try.prog 33 #[.pointer (some ⟨H.b, 0, none⟩)] w fun e w' => e = .returned (.int .i64 9) ∧ St w0 w' (rs.set i (dev H D.op)) :=
  (Flush_off w H D AnyB (h.get hr) ho hoff).mono fun _ _ ⟨a, hd, hf⟩ => ⟨a, h.write i hr hf (dev H _) hd (fun _ h => .inl h)⟩

theorem S_Cut (h : St w0 w rs) (i : Nat) {H : Hdl} {D : DSt} (hr : rs[i]? = some (dev H D)) (n : Int) (hn : okI n) :
    Calls Try.prog 38 #[.pointer (some ⟨H.b, 0, none⟩), .int .i64 n] w fun e w' => e = .returned (.tuple #[]) ∧ St w0 w' (rs.set i (dev H (D.cut n))) :=
  (Cut_any w H D AnyB (h.get hr) n hn).mono fun _ _ ⟨a, hd, hf⟩ =>
    ⟨a, h.write i hr (hf.mono (N := H.M) (fun x _ e => by obtain rfl : x = H.b := e; exact H.Mb)) (dev H _) hd (fun _ h => .inl h)⟩

theorem S_Crash (h : St w0 w rs) (i : Nat) {H : Hdl} {D : DSt} (hr : rs[i]? = some (dev H D)) (ho : D.ops < 4611686018427387904) (vp : Value) (picks : List Int) (hvp : Elems w vp (picks.map IntK)) (hpk : ∀ p ∈ picks, okI p)
    (hpl : picks.length < 4611686018427387904) :
    Calls Try.prog 34 #[.pointer (some ⟨H.b, 0, none⟩), vp] w fun e w' => ∃ H' : Hdl, e = .returned (.pointer (some ⟨H'.b, 0, none⟩)) ∧ St w0 w' (dev H' (D.crash picks) :: rs) :=
  (Crash_in w H D (h.get hr) ho vp picks hvp hpk hpl).mono fun _ _ ⟨v, a, hf, H', b, hd, hm⟩ => ⟨H', by rw [a, b], h.make hf (dev H' _) hd hm⟩

theorem S_Copy (h : St w0 w rs) (i : Nat) {H : Hdl} {D : DSt} (hr : rs[i]? = some (dev H D)) :
    Calls Try.prog 40 #[.pointer (some ⟨H.b, 0, none⟩)] w fun e w' => ∃ H' : Hdl, e = .returned (.pointer (some ⟨H'.b, 0, none⟩)) ∧ St w0 w' (dev H' D :: rs) :=
  (Copy_in w H D (h.get hr)).mono fun _ _ ⟨v, a, hf, H', b, hd, hm⟩ => ⟨H', by rw [a, b], h.make hf (dev H' _) hd hm⟩

theorem S_Read (h : St w0 w rs) (i : Nat) {H : Hdl} {D : DSt} (hr : rs[i]? = some (dev H D)) (k : Int) (h0 : 0 ≤ k) (hk : k < D.n) (ho : D.ops < 4611686018427387904) :
    Calls Try.prog 35 #[.pointer (some ⟨H.b, 0, none⟩), .int .i64 k] w fun e w' => ∃ v, e = .returned (.tuple #[v, .int .i64 0]) ∧ St w0 w' (byt v (D.last k.toNat) :: rs) :=
  (Read_in w H D (h.get hr) k h0 hk ho).mono fun _ _ ⟨v, a, hb, hf⟩ => ⟨v, a, h.make hf (byt v _) hb (fun _ h => h.elim)⟩

theorem S_ReadFar (h : St w0 w rs) (i : Nat) {H : Hdl} {D : DSt} (hr : rs[i]? = some (dev H D)) (k : Int) (hk : k < 0 ∨ (D.n : Int) ≤ k) :
    Calls Try.prog 35 #[.pointer (some ⟨H.b, 0, none⟩), .int .i64 k] w fun e w' => w = w' ∧ e = .returned (.tuple #[.slice none 0 0, .int .i64 1]) := Read_far w H D AnyB (h.get hr) k hk

theorem S_Blocks (h : St w0 w rs) (i : Nat) {H : Hdl} {D : DSt} (hr : rs[i]? = some (dev H D)) :
    Calls Try.prog 37 #[.pointer (some ⟨H.b, 0, none⟩)] w fun e w' => w = w' ∧ e = .returned (.int .i64 D.n) := Blocks_any w H D AnyB (h.get hr)

theorem S_Ops (h : St w0 w rs) (i : Nat) {H : Hdl} {D : DSt} (hr : rs[i]? = some (dev H D)) :
    Calls Try.prog 39 #[.pointer (some ⟨H.b, 0, none⟩)] w fun e w' => w = w' ∧ e = .returned (.int .i64 D.ops) := Ops_any w H D AnyB (h.get hr)

theorem S_Bytes (h : St w0 w rs) (i j : Nat) {u v : Value} {bs cs : List UInt8} (hu : rs[i]? = some (byt u bs)) (hv : rs[j]? = some (byt v cs)) (hl : bs.length < 4611686018427387904) :
    Calls Try.prog 36 #[u, v] w fun e w' => e = .returned (.bool (bs == cs)) ∧ St w0 w' rs :=
  (Bytes_in w u v bs cs (h.get hu).sliceOf (h.get hv).sliceOf hl).mono fun _ _ ⟨a, hf⟩ => ⟨a, h.frm0 hf⟩
end
end Go.Proofs.Ytkanfpmmgaipnaa
