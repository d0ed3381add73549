/-
  The cache's Commit over a journal that lives; variables that are whole arrays.
-/
import Derived.Test.YtkanfpmmgaipnaaClwD
import Derived.Test.YtkanfpmmgaipnaaJlwE
namespace Go.Proofs.Ytkanfpmmgaipnaa
set_option linter.unusedVariables false
open Go.ChangeMaps Go.MapKept Go.RowKit

/-- What a transaction may hold. -/
structure COk (n : Nat) (l : WrL) : Prop where
  home : ∀ p ∈ l, 245 ≤ p.1 ∧ p.1 < (n : Int)
  b512 : ∀ p ∈ l, p.2.length = 512
  nodup : (l.map (·.1)).Nodup
  few : l.length ≤ 60

theorem COk.nil (n : Nat) : COk n [] := ⟨fun _ h => (by cases h), fun _ h => (by cases h), List.nodup_nil, Nat.zero_le _⟩

theorem COk.put {n : Nat} {l : WrL} (h : COk n l) (k : Int) (b : Blk) (hk : 245 ≤ k ∧ k < (n : Int)) (hb : b.length = 512) (hr : (look l k).isSome = true ∨ l.length < 60) : COk n (putW l k b) := by
  refine ⟨put_all k b h.home hk, put_all k b h.b512 hb, put_nodup h.nodup k b, ?_⟩
  rw [put_length]
  have := h.few
  split
  · exact this
  · rename_i hs
    rcases hr with hr | hr
    · exact absurd hr hs
    · omega

theorem COk.okI {n : Nat} {l : WrL} (h : COk n l) (hn : n ≤ 65536) : ∀ p ∈ l, okI p.1 := fun p hp => (okI_iff _).2 (by have := h.home p hp; omega)

/-- The sorted keys, as a commit's blocks. -/
theorem COk.keys {n : Nat} {l : WrL} (h : COk n l) {ks : List Int} (hs : ks.Pairwise (· < ·)) (hm : ∀ a, a ∈ ks ↔ (look l a).isSome = true) (hl : ks.length = l.length) :
    ∃ ks' : List Nat, ks = ks'.map (fun k : Nat => (k : Int)) ∧ MayL n ks' (ks.map fun k => (look l k).getD zeros) ∧ (∀ d ∈ ks.map fun k => (look l k).getD zeros, d.length = 512) ∧ ∀ s k, over ks' (ks.map fun k => (look l k).getD zeros) s k = cvw l s k := by
  have hk : ∀ a ∈ ks, 245 ≤ a ∧ a < (n : Int) := fun a ha => by
    obtain ⟨p, hp, e⟩ := List.mem_map.1 ((look_mem l a).1 ((hm a).1 ha))
    rw [← e]; exact h.home p hp
  have e1 : ks = (ks.map Int.toNat).map (fun k : Nat => (k : Int)) := by
    rw [List.map_map]
    refine (List.map_id _).symm.trans (List.map_congr_left fun a ha => ?_)
    have := hk a ha
    simp only [id, Function.comp]
    omega
  have hnd : (ks.map Int.toNat).Nodup := by
    rw [List.nodup_iff_pairwise_ne, List.pairwise_map]
    refine List.Pairwise.imp_of_mem ?_ hs
    intro a b ha hb hab
    have := hk a ha
    have := hk b hb
    omega
  refine ⟨ks.map Int.toNat, e1, ⟨fun k hk' => ?_, hnd, ?_, ?_⟩, fun d hd => ?_, fun s k => ?_⟩
  · obtain ⟨a, ha, rfl⟩ := List.mem_map.1 hk'
    have := hk a ha
    omega
  · rw [List.length_map, hl]; exact h.few
  · rw [List.length_map, List.length_map]
  · obtain ⟨a, ha, rfl⟩ := List.mem_map.1 hd
    cases hb : look l a with
    | none => exact zeros_length
    | some b => exact h.b512 _ (look_in hb)
  · by_cases hmem : k ∈ ks.map Int.toNat
    · obtain ⟨i, hi⟩ := List.getElem?_of_mem hmem
      rw [List.getElem?_map] at hi
      cases hq : ks[i]? with
      | none => rw [hq] at hi; cases hi
      | some a =>
        rw [hq] at hi
        have hka := hk a (List.mem_of_getElem? hq)
        have ea : a = (k : Int) := by simp at hi; omega
        have hsm := (hm a).1 (List.mem_of_getElem? hq)
        obtain ⟨b, hb⟩ := Option.isSome_iff_exists.1 hsm
        rw [over_at _ _ _ i k b hnd (by rw [List.getElem?_map, hq]; simp [ea]) (by rw [List.getElem?_map, hq]; simp [hb])]
        unfold cvw
        rw [← ea, hb]; rfl
    · rw [over_not _ _ _ _ hmem]
      unfold cvw
      cases hb : look l (k : Int) with
      | none => rfl
      | some b =>
        exact absurd (List.mem_map.2 ⟨(k : Int), (hm _).2 (by rw [hb]; rfl), by simp⟩) hmem

section
variable {w0 : Gnd} {w : World} {rs : List Res} {cb wb : Nat} {ov : Bool} {l : WrL} {H : Hdl} {jh : JHdl} {J : JSt}

/-- A transaction that is committed over a device that is not cut. -/
theorem S_cCommitL (h : St w0 w (cst cb jh.jb true ov wb :: wrt wb l :: jrn H jh J :: rs)) (a : Nat) {D : DSt} (hr : rs[a]? = some (dev H D)) {n g m : Nat} {s : Nat → Blk} (hL : Live n g m J D s) (hK : COk n l) (h246 : 246 ≤ n) (hn : n ≤ 65536) (hm : m < 18446744073709551615) (hg : g < 18446744073709551616) (ho : D.ops < 1000000000) (hlim : D.lim = none) :
    Calls Try.prog 61 #[.pointer (some ⟨cb, 0, none⟩)] w fun e w' => ∃ jh' J' D', jh'.jb = jh.jb ∧ e = .returned (.int .i64 0) ∧ St w0 w' (cst cb jh.jb false ov wb :: wrt wb [] :: jrn H jh' J' :: rs.set a (dev H D')) ∧ Live n g (m + 1) J' D' (cvw l s) ∧ D'.lim = none ∧ D'.ops ≤ D.ops + 123 := by
  refine S_cCommit h (hK.okI hn) hK.b512 (by have := hK.few; omega) (fun ks v vs W h1 h2 h3 hst => ?_)
  obtain ⟨ks', e1, hmay, h512, hov⟩ := hK.keys h1 h2 h3
  generalize hds : (ks.map fun k => (look l k).getD zeros) = ds at *
  subst e1
  refine (S_CommitL hst (a + 3) 0 hr rfl hL hmay h512 h246 hn hm hg ho hlim (by omega)).mono ?_
  rintro e w' ⟨jh', J', D', hjb, he, hst', hl', hlim', hops'⟩
  refine ⟨⟨0, he⟩, jh', J', D', hjb, he, ?_, hl'.congr (fun k _ _ => hov s k), hlim', hops'⟩
  have hst' : St w0 w' (jrn H jh' J' :: chgs _ _ _ _ :: cst cb jh.jb false ov wb :: wrt wb [] :: rs.set a (dev H D')) := hst'
  exact hst'.drop2nd.perm ((List.perm_append_comm (l₁ := [_]) (l₂ := [_, _])).append_right _)

/-- The same over a device that may be cut. -/
theorem S_cCommitC (h : St w0 w (cst cb jh.jb true ov wb :: wrt wb l :: jrn H jh J :: rs)) (a : Nat) {D : DSt} (hr : rs[a]? = some (dev H D)) {n g m : Nat} {s : Nat → Blk} (hL : Live n g m J D s) (hK : COk n l) (h246 : 246 ≤ n) (hn : n ≤ 65536) (hm : m < 18446744073709551615) (hg : g < 18446744073709551616) (ho : D.ops < 1000000000) :
    Calls Try.prog 61 #[.pointer (some ⟨cb, 0, none⟩)] w fun e w' => ∃ jh' J' D', jh'.jb = jh.jb ∧ St w0 w' (cst cb jh.jb false ov wb :: wrt wb [] :: jrn H jh' J' :: rs.set a (dev H D')) ∧ After n g (m + 1) s (cvw l s) D D' ∧ ((e = .returned (.int .i64 0) ∧ Live n g (m + 1) J' D' (cvw l s)) ∨ (e = .returned (.int .i64 9) ∧ J'.dead = true)) := by
  refine S_cCommit h (hK.okI hn) hK.b512 (by have := hK.few; omega) (fun ks v vs W h1 h2 h3 hst => ?_)
  obtain ⟨ks', e1, hmay, h512, hov⟩ := hK.keys h1 h2 h3
  generalize hds : (ks.map fun k => (look l k).getD zeros) = ds at *
  subst e1
  refine (S_CommitC hst (a + 3) 0 hr rfl hL hmay h512 h246 hn hm hg ho (by omega)).mono ?_
  rintro e w' ⟨jh', J', D', hjb, hst', hA, hC⟩
  have hov' : over ks' ds s = cvw l s := funext fun k => hov s k
  rw [hov'] at hA hC
  have hst' : St w0 w' (jrn H jh' J' :: chgs _ _ _ _ :: cst cb jh.jb false ov wb :: wrt wb [] :: rs.set a (dev H D')) := hst'
  refine ⟨?_, jh', J', D', hjb, hst'.drop2nd.perm ((List.perm_append_comm (l₁ := [_]) (l₂ := [_, _])).append_right _), hA, hC⟩
  rcases hC with ⟨he, _⟩ | ⟨he, _⟩
  · exact ⟨0, he⟩
  · exact ⟨9, he⟩
end

/-! ### Arrays as variables -/

/-- A variable of a type whose nought is a row of cells. -/
theorem allocRow {ops : Array Oper} {rest : List Oper} {o : Oper} {a : Act} {w : World} {Q : Exit → Act → World → Prop} (hg : o.guard = none) (t : TypeId) (cs : Array Value) (hz : ∀ W, (zeroValue t).run Try.prog W = .ok (.agg cs) W) (ho : o.op = .alloc t)
    (h : wpList Try.prog ops Q rest (a.put o.dst (.pointer (some ⟨w.heap.size, 0, none⟩))) (w.alloc (.cells cs t (0, 0)))) : wpList Try.prog ops Q (o :: rest) a w :=
  Go.Great.wpList_runTo hg o.dst rfl _ _ (by
    have hr : (Instr.alloc t true (.tuple #[])).run Try.prog w = .ok (.pointer (some ⟨w.heap.size, 0, none⟩)) (w.alloc (.cells cs t (0, 0))) := by
      simp only [Instr.alloc, Sem.run_bind, hz, Result.andThen_ok]
      rfl
    unfold execOp
    simp only [ho, Sem.run_bind, hr, Result.andThen_ok]
    rfl) h

theorem zeroS5 (W : World) : (zeroValue 95).run Try.prog W = .ok (.agg (stC 80 zeroS)) W := by kernel_rfl

/-- The cells of a row of Booleans. -/
def bC (n : Nat) (f : Nat → Bool) : Array Value := ((List.range n).map fun k => Value.bool (f k)).toArray
theorem bC_size (n : Nat) (f : Nat → Bool) : (bC n f).size = n := by simp [bC]
theorem bC_get (n : Nat) (f : Nat → Bool) (k : Nat) (h : k < n) : (bC n f)[k]? = some (.bool (f k)) := by simp [bC, h]
theorem zeroB5 (W : World) : (zeroValue 104).run Try.prog W = .ok (.agg (bC 80 fun _ => false)) W := by kernel_rfl
theorem neB5 : ¬ U8T (104 : TypeId) := by decide

/-- A function turned at one place. -/
def setF {α : Type} (f : Nat → α) (k : Nat) (x : α) : Nat → α := fun j => if j = k then x else f j

theorem bC_set (n : Nat) (f : Nat → Bool) (k : Nat) (x : Bool) (h : k < n) : (bC n f).setIfInBounds k (.bool x) = bC n (setF f k x) := by
  apply Array.ext'
  rw [Array.toList_setIfInBounds]
  unfold bC setF
  apply List.ext_getElem?
  intro i
  simp only [List.getElem?_set, List.length_map, List.length_range, List.getElem?_map]
  by_cases e : k = i
  · subst e; simp [h]
  · rw [if_neg e]
    by_cases hi : i < n
    · simp [hi, Ne.symm e]
    · simp [hi]

theorem stC_setF (n : Nat) (f : Nat → Int) (k : Nat) (x : Int) (h : k < n) : (stC n f).setIfInBounds k (.int .i64 x) = stC n (setF f k x) := by
  apply Array.ext'
  rw [Array.toList_setIfInBounds]
  unfold stC setF
  apply List.ext_getElem?
  intro i
  simp only [List.getElem?_set, List.length_map, List.length_range, List.getElem?_map]
  by_cases e : k = i
  · subst e; simp [h]
  · rw [if_neg e]
    by_cases hi : i < n
    · simp [hi, Ne.symm e]
    · simp [hi]

theorem infoS5 (f : Nat → Int) : (Try.prog.info? 95).map (·.size) = some (stC 80 f).size := by rw [stC_size]; kernel_rfl

/-- A state of 80 read whole out of a variable. -/
theorem loadS5 {ops : Array Oper} {rest : List Oper} {o : Oper} {a : Act} {w : World} {Q : Exit → Act → World → Prop} (hw : Region.wanted o (yielded ops a.tmps) = true) (x : Operand) (ho : o.op = .load 95 x) (g : Nat) (hx : a.eval x = .pointer (some ⟨g, 0, none⟩)) (f : Nat → Int)
    (hg : w.heap[g]? = some (.cells (stC 80 f) 95 (0, 0))) (h : wpList Try.prog ops Q rest (a.put o.dst (.agg (stC 80 f))) w) : wpList Try.prog ops Q (o :: rest) a w :=
  BigFrame.wpList_want hw fun K hK => wp_load_row _ x ho g hx _ (stC 80 f) _ _ hg Try.underlying95 rfl (infoS5 f) (hK _ _ h)

theorem storeS5 {ops : Array Oper} {rest : List Oper} {o : Oper} {a : Act} {w : World} {Q : Exit → Act → World → Prop} (hgd : o.guard = none) (x y : Operand) (ho : o.op = .store 95 x y) (g : Nat) (f : Nat → Int) (hx : a.eval x = .pointer (some ⟨g, 0, none⟩)) (hy : a.eval y = .agg (stC 80 f)) (old : Array Value) (hold : old.size = 80)
    (hg : w.heap[g]? = some (.cells old 95 (0, 0))) (h : wpList Try.prog ops Q rest (a.put o.dst undef) (w.setRow g (stC 80 f))) : wpList Try.prog ops Q (o :: rest) a w :=
  wpList_store_row hgd _ x y ho g (stC 80 f) hx hy _ old hg (infoS5 f) (by rw [hold, stC_size]) (stC_one _ _) h
end Go.Proofs.Ytkanfpmmgaipnaa
