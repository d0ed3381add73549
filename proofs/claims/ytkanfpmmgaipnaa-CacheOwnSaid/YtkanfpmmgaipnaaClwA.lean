/-
  The cache in memory: its struct, the map of what was written; variables that are whole arrays of bytes.
-/
import Derived.Test.YtkanfpmmgaipnaaJlwB
import Derived.Great.Walk
namespace Go.Proofs.Ytkanfpmmgaipnaa
set_option linter.unusedVariables false
open Go.ChangeMaps Go.MapKept Go.RowKit

/-! ### What was written, as plain data -/

abbrev WrL := List (Int × Blk)

def look : WrL → Int → Option Blk
  | [], _ => none
  | p :: r, k => if p.1 = k then some p.2 else look r k

def putW : WrL → Int → Blk → WrL
  | [], k, b => [(k, b)]
  | p :: r, k, b => if p.1 = k then (k, b) :: r else p :: putW r k b

theorem look_put_same : ∀ (l : WrL) (k : Int) (b : Blk), look (putW l k b) k = some b
  | [], k, b => by unfold putW look; rw [if_pos rfl]
  | p :: r, k, b => by
    unfold putW
    by_cases h : p.1 = k
    · rw [if_pos h]; unfold look; rw [if_pos rfl]
    · rw [if_neg h]; unfold look; rw [if_neg h]; exact look_put_same r k b

theorem look_put_other : ∀ (l : WrL) {k j : Int} (b : Blk), j ≠ k → look (putW l k b) j = look l j
  | [], k, j, b, h => by
    unfold putW look
    rw [if_neg (Ne.symm h)]
    rfl
  | p :: r, k, j, b, h => by
    unfold putW
    by_cases e : p.1 = k
    · rw [if_pos e]; unfold look; rw [if_neg (Ne.symm h), if_neg (by rw [e]; exact Ne.symm h)]
    · rw [if_neg e]
      by_cases e2 : p.1 = j
      · unfold look; rw [if_pos e2, if_pos e2]
      · conv => lhs; unfold look
        conv => rhs; unfold look
        rw [if_neg e2, if_neg e2]; exact look_put_other r b h

theorem put_length : ∀ (l : WrL) (k : Int) (b : Blk), (putW l k b).length = if (look l k).isSome then l.length else l.length + 1
  | [], k, b => rfl
  | p :: r, k, b => by
    unfold putW look
    by_cases h : p.1 = k
    · rw [if_pos h, if_pos h]; rfl
    · rw [if_neg h, if_neg h, List.length_cons, put_length r k b]
      split <;> rfl

theorem put_keys : ∀ (l : WrL) (k : Int) (b : Blk), (putW l k b).map (·.1) = if (look l k).isSome then l.map (·.1) else l.map (·.1) ++ [k]
  | [], k, b => rfl
  | p :: r, k, b => by
    unfold putW look
    by_cases h : p.1 = k
    · rw [if_pos h, if_pos h]; simp [h]
    · rw [if_neg h, if_neg h, List.map_cons, put_keys r k b]
      split <;> rfl

theorem look_mem : ∀ (l : WrL) (k : Int), (look l k).isSome = true ↔ k ∈ l.map (·.1)
  | [], k => by simp [look]
  | p :: r, k => by
    unfold look
    by_cases h : p.1 = k
    · rw [if_pos h]; simp [h]
    · rw [if_neg h, look_mem r k]; simp [Ne.symm h]

theorem put_nodup {l : WrL} (h : (l.map (·.1)).Nodup) (k : Int) (b : Blk) : ((putW l k b).map (·.1)).Nodup := by
  rw [put_keys]
  split
  · exact h
  · rename_i hs
    refine List.nodup_append.2 ⟨h, by simp, fun a ha x hx => ?_⟩
    simp at hx
    rw [hx]
    rintro rfl
    exact hs ((look_mem l a).2 ha)

theorem put_all {P : Int × Blk → Prop} : ∀ {l : WrL} (k : Int) (b : Blk), (∀ p ∈ l, P p) → P (k, b) → ∀ p ∈ putW l k b, P p
  | [], k, b, h, hk => fun p hp => by
    simp [putW] at hp; rw [hp]; exact hk
  | q :: r, k, b, h, hk => fun p hp => by
    unfold putW at hp
    by_cases e : q.1 = k
    · rw [if_pos e] at hp
      rcases List.mem_cons.1 hp with rfl | hp
      · exact hk
      · exact h p (by simp [hp])
    · rw [if_neg e] at hp
      rcases List.mem_cons.1 hp with rfl | hp
      · exact h p (by simp)
      · exact put_all k b (fun p hp => h p (by simp [hp])) hk p hp

theorem look_in : ∀ {l : WrL} {k : Int} {b : Blk}, look l k = some b → (k, b) ∈ l
  | [], k, b, h => by simp [look] at h
  | p :: r, k, b, h => by
    unfold look at h
    by_cases e : p.1 = k
    · rw [if_pos e] at h
      injection h with h
      rw [← e, ← h]
      exact List.mem_cons_self ..
    · rw [if_neg e] at h
      exact List.mem_cons_of_mem _ (look_in h)

/-! ### A variable that is a whole block -/

/-- The bytes as one value. -/
def aggB (b : Blk) : Value := .agg (b.map B8).toArray

theorem aggZ : aggB zeros = .agg zc := by unfold aggB; rw [zc_eq]

theorem zeroArr (W : World) : (zeroValue 152).run Try.prog W = .ok (.agg zc) W := by kernel_rfl

theorem infoArr (b : Blk) (hb : b.length = 512) : (Try.prog.info? 152).map (·.size) = some ((b.map B8).toArray).size := by
  rw [List.size_toArray, List.length_map, hb]; kernel_rfl

theorem oneB (b : Blk) : ((b.map B8).toArray).all (·.oneCell') = true := by
  rw [Array.all_eq_true_iff_forall_mem]
  intro v hv
  rw [List.mem_toArray, List.mem_map] at hv
  obtain ⟨x, _, rfl⟩ := hv
  rfl

theorem run_allocArr (W : World) : (Instr.alloc 152 true (.tuple #[])).run Try.prog W = .ok (.pointer (some ⟨W.heap.size, 0, none⟩)) (W.alloc (.cells zc 152 (0, 0))) := by
  simp only [Instr.alloc, Sem.run_bind, zeroArr, Result.andThen_ok]
  rfl

/-- A variable of 512 bytes comes to be. -/
theorem allocArr {ops : Array Oper} {rest : List Oper} {o : Oper} {a : Act} {w : World} {Q : Exit → Act → World → Prop} (hg : o.guard = none) (ho : o.op = .alloc 152)
    (h : wpList Try.prog ops Q rest (a.put o.dst (.pointer (some ⟨w.heap.size, 0, none⟩))) (w.alloc (.cells zc 152 (0, 0)))) : wpList Try.prog ops Q (o :: rest) a w :=
  Go.Great.wpList_runTo hg o.dst rfl _ _ (by
    unfold execOp
    simp only [ho, Sem.run_bind, run_allocArr, Result.andThen_ok]
    rfl) h

/-- Bytes are stored whole into it. -/
theorem storeArr {ops : Array Oper} {rest : List Oper} {o : Oper} {a : Act} {w : World} {Q : Exit → Act → World → Prop} (hgd : o.guard = none) (x y : Operand) (ho : o.op = .store 152 x y) (g : Nat) (b : Blk) (hb : b.length = 512) (hx : a.eval x = .pointer (some ⟨g, 0, none⟩)) (hy : a.eval y = aggB b) (old : Array Value) (hold : old.size = 512)
    (hg : w.heap[g]? = some (.cells old 152 (0, 0))) (h : wpList Try.prog ops Q rest (a.put o.dst undef) (w.setRow g (b.map B8).toArray)) : wpList Try.prog ops Q (o :: rest) a w :=
  wpList_store_row hgd _ x y ho g (b.map B8).toArray hx hy _ old hg (infoArr b hb) (by rw [hold, List.size_toArray, List.length_map, hb]) (oneB b) h

theorem setRow_new (w : World) (b : Blk) (old : Array Value) : (w.alloc (.cells old 152 (0, 0))).setRow w.heap.size (b.map B8).toArray = w.alloc (.cells (b.map B8).toArray 152 (0, 0)) := setRow_alloc w old _ _ _

/-- The variable's bytes as a slice. -/
theorem arr_at (w : World) (b : Blk) (hb : b.length = 512) : BytesAt (w.alloc (.cells (b.map B8).toArray 152 (0, 0))) (.slice (some ⟨w.heap.size, 0, none⟩) 512 512) b (Fresh w) := by
  refine ⟨w.heap.size, 0, 512, _, by rw [hb], by rw [hb]; exact Nat.le_refl _, IsC.ofA (block_alloc_new _ _), fun i hi => ?_, Nat.le_refl _⟩
  rw [Nat.zero_add, List.getElem?_toArray, List.getElem?_map, List.getElem?_eq_getElem hi, List.getD_eq_getElem?_getD, List.getElem?_eq_getElem hi]
  rfl

/-! ### The map -/

def wrt (wb : Nat) (l : WrL) : Res where
  M := Only wb
  inv := fun _ w => ∃ F, MapAt IntK okI w wb l.length F ∧ ∀ k, okI k → F k = (look l k).map aggB
  lt := fun _ w H x hx => by obtain rfl : x = wb := hx; obtain ⟨F, h, _⟩ := H; exact h.lt
  dry := fun _ w H x hx c e => by
    obtain rfl : x = wb := hx
    obtain ⟨F, ⟨es, clock, h, _⟩, _⟩ := H
    exact notC_map h c e
  keep := fun _ w w' N H hf hd ha => by
    obtain ⟨F, h, hb⟩ := H
    exact ⟨F, h.of_block (hf.block wb h.lt (ha wb rfl)), hb⟩
  zone := fun _ _ _ H _ _ => H

theorem keepsWrt (wb : Nat) (l : WrL) : ∀ Z w w' N, (wrt wb l).inv Z w → Frm N w w' → (∀ x, N x → ¬ (wrt wb l).M x) → (wrt wb l).inv Z w' := fun Z w w' N H hf ha => by
  obtain ⟨F, h, hb⟩ := H
  exact ⟨F, h.of_block (hf.block wb h.lt (fun h => ha wb h rfl)), hb⟩

section
variable {w0 : Gnd} {w : World} {rs : List Res}

theorem St.wrtNew (h : St w0 w rs) : St w0 (w.alloc (.map #[] 0)) (wrt w.heap.size [] :: rs) :=
  h.make ((Frm.refl _ _).alloc _) (wrt w.heap.size []) ⟨_, MapAt.made w, fun k hk => rfl⟩ (fun x hx => by obtain rfl : x = w.heap.size := hx; exact Nat.le_refl _)

theorem St.wrtLook (h : St w0 w rs) {i wb : Nat} {l : WrL} (hr : rs[i]? = some (wrt wb l)) {k : Int} (hk : okI k) (W : World) (hW : W.heap[wb]? = w.heap[wb]?) :
    (Instr.lookup 149 (.map (some wb)) (.int .i64 k) true).run Try.prog W = .ok (.tuple #[aggB ((look l k).getD zeros), .bool (look l k).isSome]) W := by
  obtain ⟨F, hm, hf⟩ := h.get hr
  have := hm.lookup_ok kindInt Try.underlying149 hk zeroArr W hW
  rw [hf k hk] at this
  rw [this]
  cases look l k with
  | none => rw [Option.getD_none, ← aggZ]; rfl
  | some b => rfl

theorem St.wrtGet (h : St w0 w rs) {i wb : Nat} {l : WrL} (hr : rs[i]? = some (wrt wb l)) {k : Int} (hk : okI k) {b : Blk} (hb : look l k = some b) (W : World) (hW : W.heap[wb]? = w.heap[wb]?) :
    (Instr.lookup 149 (.map (some wb)) (.int .i64 k) false).run Try.prog W = .ok (aggB b) W := by
  obtain ⟨F, hm, hf⟩ := h.get hr
  have := hm.lookup kindInt Try.underlying149 hk zeroArr W hW
  rw [hf k hk, hb] at this
  exact this

theorem St.wrtLen (h : St w0 w rs) {i wb : Nat} {l : WrL} (hr : rs[i]? = some (wrt wb l)) (ty : TypeId) (W : World) (hW : W.heap[wb]? = w.heap[wb]?) :
    (Builtin.len_ #[149] ty #[.map (some wb)]).run Try.prog W = .ok (goInt l.length) W := by
  obtain ⟨F, hm, hf⟩ := h.get hr
  exact hm.len Try.underlying149 ty W hW

theorem St.wrtPut (h : St w0 w rs) (i : Nat) {wb : Nat} {l : WrL} (hr : rs[i]? = some (wrt wb l)) {k : Int} (hk : okI k) (b : Blk) :
    ∃ o, (∀ W, W.heap[wb]? = w.heap[wb]? → (Instr.mapUpdate 149 (.map (some wb)) (.int .i64 k) (aggB b)).run Try.prog W = .ok () (setBlock W wb o)) ∧ St w0 (setBlock w wb o) (rs.set i (wrt wb (putW l k b))) := by
  obtain ⟨F, hm, hf⟩ := h.get hr
  obtain ⟨o, q1, q2⟩ := hm.update kindInt Try.underlying149 hk (aggB b)
  refine ⟨o, q1, h.write i hr ((Frm.refl (Only wb) w).setBlock (.inl rfl) o) (wrt wb (putW l k b)) ⟨upd F k (some (aggB b)), ?_, fun x hx => ?_⟩ (fun _ hx => .inl hx)⟩
  · have h2 := q2 w hm.lt
    rw [put_length]
    rw [hf k hk, Option.isSome_map] at h2
    exact h2
  · unfold upd
    by_cases e : x = k
    · subst e; rw [if_pos rfl, look_put_same]; rfl
    · rw [if_neg e, hf x hx, look_put_other _ _ e]

theorem St.wrtClear (h : St w0 w rs) (i : Nat) {wb : Nat} {l : WrL} (hr : rs[i]? = some (wrt wb l)) (ty : TypeId) :
    ∃ o, (Builtin.clear_ #[149] ty #[.map (some wb)]).run Try.prog w = .ok (.tuple #[]) (setBlock w wb o) ∧ St w0 (setBlock w wb o) (rs.set i (wrt wb [])) := by
  obtain ⟨F, hm, hf⟩ := h.get hr
  obtain ⟨o, q1, q2⟩ := hm.clear Try.underlying149 ty
  exact ⟨o, q1 w rfl, h.write i hr ((Frm.refl (Only wb) w).setBlock (.inl rfl) o) (wrt wb []) ⟨_, q2 w hm.lt, fun x hx => rfl⟩ (fun _ hx => .inl hx)⟩
end

/-! ### The struct -/

theorem neCch : ¬ U8T (151 : TypeId) := by decide

def ccells (jb : Nat) (op ov : Bool) (wb : Nat) : Array Value := #[.pointer (some ⟨jb, 0, none⟩), .bool op, .bool ov, .map (some wb)]

/-- The cache's struct, over the journal jb. -/
abbrev cst (cb jb : Nat) (op ov : Bool) (wb : Nat) : Res := arr cb (ccells jb op ov wb) 151 neCch

section
variable {w0 : Gnd} {w : World} {rs : List Res} {cb jb wb : Nat} {op ov : Bool} {l : WrL}

theorem S_cNew (h : St w0 w rs) (jb : Nat) :
    Calls Try.prog 67 #[.pointer (some ⟨jb, 0, none⟩)] w fun e w' => ∃ cb wb, e = .returned (.pointer (some ⟨cb, 0, none⟩)) ∧ St w0 w' (cst cb jb false false wb :: wrt wb [] :: rs) := by
  have hmk : ∀ W, (Instr.makeMap 149 none).run Try.prog W = .ok (.map (some W.heap.size)) (W.alloc (.map #[] 0)) := fun W => rfl
  have H1 := Lib.hid ((h.wrtNew).newArr (ccells jb false false w.heap.size) 151 neCch)
  clear h
  go_enter Try.func67, Try.ntmps67
  go_wp2_with fail
  go_ret
  exact ⟨w.heap.size + 1, w.heap.size, rfl, by have := H1.out; rw [size_alloc] at this; exact this⟩

theorem S_cReady (h : St w0 w (cst cb jb op ov wb :: rs)) :
    Calls Try.prog 98 #[.pointer (some ⟨cb, 0, none⟩)] w fun e w' => w = w' ∧ e = .returned (.bool true) := by
  have c0 : w.cell? ⟨cb, 0, none⟩ = some (.pointer (some ⟨jb, 0, none⟩)) := (h.arrCell (i := 0) rfl 0).trans rfl
  clear h
  go_enter Try.func98, Try.ntmps98
  go_wp2_with fail
  go_ret
  exact ⟨rfl, rfl⟩

theorem S_cOpen (h : St w0 w (cst cb jb op ov wb :: rs)) :
    Calls Try.prog 63 #[.pointer (some ⟨cb, 0, none⟩)] w fun e w' => w = w' ∧ e = .returned (.bool op) := by
  have c1 : w.cell? ⟨cb, 1, none⟩ = some (.bool op) := (h.arrCell (i := 0) rfl 1).trans rfl
  clear h
  go_enter Try.func63, Try.ntmps63
  go_wp2_with fail
  go_ret
  exact ⟨rfl, rfl⟩

theorem S_cDirty (h : St w0 w (cst cb jb op ov wb :: wrt wb l :: rs)) :
    Calls Try.prog 64 #[.pointer (some ⟨cb, 0, none⟩)] w fun e w' => w = w' ∧ e = .returned (.int .i64 l.length) := by
  have c3 : w.cell? ⟨cb, 3, none⟩ = some (.map (some wb)) := (h.arrCell (i := 0) rfl 3).trans rfl
  have hln := fun ty => h.wrtLen (i := 1) rfl ty w rfl
  clear h
  go_enter Try.func64, Try.ntmps64
  go_wp2_with fail
  go_ret
  exact ⟨rfl, rfl⟩

theorem S_cBegin (h : St w0 w (cst cb jb op ov wb :: rs)) :
    Calls Try.prog 58 #[.pointer (some ⟨cb, 0, none⟩)] w fun e w' => e = .returned (.int .i64 (if op then 8 else 0)) ∧ St w0 w' (cst cb jb true (if op then ov else false) wb :: rs) := by
  have c1 : w.cell? ⟨cb, 1, none⟩ = some (.bool op) := (h.arrCell (i := 0) rfl 1).trans rfl
  have f1 : w.frozen? ⟨cb, 1, none⟩ = false := h.arrFree (i := 0) rfl 1
  have f2 : w.frozen? ⟨cb, 2, none⟩ = false := h.arrFree (i := 0) rfl 2
  have c2 : w.cell? ⟨cb, 2, none⟩ = some (.bool ov) := (h.arrCell (i := 0) rfl 2).trans rfl
  have HR := Lib.hid (S_cReady h)
  have H2 := Lib.hid ((h.setArr 0 rfl 1 (.bool true)).setArr 0 rfl 2 (.bool false))
  have H0 := Lib.hid h
  clear h
  go_enter Try.func58, Try.ntmps58
  go_wp2_with fail
  refine HR.out.mono ?_
  rintro e w2 ⟨rfl, rfl⟩
  cases op with
  | true =>
    go_wp2_with fail
    go_ret
    exact ⟨rfl, H0.out⟩
  | false =>
    go_wp2_with fail
    go_ret
    exact ⟨rfl, H2.out⟩

theorem S_cDone (h : St w0 w (cst cb jb op ov wb :: wrt wb l :: rs)) :
    Calls Try.prog 100 #[.pointer (some ⟨cb, 0, none⟩)] w fun e w' => e = .returned (.tuple #[]) ∧ St w0 w' (cst cb jb false ov wb :: wrt wb [] :: rs) := by
  have c1 : w.cell? ⟨cb, 1, none⟩ = some (.bool op) := (h.arrCell (i := 0) rfl 1).trans rfl
  have f1 : w.frozen? ⟨cb, 1, none⟩ = false := h.arrFree (i := 0) rfl 1
  have h1 := h.setArr 0 rfl 1 (.bool false)
  have c3 : (w.setCell ⟨cb, 1, none⟩ (.bool false)).cell? ⟨cb, 3, none⟩ = some (.map (some wb)) := (h1.arrCell (i := 0) rfl 3).trans rfl
  obtain ⟨o, q, h2⟩ := h1.wrtClear 1 rfl 0
  have H2 := Lib.hid h2
  clear h h1 h2
  go_enter Try.func100, Try.ntmps100
  go_wp2_with fail
  go_end0
  exact ⟨rfl, H2.out⟩

theorem S_cAbort (h : St w0 w (cst cb jb op ov wb :: wrt wb l :: rs)) :
    Calls Try.prog 62 #[.pointer (some ⟨cb, 0, none⟩)] w fun e w' => e = .returned (.int .i64 (if op then 0 else 8)) ∧ St w0 w' (cst cb jb false ov wb :: wrt wb (if op then [] else l) :: rs) := by
  have HO := Lib.hid (S_cOpen h)
  have HD := Lib.hid (S_cDone h)
  have H0 := Lib.hid h
  clear h
  go_enter Try.func62, Try.ntmps62
  go_wp2_with fail
  refine HO.out.mono ?_
  rintro e w2 ⟨rfl, rfl⟩
  cases op with
  | true =>
    go_wp2_with fail
    refine HD.out.mono ?_
    rintro e w3 ⟨rfl, h3⟩
    have H3 := Lib.hid h3
    clear h3
    go_wp2
    go_ret
    exact ⟨rfl, H3.out⟩
  | false =>
    go_wp2_with fail
    go_ret
    exact ⟨rfl, H0.out⟩
end
end Go.Proofs.Ytkanfpmmgaipnaa
