/-
  bollardlaw4.changes: rows of changes that come in; what they make of a state.
-/
import Derived.Test.YtkanfpmmgaipnaaJlwB
import Derived.Test.YtkanfpmmgaipnaaJlwC
import Derived.Laws.Tables
import Derived.Laws.Rows
namespace Go.Proofs.Ytkanfpmmgaipnaa
set_option linter.unusedVariables false
open Go.ChangeMaps Go.MapKept Go.RowKit

/-- A slice of pairs of ints: each element is two cells. -/
def Pairs (w : World) (v : Value) (l : List (Int × Int)) : Prop :=
  ∃ a cap, v = .slice a l.length cap ∧ ∀ (i : Nat) p, l[i]? = some p → ∃ blk off, a = some ⟨blk, off, none⟩ ∧ blk < w.heap.size ∧ w.cell? ⟨blk, off + i * 2, none⟩ = some (.int .i64 p.1) ∧ w.cell? ⟨blk, off + i * 2 + 1, none⟩ = some (.int .i64 p.2)

theorem Pairs.frm {w w' : World} {v : Value} {l : List (Int × Int)} (h : Pairs w v l) (hf : Frm NoB w w') : Pairs w' v l := by
  obtain ⟨a, cap, e, hc⟩ := h
  refine ⟨a, cap, e, fun i p hp => ?_⟩
  obtain ⟨blk, off, h1, h2, h3, h4⟩ := hc i p hp
  exact ⟨blk, off, h1, Nat.lt_of_lt_of_le h2 hf.size, (hf.cell h2 (fun e => e)).trans h3, (hf.cell h2 (fun e => e)).trans h4⟩

/-- A state, at one home another. -/
def setS (f : Nat → Int) (k : Nat) (v : Int) : Nat → Int := fun x => if x = k then v else f x

theorem stC_set (n : Nat) (f : Nat → Int) (k : Nat) (v : Int) : (stC n f).setIfInBounds k (.int .i64 v) = stC n (setS f k v) := by
  apply Array.ext_getElem?
  intro i
  by_cases hi : i < n
  · rw [stC_get _ _ _ hi, Array.getElem?_setIfInBounds]
    unfold setS
    by_cases e : k = i
    · subst e; simp [stC_size, hi]
    · rw [if_neg e, if_neg (Ne.symm e), stC_get _ _ _ hi]
  · rw [Array.getElem?_eq_none (by rw [Array.size_setIfInBounds, stC_size]; omega), Array.getElem?_eq_none (by rw [stC_size]; omega)]

/-- Which homes were met. -/
def metC (n : Nat) (l : List Nat) : Array Value := ((List.range n).map fun k => Value.bool (l.contains k)).toArray
theorem metC_size (n : Nat) (l : List Nat) : (metC n l).size = n := by simp [metC]
theorem metC_get (n : Nat) (l : List Nat) (k : Nat) (h : k < n) : (metC n l)[k]? = some (.bool (l.contains k)) := by simp [metC, h]
theorem metC_set (n : Nat) (l : List Nat) (k : Nat) : (metC n l).setIfInBounds k (.bool true) = metC n (l ++ [k]) := by
  apply Array.ext_getElem?
  intro i
  by_cases hi : i < n
  · rw [metC_get _ _ _ hi, Array.getElem?_setIfInBounds]
    by_cases e : k = i
    · subst e; simp [metC_size, hi]
    · rw [if_neg e, metC_get _ _ _ hi]
      congr 2
      rw [Bool.eq_iff_iff]; simp; omega
  · rw [Array.getElem?_eq_none (by rw [Array.size_setIfInBounds, metC_size]; omega), Array.getElem?_eq_none (by rw [metC_size]; omega)]

/-- What changes make: the homes, the values, the state. -/
def chTo (l : List (Int × Int)) (f : Nat → Int) : Nat → List Nat × List Int × (Nat → Int)
  | 0 => ([], [], f)
  | i + 1 =>
    let r := chTo l f i
    let p := l.getD i (0, 0)
    let k := (p.1 % 30).toNat
    if r.1.contains k then r else (r.1 ++ [k], r.2.1 ++ [p.2 % 200], setS r.2.2 k (p.2 % 200))

def chK (r : List Nat × List Int × (Nat → Int)) : List Nat := r.1.map (245 + ·)
def chD (r : List Nat × List Int × (Nat → Int)) : List Blk := r.2.1.map blockOf

theorem over_snoc : ∀ (o : List Nat) (dt : List Blk) (C : Nat → Blk) (k : Nat) (b : Blk) (x : Nat), dt.length = o.length → k ∉ o → over (o ++ [k]) (dt ++ [b]) C x = if x = k then b else over o dt C x
  | [], [], C, k, b, x, _, _ => by
    simp only [List.nil_append]
    unfold over
    by_cases h : k = x
    · subst h; rw [if_pos rfl, if_pos rfl]
    · rw [if_neg h, if_neg (Ne.symm h)]; unfold over; rfl
  | [], _ :: _, _, _, _, _, h, _ => by simp at h
  | _ :: _, [], _, _, _, _, h, _ => by simp at h
  | y :: o, c :: dt, C, k, b, x, h, hn => by
    simp only [List.cons_append]
    unfold over
    have hyk : y ≠ k := fun e => hn (by simp [e])
    by_cases e : y = x
    · subst e
      rw [if_pos rfl, if_pos rfl, if_neg hyk]
    · rw [if_neg e, if_neg e]
      exact over_snoc o dt C k b x (by simpa using h) (fun hk => hn (by simp [hk]))

structure ChOk (n : Nat) (f : Nat → Int) (r : List Nat × List Int × (Nat → Int)) : Prop where
  lt : ∀ k ∈ r.1, k < 30
  nodup : r.1.Nodup
  len : r.2.1.length = r.1.length
  few : r.1.length ≤ 30
  view : ∀ s : Nat → Blk, (∀ k, k < 30 → s (245 + k) = blockOf (f k)) → ∀ k, k < 30 → over (chK r) (chD r) s (245 + k) = blockOf (r.2.2 k)
  vals : ∀ k, k < 30 → r.2.2 k = f k ∨ (0 ≤ r.2.2 k ∧ r.2.2 k < 200)

theorem chTo_ok (n : Nat) (l : List (Int × Int)) (f : Nat → Int) : ∀ i, ChOk n f (chTo l f i)
  | 0 => ⟨fun _ h => by (cases h), List.nodup_nil, rfl, Nat.zero_le _, fun s hs k hk => hs k hk, fun k _ => .inl rfl⟩
  | i + 1 => by
    have ih := chTo_ok n l f i
    unfold chTo
    simp only
    obtain ⟨r, hr⟩ : ∃ r, chTo l f i = r := ⟨_, rfl⟩
    rw [hr] at ih ⊢
    split
    · exact ih
    · rename_i hc
      obtain ⟨k, hk⟩ : ∃ k, ((l.getD i (0, 0)).1 % 30).toNat = k := ⟨_, rfl⟩
      obtain ⟨v, hv⟩ : ∃ v, (l.getD i (0, 0)).2 % 200 = v := ⟨_, rfl⟩
      rw [hk] at hc
      rw [hk, hv]
      have hk30 : k < 30 := by omega
      have hkm : k ∉ r.1 := fun h => hc (List.contains_iff_mem.2 h)
      have hlt : ∀ x ∈ r.1 ++ [k], x < 30 := fun x hx => by
        rcases List.mem_append.1 hx with h | h
        · exact ih.lt x h
        · simp at h; omega
      have hnd : (r.1 ++ [k]).Nodup := by
        rw [List.nodup_append]
        exact ⟨ih.nodup, by simp, fun x hx y hy => by simp at hy; subst hy; exact fun e => hkm (e ▸ hx)⟩
      refine ⟨hlt, hnd, by simp [ih.len], ?_, fun s hs x hx => ?_, fun x hx => ?_⟩
      · exact nodup_lt_length 30 _ hnd hlt
      · have hov := ih.view s hs x hx
        show over ((r.1 ++ [k]).map (245 + ·)) ((r.2.1 ++ [v]).map blockOf) s (245 + x) = blockOf (setS r.2.2 k v x)
        rw [List.map_append, List.map_append]
        rw [show [k].map (245 + ·) = [245 + k] from rfl, show [v].map blockOf = [blockOf v] from rfl, over_snoc _ _ _ _ _ _ (by simp [ih.len]) (by simp; exact hkm)]
        unfold setS
        by_cases e : x = k
        · subst e; rw [if_pos rfl, if_pos rfl]
        · rw [if_neg (by omega), if_neg e]
          exact hov
      · show setS r.2.2 k v x = f x ∨ 0 ≤ setS r.2.2 k v x ∧ setS r.2.2 k v x < 200
        unfold setS
        by_cases e : x = k
        · rw [if_pos e]; right; omega
        · rw [if_neg e]; exact ih.vals x hx

theorem ChOk.may {n : Nat} {f : Nat → Int} {r : List Nat × List Int × (Nat → Int)} (h : ChOk n f r) (hn : 275 ≤ n) : MayL n (chK r) (chD r) := by
  refine ⟨fun k hk => ?_, ?_, ?_, ?_⟩
  · obtain ⟨x, hx, rfl⟩ := List.mem_map.1 hk
    have := h.lt x hx
    omega
  · unfold chK
    rw [List.nodup_iff_pairwise_ne, List.pairwise_map]
    exact (List.nodup_iff_pairwise_ne.1 h.nodup).imp (fun h => by omega)
  · unfold chK; rw [List.length_map]; have := h.few; omega
  · unfold chK chD; rw [List.length_map, List.length_map, h.len]

theorem chD_512 (r : List Nat × List Int × (Nat → Int)) : ∀ d ∈ chD r, d.length = 512 := fun d hd => by
  obtain ⟨x, _, rfl⟩ := List.mem_map.1 hd
  exact blockOf_length _

theorem neMt : ¬ U8T (148 : TypeId) := by decide

/-- A whole array read, in a world that stays. -/
theorem still_load_row {P : Program} {o : Oper} {a : Act} {w : World} {K : Act → Prop} (ty : TypeId) (x : Operand) (ho : o.op = .load ty x) (g : Nat) (hx : a.eval x = .pointer (some ⟨g, 0, none⟩)) (t : TypeId) (cs : Array Value) (fr : Nat × Nat) (d : TypeDesc) (hg : w.heap[g]? = some (.cells cs t fr))
    (hu : P.underlying ty = some d) (hd : (match d with | .struct _ | .array _ _ => true | _ => false) = true) (hi : (P.info? ty).map (·.size) = some cs.size) (hk : K (a.put o.dst (.agg cs))) : o.still P a w K := by
  unfold Oper.still execOp
  simp only [ho, hx, Instr.loadAt, Instr.sureAddr, Sem.run_bind, Sem.run_pure, Result.andThen_ok, run_loadVar_row w g t ty cs fr d hg hu hd hi]
  exact ⟨rfl, hk⟩

theorem infoSt (f : Nat → Int) : (Try.prog.info? 67).map (·.size) = some (stC 30 f).size := by rw [stC_size]; kernel_rfl
theorem stC_one (n : Nat) (f : Nat → Int) : (stC n f).all (·.oneCell') = true := by
  rw [Array.all_eq_true_iff_forall_mem]
  intro v hv
  unfold stC at hv
  rw [List.mem_toArray, List.mem_map] at hv
  obtain ⟨k, _, rfl⟩ := hv
  rfl

theorem St.setRow {w0 : Gnd} {w : World} {rs : List Res} (h : St w0 w rs) (i : Nat) {b : Nat} {c : Array Value} {t : TypeId} {ht : ¬ U8T t} (hr : rs[i]? = some (arr b c t ht)) (c' : Array Value) : St w0 (w.setRow b c') (rs.set i (arr b c' t ht)) := by
  have hb : w.heap[b]? = some (.cells c t (0, 0)) := h.get hr
  have hf : Frm (Only b) w (w.setRow b c') := ⟨rfl, rfl, rfl, by rw [size_setRow]; exact Nat.le_refl _, fun k hk hne => setRow_other w b k c' (fun e => hne e)⟩
  exact h.write i hr hf (arr b c' t ht) (setRow_heap w b c c' t _ hb) (fun _ hx => .inl hx)

/-- Two results, the second a variable that is a whole array. -/
theorem results_tmp_row {P : Program} {fn : Func} {p0 p : Tmp} {ty : TypeId} (h : fn.results = #[.tmp p0, .cell p ty]) (tmps : Array Value) (w : World) (g : Nat) (t : TypeId) (cs : Array Value) (fr : Nat × Nat) (d : TypeDesc)
    (hp : tmps.getD p undef = .pointer (some ⟨g, 0, none⟩)) (hg : w.heap[g]? = some (.cells cs t fr)) (hu : P.underlying ty = some d) (hd : (match d with | .struct _ | .array _ _ => true | _ => false) = true) (hi : (P.info? ty).map (·.size) = some cs.size) :
    (results fn tmps).run P w = .ok (.tuple #[tmps.getD p0 undef, .agg cs]) w := by
  have hp' : tmps[p]?.getD undef = .pointer (some ⟨g, 0, none⟩) := by simpa using hp
  simp [results, h, hp', asAddr, run_loadVar_row w g t ty cs fr d hg hu hd hi]

/-- A state read whole out of a variable, its guard held or none. -/
theorem loadSt {ops : Array Oper} {rest : List Oper} {o : Oper} {a : Act} {w : World} {Q : Exit → Act → World → Prop} (hw : Region.wanted o (yielded ops a.tmps) = true) (x : Operand) (ho : o.op = .load 67 x) (g : Nat) (hx : a.eval x = .pointer (some ⟨g, 0, none⟩)) (f : Nat → Int)
    (hg : w.heap[g]? = some (.cells (stC 30 f) 67 (0, 0))) (h : wpList Try.prog ops Q rest (a.put o.dst (.agg (stC 30 f))) w) : wpList Try.prog ops Q (o :: rest) a w :=
  BigFrame.wpList_want hw fun K hK => wp_load_row _ x ho g hx _ (stC 30 f) _ _ hg Try.underlying67 rfl (infoSt f) (hK _ _ h)

/-- A state stored whole into a variable. -/
theorem storeSt {ops : Array Oper} {rest : List Oper} {o : Oper} {a : Act} {w : World} {Q : Exit → Act → World → Prop} (hgd : o.guard = none) (x y : Operand) (ho : o.op = .store 67 x y) (g : Nat) (f : Nat → Int) (hx : a.eval x = .pointer (some ⟨g, 0, none⟩)) (hy : a.eval y = .agg (stC 30 f)) (old : Array Value) (hold : old.size = 30)
    (hg : w.heap[g]? = some (.cells old 67 (0, 0))) (h : wpList Try.prog ops Q rest (a.put o.dst undef) (w.setRow g (stC 30 f))) : wpList Try.prog ops Q (o :: rest) a w :=
  wpList_store_row hgd _ x y ho g (stC 30 f) hx hy _ old hg (infoSt f) (by rw [hold, stC_size]) (stC_one _ _) h

/-- What 'changes' answers. -/
def ChangesRet (w0 : Gnd) (rs : List Res) (r : List Nat × List Int × (Nat → Int)) (e : Ending) (w' : World) : Prop :=
  ∃ v vs, e = .returned (.tuple #[v, .agg (stC 30 r.2.2)]) ∧ St w0 w' (chgs v ((chK r).map fun k : Nat => (k : Int)) vs (chD r) :: rs)

set_option maxHeartbeats 1000000 in
set_option maxRecDepth 100000 in
theorem S_changes {w0 : Gnd} {w : World} {rs : List Res} (h : St w0 w rs) (v : Value) (l : List (Int × Int)) (f : Nat → Int) (hv : ∀ y pre, St w0 y (pre ++ rs) → Pairs y v l) (hok : ∀ p ∈ l, okI p.1 ∧ okI p.2) (hl : ((l.length : Nat) : Int) ≤ 9223372036854775807) :
    Calls Try.prog 53 #[v, .agg (stC 30 f)] w (ChangesRet w0 rs (chTo l f l.length)) := by
  obtain ⟨a, cap, rfl, _⟩ := hv w [] h
  have HV := Lib.hid hv
  have HOK := Lib.hid hok
  have H0 := Lib.hid (h.newArr (stC 30 f) 67 neSt)
  clear h hv hok
  go_enter Try.func53, Try.ntmps53
  go_wp2_with fail
  have H2 := Lib.hid (((H0.out.newArr #[.int .i64 0, .int .i64 0, .int .i64 0, .int .i64 0, .int .i64 0, .int .i64 0, .int .i64 0, .int .i64 0, .int .i64 0, .int .i64 0, .int .i64 0, .int .i64 0, .int .i64 0, .int .i64 0, .int .i64 0, .int .i64 0, .int .i64 0, .int .i64 0, .int .i64 0, .int .i64 0, .int .i64 0, .int .i64 0, .int .i64 0, .int .i64 0, .int .i64 0, .int .i64 0, .int .i64 0, .int .i64 0, .int .i64 0, .int .i64 0] 67 neSt).newArr #[.bool false, .bool false, .bool false, .bool false, .bool false, .bool false, .bool false, .bool false, .bool false, .bool false, .bool false, .bool false, .bool false, .bool false, .bool false, .bool false, .bool false, .bool false, .bool false, .bool false, .bool false, .bool false, .bool false, .bool false, .bool false, .bool false, .bool false, .bool false, .bool false, .bool false] 148 neMt).noChgs)
  rw [size_alloc, size_alloc] at H2
  obtain ⟨w2, hw2⟩ : ∃ w2, w2 = ((w.alloc (.cells (stC 30 f) 67 (0, 0))).alloc (.cells #[.int .i64 0, .int .i64 0, .int .i64 0, .int .i64 0, .int .i64 0, .int .i64 0, .int .i64 0, .int .i64 0, .int .i64 0, .int .i64 0, .int .i64 0, .int .i64 0, .int .i64 0, .int .i64 0, .int .i64 0, .int .i64 0, .int .i64 0, .int .i64 0, .int .i64 0, .int .i64 0, .int .i64 0, .int .i64 0, .int .i64 0, .int .i64 0, .int .i64 0, .int .i64 0, .int .i64 0, .int .i64 0, .int .i64 0, .int .i64 0] 67 (0, 0))).alloc (.cells #[.bool false, .bool false, .bool false, .bool false, .bool false, .bool false, .bool false, .bool false, .bool false, .bool false, .bool false, .bool false, .bool false, .bool false, .bool false, .bool false, .bool false, .bool false, .bool false, .bool false, .bool false, .bool false, .bool false, .bool false, .bool false, .bool false, .bool false, .bool false, .bool false, .bool false] 148 (0, 0)) := ⟨_, rfl⟩
  rw [← hw2] at H2 ⊢
  clear hw2 H0
  rw [show (#[.int .i64 0, .int .i64 0, .int .i64 0, .int .i64 0, .int .i64 0, .int .i64 0, .int .i64 0, .int .i64 0, .int .i64 0, .int .i64 0, .int .i64 0, .int .i64 0, .int .i64 0, .int .i64 0, .int .i64 0, .int .i64 0, .int .i64 0, .int .i64 0, .int .i64 0, .int .i64 0, .int .i64 0, .int .i64 0, .int .i64 0, .int .i64 0, .int .i64 0, .int .i64 0, .int .i64 0, .int .i64 0, .int .i64 0, .int .i64 0] : Array Value) = stC 30 (fun _ => 0) from rfl, show (#[.bool false, .bool false, .bool false, .bool false, .bool false, .bool false, .bool false, .bool false, .bool false, .bool false, .bool false, .bool false, .bool false, .bool false, .bool false, .bool false, .bool false, .bool false, .bool false, .bool false, .bool false, .bool false, .bool false, .bool false, .bool false, .bool false, .bool false, .bool false, .bool false, .bool false] : Array Value) = metC 30 [] from rfl] at H2
  generalize w.heap.size + 1 + 1 = mb at *
  generalize w.heap.size + 1 = rb at *
  generalize w.heap.size = sb at *
  go_loopw [6, 8, 9, 10] (fun v6 t _ _ wr => ∃ (i : Nat) (vs : List Value), i ≤ l.length ∧ t = .int .i64 i ∧ St w0 wr (chgs v6 ((chK (chTo l f i)).map fun k : Nat => (k : Int)) vs (chD (chTo l f i)) :: arr mb (metC 30 (chTo l f i).1) 148 neMt :: arr rb (stC 30 (fun _ => 0)) 67 neSt :: arr sb (stC 30 (chTo l f i).2.2) 67 neSt :: rs)) (fun _ t _ _ _ => l.length - (intOf t).toNat)
  case atStart => exact ⟨0, [], Nat.zero_le _, rfl, H2.out⟩
  case round =>
    clear H2
    obtain ⟨i, vs, hi, rfl, hst⟩ := hrel
    have HST := Lib.hid hst
    clear hst
    by_cases hlt : i < l.length
    · have hi0 : (0 : Int) ≤ (i : Int) := Int.natCast_nonneg _
      have hi1 : (i : Int) < (l.length : Int) := by omega
      obtain ⟨p, hp⟩ : ∃ p, l[i]? = some p := ⟨_, List.getElem?_eq_getElem hlt⟩
      obtain ⟨_, _, e0, hcl⟩ := HV.out wr [_, _, _, _] HST.out
      injection e0 with e1 e2 e3
      subst e1
      obtain ⟨gb, go, rfl, _, c1, _⟩ := hcl i p hp
      have HPK := Lib.hid (HOK.out p (List.mem_of_getElem? hp))
      have HP := Lib.hid hp
      obtain ⟨x, y⟩ := p
      simp only at c1 HPK
      obtain ⟨q, hq⟩ : ∃ q : Nat, x % 30 = (q : Int) := ⟨(x % 30).toNat, by omega⟩
      have hq30 : q < 30 := by omega
      have hq0 : (0 : Int) ≤ (q : Int) := Int.natCast_nonneg _
      have hq1 : (q : Int) < 30 := by omega
      obtain ⟨R, hR⟩ : ∃ R, chTo l f i = R := ⟨_, rfl⟩
      have HSTEP : Hid (chTo l f (i + 1) = if R.1.contains q then R else (R.1 ++ [q], R.2.1 ++ [y % 200], setS R.2.2 q (y % 200))) := Lib.hid (by
        have hg : l.getD i (0, 0) = (x, y) := by rw [List.getD_eq_getElem?_getD, HP.out]; rfl
        conv => lhs; unfold chTo
        simp only [hR, hg, hq, Int.toNat_natCast])
      rw [hR] at HST
      have HRR := Lib.hid hR
      have c3 : wr.cell? ⟨mb, q, none⟩ = some (.bool (R.1.contains q)) := (HST.out.arrCell (i := 1) rfl q).trans (metC_get 30 _ q hq30)
      have f3 : wr.frozen? ⟨mb, q, none⟩ = false := HST.out.arrFree (i := 1) rfl q
      clear hp e2 e3 hcl hR
      go_wp2_with fail
      refine (Round_any _ x 30 HPK.out.1 (by omega) (by omega)).mono ?_
      rintro e w3 ⟨rfl, rfl⟩
      rw [hq]
      have HQ := Lib.hid hq
      clear hq c1
      by_cases hct : R.1.contains q = true
      · rw [hct] at c3
        have HS2 : Hid (chTo l f (i + 1) = R) := Lib.hid (by rw [HSTEP.out, if_pos hct])
        have H5 := HST.out
        rw [← HS2.out] at H5
        have H5 := Lib.hid H5
        clear hct
        go_wp2
        first | exact ⟨⟨i + 1, _, hlt, by go_num, H5.out⟩, by simp [intOf]; omega⟩ | (go_roundw; case rel => first | exact ⟨i + 1, _, hlt, by go_num, H5.out⟩ | ((repeat apply Exists.intro); exact ⟨⟨i + 1, _, hlt, by go_num, H5.out⟩, rfl⟩); case measure => simp [intOf]; omega)
      · have hct : R.1.contains q = false := by simpa using hct
        rw [hct] at c3
        have HS2 : Hid (chTo l f (i + 1) = (R.1 ++ [q], R.2.1 ++ [y % 200], setS R.2.2 q (y % 200))) := Lib.hid (by rw [HSTEP.out, if_neg (by rw [hct]; simp)])
        have h4 := HST.out.setArr 1 rfl q (.bool true)
        rw [metC_set] at h4
        have H4 := Lib.hid h4
        clear h4 HST
        go_upto_region 9 with (fail)
        obtain ⟨w4, hw4⟩ : ∃ w4, w4 = wr.setCell ⟨mb, q, none⟩ (.bool true) := ⟨_, rfl⟩
        rw [← hw4] at H4 ⊢
        clear hw4 c3 f3 hct
        have c2 : w4.cell? ⟨gb, go + i * 2 + 1, none⟩ = some (.int .i64 y) := by
          obtain ⟨_, _, e0, hcl⟩ := HV.out w4 [_, _, _, _] H4.out
          injection e0 with e1 e2 e3
          subst e1
          obtain ⟨_, _, e4, _, _, c2⟩ := hcl i (x, y) HP.out
          injection e4 with e4
          injection e4 with e4 e5
          subst e4 e5
          exact c2
        go_wp2_with fail
        refine (Round_any _ y 200 HPK.out.2 (by omega) (by omega)).mono ?_
        rintro e w5 ⟨rfl, rfl⟩
        obtain ⟨z, hz⟩ : ∃ z, y % 200 = z := ⟨_, rfl⟩
        rw [hz]
        rw [hz] at HS2
        clear c2 hz
        go_wp2_with fail
        refine (S_Block H4.out z).mono ?_
        rintro e w5 ⟨u, rfl, h5⟩
        obtain ⟨ub, uo, uc, rfl, _⟩ := (h5.get (i := 0) rfl).cells
        rw [blockOf_length] at h5 ⊢
        have H5 := Lib.hid h5
        clear h5 H4
        have HLN : Hid (((chK R).map fun k : Nat => (k : Int)).length ≤ 30) := Lib.hid (by
          have : R = chTo l f i := by have := HSTEP; exact (HRR.out).symm
          rw [List.length_map, chK, List.length_map, this]; exact (chTo_ok 0 l f i).few)
        have HO := Lib.hid (World.ownsRow.alloc (H5.out.get (i := 1) rfl).1 (.cells #[.int .i64 (245 + (q : Int)), .slice (some ⟨ub, uo, none⟩) 512 uc] 64 (0, 0)))
        have HNW : Hid (∀ (j : Nat) x, ([.int .i64 (245 + (q : Int)), .slice (some ⟨ub, uo, none⟩) 512 uc] : List Value)[j]? = some x → (w5.alloc (.cells #[.int .i64 (245 + (q : Int)), .slice (some ⟨ub, uo, none⟩) 512 uc] 64 (0, 0))).cell? ((⟨w5.heap.size, 0, none⟩ : Addr).add j) = some x) := Lib.hid (new_two w5 _ _ _)
        obtain ⟨LN, hLN⟩ : ∃ n, ((chK R).map fun k : Nat => (k : Int)).length = n := ⟨_, rfl⟩
        rw [hLN] at HO HLN
        obtain ⟨ii, hi0i, hz0, hz1, hz2⟩ := info_parts infoChg
        have HLNN := Lib.hid hLN
        clear hLN
        go_wp2_with (at_builtin; refine wpList_append_own_at _ rfl _ _ 62 rfl 0 64 ii (.agg #[.int .i64 0, .slice none 0 0]) 2 32 Try.underlying62 hi0i hz0 hz1 hz2 rfl (by decide) _ _ _ rfl HO.out ⟨w5.heap.size, 0, none⟩ 1 1 [.int .i64 (245 + (q : Int)), .slice (some ⟨ub, uo, none⟩) 512 uc] rfl rfl HNW.out ?c0 ?c1 ?c2 ?c3 ?_)
        case c0 => intro x hx; simp at hx; rcases hx with rfl | rfl <;> rfl
        case c1 => simp only [maxLen]; have := HLN.out; omega
        case c2 => have := HLN.out; omega
        try case c3 => omega
        intro v' w6 ho hg2 hnn hat
        have h7 := H5.out.chgsAppend 1 0 rfl rfl (245 + (q : Int)) (.cells #[.int .i64 (245 + (q : Int)), .slice (some ⟨ub, uo, none⟩) 512 uc] 64 (0, 0)) rfl (by rw [HLNN.out]; exact ho) hg2 (by rw [size_alloc]; first | exact hat | (rw [size_alloc] at hat; exact hat))
        have H7 := Lib.hid (h7.drop 1)
        clear ho hg2 hnn hat h7 HO HNW
        have c7 : w6.cell? ⟨sb, q, none⟩ = some (.int .i64 (R.2.2 q)) := (H7.out.arrCell (i := 3) rfl q).trans (stC_get 30 _ q hq30)
        have f7 : w6.frozen? ⟨sb, q, none⟩ = false := H7.out.arrFree (i := 3) rfl q
        have h8 := H7.out.setArr 3 rfl q (.int .i64 z)
        rw [stC_set] at h8
        have H8 : Hid (St w0 (w6.setCell ⟨sb, q, none⟩ (.int .i64 z)) (chgs v' ((chK (chTo l f (i + 1))).map fun k : Nat => (k : Int)) (vs ++ [.slice (some ⟨ub, uo, none⟩) 512 uc]) (chD (chTo l f (i + 1))) :: arr mb (metC 30 (chTo l f (i + 1)).1) 148 neMt :: arr rb (stC 30 (fun _ => 0)) 67 neSt :: arr sb (stC 30 (chTo l f (i + 1)).2.2) 67 neSt :: rs)) := Lib.hid (by
          rw [HS2.out]
          have e1 : (chK (R.1 ++ [q], R.2.1 ++ [z], setS R.2.2 q z)).map (fun k : Nat => (k : Int)) = (chK R).map (fun k : Nat => (k : Int)) ++ [245 + (q : Int)] := by
            unfold chK; simp
          have e2 : chD (R.1 ++ [q], R.2.1 ++ [z], setS R.2.2 q z) = chD R ++ [blockOf z] := by unfold chD; simp
          rw [e1, e2]
          exact h8)
        clear h8
        go_wp2
        first | exact ⟨⟨i + 1, _, hlt, by go_num, H8.out⟩, by simp [intOf]; omega⟩ | (go_roundw; case rel => first | exact ⟨i + 1, _, hlt, by go_num, H8.out⟩ | ((repeat apply Exists.intro); exact ⟨⟨i + 1, _, hlt, by go_num, H8.out⟩, rfl⟩); case measure => simp [intOf]; omega)
    · have hi1 : ¬ (i : Int) < (l.length : Int) := by omega
      have HIL : Hid (i = l.length) := Lib.hid (by omega)
      go_wp2_with fail
      have hrow : wr.drew.heap[sb]? = some (.cells (stC 30 (chTo l f i).2.2) 67 (0, 0)) := HST.out.get (i := 3) rfl
      have HROW := Lib.hid hrow
      have HOLD : Hid (wr.drew.heap[rb]? = some (.cells (stC 30 (fun _ => 0)) 67 (0, 0))) := Lib.hid (HST.out.get (i := 2) rfl)
      clear hrow
      refine wp_region_still_tail 3 (by kernel_rfl) (by kernel_rfl) ?_
      simp only [List.take_succ_cons, List.take_zero, List.drop_succ_cons, List.drop_zero]
      still_step
      refine wpStill_step (fun K hK => ?_)
      rw [if_pos (by simp [Region.wanted])]
      refine still_load_row _ _ rfl sb rfl _ _ _ _ HROW.out Try.underlying67 rfl (infoSt _) (hK _ ?_)
      clear hK K
      still_step
      refine wpStill_nil ?_
      change wpList _ _ _ _ _ wr.drew
      refine wpList_store_row rfl _ _ _ rfl rb (stC 30 (chTo l f i).2.2) rfl rfl _ _ HOLD.out (infoSt _) (by rw [stC_size, stC_size]) (stC_one _ _) ?_
      have H5 := (HST.out.frm0 ((Frm.refl NoB wr).drew)).setRow 2 rfl (stC 30 (chTo l f i).2.2)
      have HB5 : Hid ((wr.drew.setRow rb (stC 30 (chTo l f i).2.2)).heap[rb]? = some (.cells (stC 30 (chTo l f i).2.2) 67 (0, 0))) := Lib.hid (H5.get (i := 2) rfl)
      have H6 : Hid (St w0 _ (chgs u6 ((chK (chTo l f l.length)).map fun k : Nat => (k : Int)) vs (chD (chTo l f l.length)) :: rs)) := Lib.hid (by
        have := H5.drop2nd.drop2nd.drop2nd
        rw [← HIL.out]; exact this)
      clear H5 hi1
      obtain ⟨w6, hw6⟩ : ∃ w6, w6 = wr.drew.setRow rb (stC 30 (chTo l f i).2.2) := ⟨_, rfl⟩
      rw [← hw6] at H6 HB5 ⊢
      clear hw6
      go_wp2_with fail
      refine bodyPost_ret (results_tmp_row Try.results53 _ w6 rb _ _ _ _ rfl HB5.out Try.underlying67 rfl (infoSt _)) rfl ?_
      exact ⟨_, vs, by rw [HIL.out]; rfl, H6.out⟩
end Go.Proofs.Ytkanfpmmgaipnaa
