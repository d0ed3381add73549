/-
  append of one row of one's own to another; functions that do ops, one behind the other.; write: a commit laid into its slot.; commit: the journal's commit of changes, of which there may be none.; Commit, Sync, Read: of a journal that lives, that is dead, that is none.; A journal that lives over a device: what is known of both, as plain data.; bollardlaw4: fresh; Open over what is known; is; awake.; Commits over what is known; a row of one change; crashes; bollardlaw4.awake.
-/
import Derived.Test.YtkanfpmmgaipnaaM3
import Derived.Laws.OwnMore
import Derived.Deep.CutRange
import Derived.Deep.RegionLaw

/-
  append of one row of one's own to another; functions that do ops, one behind the other.
-/
namespace Go.Proofs.Ytkanfpmmgaipnaa
set_option linter.unusedVariables false
open Go.ChangeMaps Go.MapKept Go.RowKit

section
variable {P : Program}

/-- 'append(v, u...)' of two rows of one's own, of which u may be nil. -/
theorem run_append_rows (w : World) (base base2 : Nat) (t ty e : TypeId) (i : TypeInfo) (z : Value) (size bytes : Nat) (ht : P.underlying t = some (.slice e)) (hi : P.info? e = some i) (hz : i.zero = some z) (hsize : i.size = size) (hby : i.bytes = bytes)
    (hzs : z.cells.size = size) (hsz : 0 < size) (v : Value) (n : Nat) (xs : List Value) (hown : w.ownsRow base e size v n xs) (u : Value) (m : Nat) (ys : List Value) (hu : w.ownsRow base2 e size u m ys) (h1 : ∀ y ∈ ys, y.oneCell' = true)
    (h63 : n + m ≤ maxLen) (hbytes : (n + m) * bytes ≤ 140737488355328) (hbase : base ≤ w.heap.size) :
    ∃ v' w', (Builtin.append_ #[t, t] ty #[v, u]).run P w = .ok v' w' ∧ w'.ownsRow base e size v' (n + m) (xs ++ ys) ∧ w.grownBy w' v.ownBlock ∧ (v'.ownBlock = v.ownBlock ∨ v'.ownBlock = some w.heap.size) := by
  rcases hu.2 with ⟨rfl, rfl⟩ | ⟨g, cap, cur, rfl, _⟩
  · have hys : ys = [] := List.eq_nil_of_length_eq_zero (by simpa using hu.1)
    subst hys
    refine ⟨v, w, ?_, by simpa using hown, World.grownBy.refl w _, .inl rfl⟩
    rcases hown.2 with ⟨rfl, rfl⟩ | ⟨g, cap, cur, rfl, _, _, hnc, _⟩
    · simp [Builtin.append_, run_underlying ht, sizeOf, typeInfo, hi, Builtin.lenOf, Builtin.firstCells]
    · simp [Builtin.append_, run_underlying ht, sizeOf, typeInfo, hi, Builtin.lenOf, Builtin.firstCells, hnc, storeCells]
  · obtain ⟨v', w', h, h2, h3, _, h5⟩ := run_append_own_at (P := P) w base t ty e i z size bytes ht hi hz hsize hby hzs hsz v n xs hown ⟨g, 0, none⟩ m cap ys hu.1 (hu.cells (g := g) rfl) h1 h63 hbytes hbase
    exact ⟨v', w', h, h2, h3, h5⟩

theorem wpList_append_rows {w : World} {ops : Array Oper} {rest : List Oper} {o : Oper} {a : Act} {Q : Exit → Act → World → Prop} (hgd : o.guard = none) (s x : Operand) (t : TypeId)
    (ho : o.op = .call { callee := .builtin .append, args := #[s, x], argTypes := #[t, t] })
    (base base2 : Nat) (e : TypeId) (i : TypeInfo) (z : Value) (size bytes : Nat) (ht : P.underlying t = some (.slice e)) (hi : P.info? e = some i) (hz : i.zero = some z) (hsize : i.size = size) (hby : i.bytes = bytes)
    (hzs : z.cells.size = size) (hsz : 0 < size) (v : Value) (n : Nat) (xs : List Value) (hs : a.eval s = v) (hown : w.ownsRow base e size v n xs) (u : Value) (m : Nat) (ys : List Value) (hx : a.eval x = u) (hu : w.ownsRow base2 e size u m ys) (h1 : ∀ y ∈ ys, y.oneCell' = true)
    (h63 : n + m ≤ maxLen) (hbytes : (n + m) * bytes ≤ 140737488355328) (hbase : base ≤ w.heap.size)
    (h : ∀ v' w', w'.ownsRow base e size v' (n + m) (xs ++ ys) → w.grownBy w' v.ownBlock → (v'.ownBlock = v.ownBlock ∨ v'.ownBlock = some w.heap.size) → wpList P ops Q rest (a.put o.dst v') w') : wpList P ops Q (o :: rest) a w := by
  refine wpList_plain hgd fun K hK => ?_
  obtain ⟨v', w', hr, h2, h3, h5⟩ := run_append_rows (P := P) w base base2 t o.type e i z size bytes ht hi hz hsize hby hzs hsz v n xs hown u m ys hu h1 h63 hbytes hbase
  unfold Oper.wp execOp
  simp only [ho, resolve, invoke, builtin, Sem.run_bind, Sem.run_pure, Result.andThen_ok, List.map_toArray, List.map_cons, List.map_nil, hs, hx, hr]
  exact hK _ _ (h v' w' h2 h3 h5)
end

/-- append to a row of one's own, as a step of a region that draws its order. -/
theorem step_append_own {P : Program} {ops : Array Oper} {o : Oper} {a : Act} {w : World} {K : Act → World → Prop} {Q : Exit → Act → World → Prop} {E : Prop} (hgd : o.guard = none) (s x : Operand) (t : TypeId)
    (ho : o.op = .call { callee := .builtin .append, args := #[s, x], argTypes := #[t, t] })
    (base : Nat) (e : TypeId) (i : TypeInfo) (z : Value) (size bytes : Nat) (ht : P.underlying t = some (.slice e)) (hi : P.info? e = some i) (hz : i.zero = some z) (hsize : i.size = size) (hby : i.bytes = bytes) (hzs : z.cells.size = size) (hsz : 0 < size)
    (v : Value) (n : Nat) (xs : List Value) (hs : a.eval s = v) (hown : w.ownsRow base e size v n xs) (ad : Addr) (m c : Nat) (news : List Value) (hx : a.eval x = .slice (some ad) m c) (hl : news.length = m * size)
    (hnews : ∀ j u, news[j]? = some u → w.cell? (ad.add j) = some u) (h1 : ∀ u ∈ news, u.oneCell' = true) (h63 : n + m ≤ maxLen) (hbytes : (n + m) * bytes ≤ 140737488355328) (hbase : base ≤ w.heap.size)
    (h : ∀ v' w', w'.ownsRow base e size v' (n + m) (xs ++ news) → w.grownBy w' v.ownBlock → (v'.ownBlock = v.ownBlock ∨ v'.ownBlock = some w.heap.size) → K (a.put o.dst v') w') :
    if Region.wanted o (yielded ops a.tmps) = true then Oper.wp P o a w K Q else E := by
  rw [if_pos (show Region.wanted o (yielded ops a.tmps) = true by simp [Region.wanted, hgd])]
  obtain ⟨v', w', hr, h2, h3, h4, h5⟩ := run_append_own_at (P := P) w base t o.type e i z size bytes ht hi hz hsize hby hzs hsz v n xs hown ad m c news hl hnews h1 h63 hbytes hbase
  unfold Oper.wp execOp
  simp only [ho, resolve, invoke, builtin, Sem.run_bind, Sem.run_pure, Result.andThen_ok, List.map_toArray, List.map_cons, List.map_nil, hs, hx, hr]
  exact h v' w' h2 h3 h5

/-- A row that was made in place. -/
theorem St.rowLit {w0 : Gnd} {w : World} {rs : List Res} (h : St w0 w rs) (t : TypeId) (ht : ¬ U8T t) (s : Nat) (c : Array Value) (n : Nat) (hm : n ≤ maxLen) (hs : c.size = n * s) :
    St w0 (w.alloc (.cells c t (0, 0))) (rowR t ht s (.slice (some ⟨w.heap.size, 0, none⟩) n n) n c.toList :: rs) :=
  h.make ((Frm.refl _ _).alloc _) (rowR t ht s _ _ _) (World.ownsRow_lit w c n (Nat.zero_le _) hm hs) (fun x hx => by
    have e : some w.heap.size = some x := hx
    injection e with e
    omega)

/-! ### Functions that do ops -/

theorem set_pre (pre rs : List Res) (a : Nat) (X Y : Res) : (pre ++ rs.set a X).set (pre.length + a) Y = pre ++ rs.set a Y := by
  rw [List.set_append_right _ _ (by omega), show pre.length + a - pre.length = a from by omega, List.set_set]

theorem get_pre (pre rs : List Res) (a : Nat) (X : Res) (h : a < rs.length) : (pre ++ rs.set a X)[pre.length + a]? = some X := by
  rw [List.getElem?_append_right (by omega), show pre.length + a - pre.length = a from by omega, List.getElem?_set_self h]

/-- tries, where each function does ops of the device. -/
theorem tries_ops {w0 : Gnd} {w : World} {pre rs : List Res} (h : St w0 w (pre ++ rs)) (a i0 : Nat) {H : Hdl} {D : DSt} (hr : rs[a]? = some (dev H D)) {blk cap n : Nat} {xs : List Value} {ht : ¬ U8T (33 : TypeId)}
    (hrow : pre[i0]? = some (rowR 33 ht 1 (.slice (some ⟨blk, 0, none⟩) n cap) n xs)) (g : Nat → FuncId) (fst cp : Nat → Array Value) (hx : ∀ i, i < n → xs[i]? = some (.func (.func (g i)) (fst i) (cp i)))
    (he : ∀ i, i < n → EntersF Try.prog (g i)) (hn : n ≤ 1000000) (L : List (List DOp)) (hL : L.length = n)
    (hs : ∀ i E W, i < n → E.n = D.n → E.ops ≤ D.ops + (L.take i).flatten.length → St w0 W (pre ++ rs.set a (dev H E)) → Calls Try.prog (g i) (fst i ++ cp i) W (OpsRet w0 (pre ++ rs.set a (dev H E)) (pre.length + a) H (L.getD i []) E)) :
    Calls Try.prog 91 #[.slice (some ⟨blk, 0, none⟩) n cap] w fun e w' => e = .returned (.int .i64 (endD L.flatten D)) ∧ St w0 w' (pre ++ rs.set a (dev H (runD L.flatten D))) := by
  have ha : a < rs.length := (List.getElem?_eq_some_iff.1 hr).1
  refine (tries_any w blk 0 n cap (fun i W => endD (L.take i).flatten D = 0 ∧ St w0 W (pre ++ rs.set a (dev H (runD (L.take i).flatten D))))
    (fun x W => x = endD L.flatten D ∧ St w0 W (pre ++ rs.set a (dev H (runD L.flatten D)))) g fst cp ?_ ?_ he hn ?_).mono ?_
  · refine ⟨rfl, ?_⟩
    have e : rs.set a (dev H D) = rs := by
      obtain ⟨h1, h2⟩ := List.getElem?_eq_some_iff.1 hr
      rw [← h2]; exact List.set_getElem_self h1
    show St w0 w (pre ++ rs.set a (dev H D))
    rw [e]; exact h
  · intro i W hi hW
    have hi0 : i0 < pre.length := (List.getElem?_eq_some_iff.1 hrow).1
    have ho : W.ownsRow 0 33 1 (.slice (some ⟨blk, 0, none⟩) n cap) n xs := hW.2.get (i := i0) (by rw [List.getElem?_append_left hi0]; exact hrow)
    have h1 := ho.cells (g := blk) rfl i _ (hx i hi)
    rw [show (⟨blk, 0, none⟩ : Addr).add i = ⟨blk, 0 + i, none⟩ from by unfold Addr.add; split <;> simp_all] at h1
    exact h1
  · intro i W hi hW
    have hsplit : (L.take (i + 1)).flatten = (L.take i).flatten ++ L.getD i [] := by
      rw [List.take_succ_eq_append_getElem (by omega), List.flatten_append, List.getD_eq_getElem?_getD, List.getElem?_eq_getElem (by omega)]
      simp
    obtain ⟨e1, e2⟩ := runD_append (L.take i).flatten (L.getD i []) D hW.1
    rw [← hsplit] at e1 e2
    refine (hs i _ W hi (runD_n _ _) (runD_ops _ _) hW.2).mono fun e w' hret => ⟨_, hret.1, fun h0 => ⟨e2.trans h0, ?_⟩, fun h0 => ?_⟩
    · have := hret.2
      rw [set_pre, ← e1] at this
      exact this
    · have h9 := (endD_cases (L.getD i []) (runD (L.take i).flatten D)).resolve_left h0
      have hst := runD_stop (L.take (i + 1)).flatten (L.drop (i + 1)).flatten D (e2.trans h9)
      rw [← List.flatten_append, List.take_append_drop] at hst
      have := hret.2
      rw [set_pre, ← e1, ← hst.1] at this
      exact ⟨h9.trans hst.2.symm, this⟩
  · rintro e w' (⟨h1, h2, h3⟩ | ⟨x, hx, h1, h2, h3⟩)
    · rw [List.take_of_length_le (by omega)] at h2 h3
      exact ⟨by rw [h1, h2], h3⟩
    · exact ⟨by rw [h1, h2], h3⟩

/-- The same, the functions told one by one. -/
theorem tries_ops1 {w0 : Gnd} {w : World} {pre rs : List Res} (h : St w0 w (pre ++ rs)) (a i0 : Nat) {H : Hdl} {D : DSt} (hr : rs[a]? = some (dev H D)) {blk cap n : Nat} {xs : List Value} {ht : ¬ U8T (33 : TypeId)}
    (hrow : pre[i0]? = some (rowR 33 ht 1 (.slice (some ⟨blk, 0, none⟩) n cap) n xs)) (hn : n ≤ 1000000) (L : List (List DOp)) (hL : L.length = n)
    (hs : ∀ i, i < n → ∃ (g : FuncId) (fst cp : Array Value), xs[i]? = some (.func (.func g) fst cp) ∧ EntersF Try.prog g ∧ ∀ E W, E.n = D.n → E.ops ≤ D.ops + (L.take i).flatten.length → St w0 W (pre ++ rs.set a (dev H E)) → Calls Try.prog g (fst ++ cp) W (OpsRet w0 (pre ++ rs.set a (dev H E)) (pre.length + a) H (L.getD i []) E)) :
    Calls Try.prog 91 #[.slice (some ⟨blk, 0, none⟩) n cap] w fun e w' => e = .returned (.int .i64 (endD L.flatten D)) ∧ St w0 w' (pre ++ rs.set a (dev H (runD L.flatten D))) := by
  have hch : ∃ G : Nat → FuncId × Array Value × Array Value, ∀ i, i < n → xs[i]? = some (.func (.func (G i).1) (G i).2.1 (G i).2.2) ∧ EntersF Try.prog (G i).1 ∧ ∀ E W, E.n = D.n → E.ops ≤ D.ops + (L.take i).flatten.length → St w0 W (pre ++ rs.set a (dev H E)) → Calls Try.prog (G i).1 ((G i).2.1 ++ (G i).2.2) W (OpsRet w0 (pre ++ rs.set a (dev H E)) (pre.length + a) H (L.getD i []) E) :=
    ⟨fun i => if h : i < n then ((hs i h).choose, (hs i h).choose_spec.choose, (hs i h).choose_spec.choose_spec.choose) else (0, #[], #[]), fun i hi => by
      simp only [dif_pos hi]
      exact (hs i hi).choose_spec.choose_spec.choose_spec⟩
  obtain ⟨G, hG⟩ := hch
  exact tries_ops h a i0 hr hrow (fun i => (G i).1) (fun i => (G i).2.1) (fun i => (G i).2.2) (fun i hi => (hG i hi).1) (fun i hi => (hG i hi).2.1) hn L hL (fun i E W hi h1 h2 h3 => (hG i hi).2.2 E W h1 h2 h3)

theorem flatten_take_le (L : List (List DOp)) (i : Nat) : (L.take i).flatten.length ≤ L.flatten.length := by
  have e : L.flatten = (L.take i).flatten ++ (L.drop i).flatten := by rw [← List.flatten_append, List.take_append_drop]
  rw [e, List.length_append]; omega

theorem flatten_ones : ∀ l : List DOp, (l.map fun o => [o]).flatten = l
  | [] => rfl
  | o :: r => by
    show [o] ++ (r.map fun o => [o]).flatten = _
    rw [flatten_ones r]; rfl

theorem dataFrom_get (t : Nat) : ∀ (l : List Blk) (i j : Nat) (b : Blk), l[j]? = some b → (dataFrom t i l)[j]? = some (.wr (slotB t + 1 + (i + j)) b)
  | [], _, _, _, h => by simp at h
  | c :: r, i, 0, b, h => by simp at h; subst h; rfl
  | c :: r, i, j + 1, b, h => by
    have := dataFrom_get t r (i + 1) j b (by simpa using h)
    rw [show i + 1 + j = i + (j + 1) from by omega] at this
    exact this

/-- Behind an append to a row (in this very world). -/
theorem St.rowAppend0 {w0 : Gnd} {w : World} {rs : List Res} (h : St w0 w rs) (i : Nat) {t : TypeId} {ht : ¬ U8T t} {s n : Nat} {v : Value} {xs : List Value} (hr : rs[i]? = some (rowR t ht s v n xs)) {v' : Value} {w' : World} {m : Nat} {ys : List Value}
    (ho : w'.ownsRow 0 t s v' m ys) (hg : w.grownBy w' v.ownBlock) (hat : v'.ownBlock = v.ownBlock ∨ v'.ownBlock = some w.heap.size) :
    St w0 w' (rs.set i (rowR t ht s v' m ys)) := by
  refine h.write i hr ((Frm.ofGrown hg).mono (fun y _ e => e)) (rowR t ht s v' m ys) ho (fun x hx => ?_)
  rcases hat with e | e
  · exact .inl (show v.ownBlock = some x from e ▸ (show v'.ownBlock = some x from hx))
  · have hx : v'.ownBlock = some x := hx
    rw [e] at hx
    have e' : w.heap.size = x := by injection hx
    exact .inr (by omega)
end Go.Proofs.Ytkanfpmmgaipnaa

/-
  write: a commit laid into its slot.
-/
namespace Go.Proofs.Ytkanfpmmgaipnaa
set_option linter.unusedVariables false
open Go.ChangeMaps Go.MapKept Go.RowKit

/-- The blocks of what write's closures captured, the last first: of each change its number and the change. -/
def capW (ks : List Nat) (vs : List Value) : List (Nat × Nat) → List Res
  | [] => []
  | p :: r => arr p.1 #[.int .i64 (r.length : Int)] 3 neI8 :: arr p.2 #[.int .i64 (ks.getD r.length 0 : Nat), vs.getD r.length undef] 64 neChg :: capW ks vs r

/-- The closures. -/
def wFns (bj bn : Nat) : List (Nat × Nat) → List Value
  | [] => []
  | p :: r => wFns bj bn r ++ [.func (.func 114) #[] #[.pointer (some ⟨bj, 0, none⟩), .pointer (some ⟨bn, 0, none⟩), .pointer (some ⟨p.1, 0, none⟩), .pointer (some ⟨p.2, 0, none⟩)]]

theorem wFns_length (bj bn : Nat) : ∀ l, (wFns bj bn l).length = l.length
  | [] => rfl
  | p :: r => by rw [wFns, List.length_append, wFns_length bj bn r]; rfl

theorem wFns_one (bj bn : Nat) : ∀ l, ∀ u ∈ wFns bj bn l, u.oneCell' = true
  | [], u, h => by cases h
  | p :: r, u, h => by
    rw [wFns] at h
    rcases List.mem_append.1 h with h | h
    · exact wFns_one bj bn r u h
    · simp at h; subst h; rfl

theorem capW_get (ks : List Nat) (vs : List Value) (bj bn : Nat) : ∀ (l : List (Nat × Nat)) (i : Nat), i < l.length → ∃ p : Nat × Nat,
    (wFns bj bn l)[i]? = some (.func (.func 114) #[] #[.pointer (some ⟨bj, 0, none⟩), .pointer (some ⟨bn, 0, none⟩), .pointer (some ⟨p.1, 0, none⟩), .pointer (some ⟨p.2, 0, none⟩)]) ∧
    arr p.1 #[.int .i64 (i : Int)] 3 neI8 ∈ capW ks vs l ∧ arr p.2 #[.int .i64 (ks.getD i 0 : Nat), vs.getD i undef] 64 neChg ∈ capW ks vs l
  | [], i, h => by simp at h
  | p :: r, i, h => by
    rcases Nat.lt_or_ge i r.length with hi | hi
    · obtain ⟨q, h1, h2, h3⟩ := capW_get ks vs bj bn r i hi
      refine ⟨q, ?_, List.mem_cons_of_mem _ (List.mem_cons_of_mem _ h2), List.mem_cons_of_mem _ (List.mem_cons_of_mem _ h3)⟩
      rw [wFns, List.getElem?_append_left (by rw [wFns_length]; exact hi)]
      exact h1
    · obtain rfl : i = r.length := by simp at h; omega
      refine ⟨p, ?_, ?_, ?_⟩
      · rw [wFns, List.getElem?_append_right (by rw [wFns_length]; omega), wFns_length, Nat.sub_self]; rfl
      · unfold capW; exact List.mem_cons_self ..
      · unfold capW; exact List.mem_cons_of_mem _ (List.mem_cons_self ..)

theorem laidM_any (W : World) (nb g n m : Nat) (hb : W.heap[nb]? = some (.cells #[.int .u64 g, .int .u64 n, .int .u64 m] 133 (0, 0))) (hg : g < 18446744073709551616) (hn : n < 18446744073709551616) (hm : m < 18446744073709551616) :
    Calls Try.prog 97 #[.string { data := #[66, 79, 76, 76, 65, 82, 68, 72] }, .slice (some ⟨nb, 0, none⟩) 3 3] W fun e w' => ∃ vb vo vc, e = .returned (.slice (some ⟨vb, vo, none⟩) 512 vc) ∧ Frm NoB W w' ∧ BytesAt w' (.slice (some ⟨vb, vo, none⟩) 512 vc) (laidB markL [g, n, m]) (Fresh W) :=
  (laid_any W { data := #[66, 79, 76, 76, 65, 82, 68, 72] } _ [g, n, m] ⟨_, _, rfl, fun i x hx => by
      obtain ⟨h1, h2⟩ := List.getElem?_eq_some_iff.1 hx
      have h3 : i < 3 := by simpa using h1
      refine ⟨nb, 0, rfl, lt_of_block hb, ?_⟩
      rw [cell_of_block hb, ← h2]
      rcases (by omega : i = 0 ∨ i = 1 ∨ i = 2) with rfl | rfl | rfl <;> rfl⟩ (by decide) (by simp) (fun x hx => by simp at hx; rcases hx with rfl | rfl | rfl <;> assumption)).mono fun _ _ ⟨hf, v, e, hb⟩ => by
    obtain ⟨vb, vo, vc, rfl, _⟩ := hb.cells
    have hL : (laidB ({ data := #[66, 79, 76, 76, 65, 82, 68, 72] } : ByteArray).data.toList [g, n, m]).length = 512 := mark3_length g n m
    rw [hL] at e hb
    exact ⟨vb, vo, vc, e, hf, hb⟩

theorem entWr1 : EntersF Try.prog 114 := entersF_of Try.func114 (by kernel_rfl) rfl
theorem entWr2 : EntersF Try.prog 115 := entersF_of Try.func115 (by kernel_rfl) rfl

set_option maxHeartbeats 1000000 in
set_option maxRecDepth 100000 in
theorem S_write {w0 : Gnd} {w : World} {rs : List Res} (h : St w0 w rs) (a ij iv io iq : Nat) {H : Hdl} {D : DSt} {jb mb last g : Nat} {ov : Value} {om : List Nat} {dm : List Blk} {c : Array Value} {t1 : ¬ U8T (138 : TypeId)}
    (hr : rs[a]? = some (dev H D)) (hj : rs[ij]? = some (arr jb c 138 t1)) (hov : rs[io]? = some (rowI ov om)) (hmb : rs[iq]? = some (chg mb (last % 4) dm)) (hc0 : c[0]? = some (.pointer (some ⟨H.b, 0, none⟩))) (hc1 : c[1]? = some (.int .u64 g)) (hc2 : c[2]? = some (.int .u64 last)) (hc4 : c[4]? = some ov) (hc5 : c[5]? = some (.map (some mb)))
    {v : Value} {ks : List Nat} {vs : List Value} {ds : List Blk} (hl : rs[iv]? = some (chgs v (ks.map fun k : Nat => (k : Int)) vs ds)) (hmay : MayL D.n ks ds) (hd512 : ∀ d ∈ ds, d.length = 512)
    (hlen : dm.length = om.length) (ho60 : om.length ≤ 60) (hho : ∀ k ∈ om, k < D.n) (hb512 : ∀ b ∈ dm, b.length = 512) (hla : last + 1 < 18446744073709551616) (hg : g < 18446744073709551616) (hD : 246 ≤ D.n) (hn : D.n ≤ 65536) (ho : D.ops < 1000000000)
    (q1 : ij ≠ a) (q2 : io ≠ a) (q3 : iq ≠ a) (q4 : iv ≠ a) :
    Calls Try.prog 106 #[.pointer (some ⟨jb, 0, none⟩), v] w (OpsRet w0 rs a H (writeOps g last om dm ks ds) D) := by
  obtain ⟨va, vc, rfl⟩ := h.chgsLen hl
  rw [List.length_map] at hl ⊢
  have hkl : ((ks.length : Nat) : Int) ≤ 60 := by have := hmay.few; omega
  have hkl0 : (0 : Int) ≤ ((ks.length : Nat) : Int) := Int.natCast_nonneg _
  obtain ⟨n, hnn⟩ : ∃ n, last + 1 = n := ⟨_, rfl⟩
  have hla0 : (0 : Int) ≤ (last : Int) := Int.natCast_nonneg _
  have hwn : IntKind.u64.wrap ((last : Int) + 1) = (n : Int) := by rw [u64_in (by omega) (by omega)]; omega
  have H1 := Lib.hid (h.newArr #[.pointer (some ⟨jb, 0, none⟩)] 59 neJp)
  have c2 : w.cell? ⟨jb, 2, none⟩ = some (.int .u64 last) := (h.arrCell hj 2).trans hc2
  have hjl : jb < w.heap.size := lt_of_block (h.get hj)
  have hwk : IntKind.u64.wrap ((ks.length : Nat) : Int) = ((ks.length : Nat) : Int) := u64_in (by omega) (by omega)
  have H2 := Lib.hid (H1.out.newArr #[.int .u64 n] 133 neU64)
  have HLD : Hid (∀ W nb, (W.heap[nb]? = some (.cells #[.int .u64 g, .int .u64 n, .int .u64 (ks.length : Nat)] 133 (0, 0)) ∧ ∀ x, w0.Z x → x < W.heap.size) → Calls Try.prog 97 #[.string { data := #[66, 79, 76, 76, 65, 82, 68, 72] }, .slice (some ⟨nb, 0, none⟩) 3 3] W fun e w' => ∃ vb vo vc, e = .returned (.slice (some ⟨vb, vo, none⟩) 512 vc) ∧ Frm NoB W w' ∧ BytesAt w' (.slice (some ⟨vb, vo, none⟩) 512 vc) (laidB markL [g, n, ks.length]) AnyB) :=
    Lib.hid fun W nb hb => (laidM_any W nb g n _ hb.1 hg (by omega) (by have := hmay.few; omega)).mono fun _ _ ⟨vb, vo, vc, a, b, c⟩ => ⟨vb, vo, vc, a, b, c.any⟩
  have HR := Lib.hid hr
  have HJ := Lib.hid hj
  have HOV := Lib.hid hov
  have HMB := Lib.hid hmb
  have HC := Lib.hid (And.intro hc0 (And.intro hc1 (And.intro hc2 (And.intro hc4 hc5))))
  have HL := Lib.hid hl
  have HMAY := Lib.hid hmay
  have H512 := Lib.hid hd512
  have HLEN := Lib.hid hlen
  have HO60 := Lib.hid ho60
  have HHO := Lib.hid hho
  have HB512 := Lib.hid hb512
  have HLA := Lib.hid hla
  have HGG := Lib.hid hg
  have HDN := Lib.hid (And.intro hD hn)
  have HO := Lib.hid ho
  have HNN := Lib.hid hnn
  have HQ := Lib.hid (And.intro q1 (And.intro q2 (And.intro q3 q4)))
  clear h hr hj hov hmb hc0 hc1 hc2 hc4 hc5 hl hmay hd512 hlen ho60 hho hb512 hla hg hD hn ho hnn q1 q2 q3 q4 H1
  go_enter Try.func106, Try.ntmps106
  go_wp2_with fail
  clear c2 hwn hla0
  obtain ⟨w2, hw2⟩ : ∃ w2, w2 = (w.alloc (.cells #[.pointer (some ⟨jb, 0, none⟩)] 59 (0, 0))).alloc (.cells #[.int .u64 n] 133 (0, 0)) := ⟨_, rfl⟩
  rw [size_alloc, ← hw2] at H2
  rw [← hw2]
  clear hw2 hjl
  generalize w.heap.size + 1 = bn at *
  generalize w.heap.size = bj at *
  go_cut [6] from 15 to 24 (fun t wx => ∃ bh v, t = .pointer (some ⟨bh, 0, none⟩) ∧ St w0 wx (arr bh #[v] 31 neBs :: byt v (laidB markL [g, n, ks.length]) :: arr bn #[.int .u64 n] 133 neU64 :: arr bj #[.pointer (some ⟨jb, 0, none⟩)] 59 neJp :: rs))
  case first =>
    have KA : Hid (∀ y, Frm NoB w2 y → y.cell? ⟨bj, 0, none⟩ = some (.pointer (some ⟨jb, 0, none⟩)) ∧ y.cell? ⟨jb, 1, none⟩ = some (.int .u64 g) ∧ y.cell? ⟨bn, 0, none⟩ = some (.int .u64 n)) := Lib.hid fun y hy =>
      ⟨((H2.out.frm0 hy).arrCell (i := 1) rfl 0).trans rfl, ((H2.out.frm0 hy).arrCell (i := ij + 2) HJ.out 1).trans HC.out.2.1, ((H2.out.frm0 hy).arrCell (i := 0) rfl 0).trans rfl⟩
    obtain ⟨c1, c2, c3⟩ := KA.out w2 (Frm.refl _ _)
    have HK1 : Hid ((w2.alloc (.cells #[.int .u64 g, .int .u64 n, .int .u64 (ks.length : Nat)] 133 (0, 0))).drew.heap[w2.heap.size]? = some (.cells #[.int .u64 g, .int .u64 n, .int .u64 (ks.length : Nat)] 133 (0, 0)) ∧ ∀ x, w0.Z x → x < (w2.alloc (.cells #[.int .u64 g, .int .u64 n, .int .u64 (ks.length : Nat)] 133 (0, 0))).drew.heap.size) := Lib.hid ⟨block_alloc_new _ _, (H2.out.frm0 (((Frm.refl NoB w2).alloc (.cells #[.int .u64 g, .int .u64 n, .int .u64 (ks.length : Nat)] 133 (0, 0))).drew)).zin⟩
    have HK2 : Hid (((w2.alloc (.cells #[.slice none 0 0] 31 (0, 0))).alloc (.cells #[.int .u64 g, .int .u64 n, .int .u64 (ks.length : Nat)] 133 (0, 0))).drew.heap[w2.heap.size + 1]? = some (.cells #[.int .u64 g, .int .u64 n, .int .u64 (ks.length : Nat)] 133 (0, 0)) ∧ ∀ x, w0.Z x → x < ((w2.alloc (.cells #[.slice none 0 0] 31 (0, 0))).alloc (.cells #[.int .u64 g, .int .u64 n, .int .u64 (ks.length : Nat)] 133 (0, 0))).drew.heap.size) := Lib.hid (by refine ⟨?_, (H2.out.frm0 ((((Frm.refl NoB w2).alloc (.cells #[.slice none 0 0] 31 (0, 0))).alloc (.cells #[.int .u64 g, .int .u64 n, .int .u64 (ks.length : Nat)] 133 (0, 0))).drew)).zin⟩; rw [← size_alloc w2 (.cells #[.slice none 0 0] 31 (0, 0))]; exact block_alloc_new _ _)
    have HK3 : Hid (((w2.alloc (.cells #[.int .u64 g, .int .u64 n, .int .u64 (ks.length : Nat)] 133 (0, 0))).alloc (.cells #[.slice none 0 0] 31 (0, 0))).drew.heap[w2.heap.size]? = some (.cells #[.int .u64 g, .int .u64 n, .int .u64 (ks.length : Nat)] 133 (0, 0)) ∧ ∀ x, w0.Z x → x < ((w2.alloc (.cells #[.int .u64 g, .int .u64 n, .int .u64 (ks.length : Nat)] 133 (0, 0))).alloc (.cells #[.slice none 0 0] 31 (0, 0))).drew.heap.size) := Lib.hid ⟨block_alloc_old _ (block_alloc_new _ _), (H2.out.frm0 ((((Frm.refl NoB w2).alloc (.cells #[.int .u64 g, .int .u64 n, .int .u64 (ks.length : Nat)] 133 (0, 0))).alloc (.cells #[.slice none 0 0] 31 (0, 0))).drew)).zin⟩
    go_region_held3 (fun y => y.cell? ⟨bj, 0, none⟩ = some (.pointer (some ⟨jb, 0, none⟩)) ∧ y.cell? ⟨jb, 1, none⟩ = some (.int .u64 g) ∧ y.cell? ⟨bn, 0, none⟩ = some (.int .u64 n))
      (first | (refine KA.out _ ?_; first | assumption | exact hF3 | exact hF3.alloc _ | exact hF3.setCell (.inr (Nat.le_succ _)) _ | exact hF3.setCell (.inr (Nat.le_refl _)) _ | exact (Frm.refl NoB w2).drew | exact ((Frm.refl NoB w2).drew).alloc _ | exact (((Frm.refl NoB w2).drew).alloc _).alloc _ | exact ⟨rfl, rfl, rfl, Nat.le_refl _, fun _ _ _ => rfl⟩))
      (first
        | (go_at_call 97; (with_reducible refine (HLD.out (w2.alloc (.cells #[.int .u64 g, .int .u64 n, .int .u64 (ks.length : Nat)] 133 (0, 0))).drew w2.heap.size HK1.out).mono ?_); rintro e w3 ⟨vb, vo, vcap, rfl, hf3, hb3⟩; have hF3 : Frm NoB w2 w3 := (((Frm.refl NoB w2).alloc (.cells #[.int .u64 g, .int .u64 n, .int .u64 (ks.length : Nat)] 133 (0, 0))).drew).trans hf3 (fun _ _ e => e); have hA := hF3)
        | (go_at_call 97; (with_reducible refine (HLD.out ((w2.alloc (.cells #[.slice none 0 0] 31 (0, 0))).alloc (.cells #[.int .u64 g, .int .u64 n, .int .u64 (ks.length : Nat)] 133 (0, 0))).drew (w2.heap.size + 1) HK2.out).mono ?_); rintro e w3 ⟨vb, vo, vcap, rfl, hf3, hb3⟩; have hF3 : Frm NoB w2 w3 := ((((Frm.refl NoB w2).alloc (.cells #[.slice none 0 0] 31 (0, 0))).alloc (.cells #[.int .u64 g, .int .u64 n, .int .u64 (ks.length : Nat)] 133 (0, 0))).drew).trans hf3 (fun _ _ e => e); have hB : w3.heap[w2.heap.size]? = some (.cells #[.slice none 0 0] 31 (0, 0)) := (hf3.block _ (by rw [World.size_drew, size_alloc, size_alloc]; omega) (fun e => e)).trans (block_alloc_old _ (block_alloc_new _ _)); have hB1 : w3.cell? ⟨w2.heap.size, 0, none⟩ = some (.slice none 0 0) := cell_of_block hB; have hB2 : w3.frozen? ⟨w2.heap.size, 0, none⟩ = false := frozen_of_block hB)
        | (go_at_call 97; (with_reducible refine (HLD.out ((w2.alloc (.cells #[.int .u64 g, .int .u64 n, .int .u64 (ks.length : Nat)] 133 (0, 0))).alloc (.cells #[.slice none 0 0] 31 (0, 0))).drew w2.heap.size HK3.out).mono ?_); rintro e w3 ⟨vb, vo, vcap, rfl, hf3, hb3⟩; have hF3 : Frm NoB w2 w3 := ((((Frm.refl NoB w2).alloc (.cells #[.int .u64 g, .int .u64 n, .int .u64 (ks.length : Nat)] 133 (0, 0))).alloc (.cells #[.slice none 0 0] 31 (0, 0))).drew).trans hf3 (fun _ _ e => e); have hC : w3.heap[w2.heap.size + 1]? = some (.cells #[.slice none 0 0] 31 (0, 0)) := (hf3.block _ (by rw [World.size_drew, size_alloc, size_alloc]; omega) (fun e => e)).trans (by rw [← size_alloc w2 (.cells #[.int .u64 g, .int .u64 n, .int .u64 (ks.length : Nat)] 133 (0, 0))]; exact block_alloc_new _ _); have hC1 : w3.cell? ⟨w2.heap.size + 1, 0, none⟩ = some (.slice none 0 0) := cell_of_block hC; have hC2 : w3.frozen? ⟨w2.heap.size + 1, 0, none⟩ = false := frozen_of_block hC))
    · have hfin : St w0 _ (arr w3.heap.size #[.slice (some ⟨vb, vo, none⟩) 512 vcap] 31 neBs :: byt (.slice (some ⟨vb, vo, none⟩) 512 vcap) (laidB markL [g, n, ks.length]) :: arr bn #[.int .u64 n] 133 neU64 :: arr bj #[.pointer (some ⟨jb, 0, none⟩)] 59 neJp :: rs) :=
        ((H2.out.frm0 hF3).make (Frm.refl _ _) (byt _ _) hb3 (fun _ h => h.elim)).newArr #[.slice (some ⟨vb, vo, none⟩) 512 vcap] 31 neBs
      have HFIN := Lib.hid hfin
      clear hfin c1 c2 c3 hwk hF3 hf3 hb3
      go_wp2_with fail
      go_meet
      first | exact ⟨_, _, rfl, HFIN.out⟩ | (case rel => exact ⟨_, _, rfl, HFIN.out⟩)
    · have hfin : St w0 _ (arr (w2.heap.size + 1) #[.slice (some ⟨vb, vo, none⟩) 512 vcap] 31 neBs :: byt (.slice (some ⟨vb, vo, none⟩) 512 vcap) (laidB markL [g, n, ks.length]) :: arr bn #[.int .u64 n] 133 neU64 :: arr bj #[.pointer (some ⟨jb, 0, none⟩)] 59 neJp :: rs) :=
        ((H2.out.make hF3 (arr (w2.heap.size + 1) #[.slice none 0 0] 31 neBs) hC (fun x hx => by obtain rfl : x = w2.heap.size + 1 := hx; omega)).make (Frm.refl _ _) (byt _ _) hb3 (fun _ h => h.elim)).swap.setArr 0 rfl 0 _
      have HFIN := Lib.hid hfin
      clear hfin c1 c2 c3 hwk hF3 hf3 hb3 hC hC1 hC2
      go_wp2_with fail
      go_meet
      first | exact ⟨_, _, rfl, HFIN.out⟩ | (case rel => exact ⟨_, _, rfl, HFIN.out⟩)
    · have hfin : St w0 _ (arr w2.heap.size #[.slice (some ⟨vb, vo, none⟩) 512 vcap] 31 neBs :: byt (.slice (some ⟨vb, vo, none⟩) 512 vcap) (laidB markL [g, n, ks.length]) :: arr bn #[.int .u64 n] 133 neU64 :: arr bj #[.pointer (some ⟨jb, 0, none⟩)] 59 neJp :: rs) :=
        ((H2.out.make hF3 (arr w2.heap.size #[.slice none 0 0] 31 neBs) hB (fun x hx => by obtain rfl : x = w2.heap.size := hx; exact Nat.le_refl _)).make (Frm.refl _ _) (byt _ _) hb3 (fun _ h => h.elim)).swap.setArr 0 rfl 0 _
      have HFIN := Lib.hid hfin
      clear hfin c1 c2 c3 hwk hF3 hf3 hb3 hB hB1 hB2
      go_wp2_with fail
      go_meet
      first | exact ⟨_, _, rfl, HFIN.out⟩ | (case rel => exact ⟨_, _, rfl, HFIN.out⟩)
  case rest =>
    obtain ⟨bh, v0, rfl, hst0⟩ := hcut
    have HST0 := Lib.hid hst0
    clear hst0 H2 HLD
    go_wp2_with fail
    go_loopw [7, 8, 9, 27] (fun v7 _ _ t wr => ∃ (l : List (Nat × Nat)) (hv : Value), l.length ≤ ks.length ∧ t = .int .i64 l.length ∧ St w0 wr (rowR 33 neFn 1 v7 l.length (wFns bj bn l) :: arr bh #[hv] 31 neBs :: byt hv (headPut (laidB markL [g, n, ks.length]) 0 (ks.take l.length)) :: (capW ks vs l ++ (arr bn #[.int .u64 n] 133 neU64 :: arr bj #[.pointer (some ⟨jb, 0, none⟩)] 59 neJp :: rs)))) (fun _ _ _ t _ => ks.length - (intOf t).toNat)
    case atStart => exact ⟨[], _, Nat.zero_le _, rfl, HST0.out.rowNil _ _ _⟩
    case round =>
      clear HST0
      obtain ⟨l, hv, hk, rfl, hst⟩ := hrel
      have HST := Lib.hid hst
      clear hst
      by_cases hlt : l.length < ks.length
      · have hk0 : (0 : Int) ≤ (l.length : Int) := Int.natCast_nonneg _
        have hk1 : (l.length : Int) < (ks.length : Int) := by omega
        obtain ⟨x, hx⟩ : ∃ x, ks[l.length]? = some x := ⟨_, List.getElem?_eq_getElem hlt⟩
        have hvi : ∀ X : Res, ∀ pre : List Res, ∀ Y Z, (pre ++ (Y :: Z :: rs))[pre.length + 2 + iv]? = rs[iv]? := fun X pre Y Z => by
          rw [List.getElem?_append_right (by omega), show pre.length + 2 + iv - pre.length = iv + 1 + 1 from by omega]; rfl
        have hget : (rowR 33 neFn 1 u7 l.length (wFns bj bn l) :: arr bh #[hv] 31 neBs :: byt hv (headPut (laidB markL [g, n, ks.length]) 0 (ks.take l.length)) :: (capW ks vs l ++ (arr bn #[.int .u64 n] 133 neU64 :: arr bj #[.pointer (some ⟨jb, 0, none⟩)] 59 neJp :: rs)))[(capW ks vs l).length + 2 + iv + 3]? = some (chgs (.slice va ks.length vc) (ks.map fun k : Nat => (k : Int)) vs ds) := by
          rw [show (capW ks vs l).length + 2 + iv + 3 = (capW ks vs l).length + 2 + iv + 1 + 1 + 1 from by omega, List.getElem?_cons_succ, List.getElem?_cons_succ, List.getElem?_cons_succ, hvi voidR]; exact HL.out
        obtain ⟨gb, u, d, rfl, hgb, hu, hd, c1, c2, hbu⟩ := HST.out.chgsCell hget (j := l.length) (k := (x : Int)) (by rw [List.getElem?_map, hx]; rfl)
        obtain ⟨ub, uo, uc, rfl, _⟩ := hbu.cells
        obtain ⟨hvb, hvo, hvc, rfl, _⟩ := (HST.out.get (i := 2) rfl).cells
        have hd0 : (headPut (laidB markL [g, n, ks.length]) 0 (ks.take l.length)).length = 512 := headPut_length _ _ _ (mark3_length _ _ _) (by rw [List.length_take]; omega)
        have HTK := Lib.hid (headPut_take (laidB markL [g, n, ks.length]) ks l.length x hx)
        obtain ⟨hd, hhd⟩ : ∃ hd, headPut (laidB markL [g, n, ks.length]) 0 (ks.take l.length) = hd := ⟨_, rfl⟩
        rw [hhd] at HST hd0 HTK
        have HD0 := Lib.hid hd0
        obtain ⟨n512, hn512⟩ : ∃ n, hd.length = n := ⟨_, rfl⟩
        rw [hn512] at HST
        have hxk : x < 65536 := by have := HMAY.out.home x (List.mem_of_getElem? hx); have := HDN.out; omega
        have hx0 : (0 : Int) ≤ (x : Int) := Int.natCast_nonneg _
        have hwx : IntKind.u64.wrap (x : Int) = (x : Int) := u64_in hx0 (by omega)
        obtain ⟨p, hp⟩ : ∃ p : Nat, 32 + 4 * l.length = p := ⟨_, rfl⟩
        have hp2 : 32 + 4 * (l.length : Int) = (p : Int) := by omega
        rw [hp] at HTK
        have HP3 : Hid (p ≤ 508) := Lib.hid (by omega)
        have HBU := Lib.hid hbu
        have HU := Lib.hid hu
        have HX := Lib.hid hx
        have H6 := Lib.hid ((HST.out.newArr #[.int .i64 l.length] 3 neI8).newArr #[.int .i64 x, .slice (some ⟨ub, uo, none⟩) d.length uc] 64 neChg)
        rw [size_alloc] at H6
        obtain ⟨dl, hdl⟩ : ∃ m, d.length = m := ⟨_, rfl⟩
        rw [hdl] at H6 c2
        have HDL := Lib.hid hdl
        have c3 : wr.cell? ⟨bh, 0, none⟩ = some (.slice (some ⟨hvb, hvo, none⟩) n512 hvc) := (HST.out.arrCell (i := 1) rfl 0).trans rfl
        have hbh : bh < wr.heap.size := lt_of_block (HST.out.get (i := 1) rfl)
        obtain ⟨w4, hw4⟩ : ∃ w4, w4 = (wr.alloc (.cells #[.int .i64 (l.length : Int)] 3 (0, 0))).alloc (.cells #[.int .i64 (x : Int), .slice (some ⟨ub, uo, none⟩) dl uc] 64 (0, 0)) := ⟨_, rfl⟩
        have HPT : Hid (Calls Try.prog 109 #[.slice (some ⟨hvb, hvo, none⟩) n512 hvc, .int .i64 p, .int .i64 4, .bool false, .int .u64 x] w4 fun e w' => ∃ vb vo vc, e = .returned (.tuple #[.slice (some ⟨vb, vo, none⟩) 512 vc, .bool true]) ∧ St w0 w' (byt (.slice (some ⟨vb, vo, none⟩) 512 vc) (putLE hd p 4 x) :: arr (wr.heap.size + 1) #[.int .i64 x, .slice (some ⟨ub, uo, none⟩) dl uc] 64 neChg :: arr wr.heap.size #[.int .i64 l.length] 3 neI8 :: rowR 33 neFn 1 u7 l.length (wFns bj bn l) :: arr bh #[.slice (some ⟨hvb, hvo, none⟩) n512 hvc] 31 neBs :: byt (.slice (some ⟨hvb, hvo, none⟩) n512 hvc) hd :: (capW ks vs l ++ (arr bn #[.int .u64 n] 133 neU64 :: arr bj #[.pointer (some ⟨jb, 0, none⟩)] 59 neJp :: rs)))) := Lib.hid (by
          rw [hw4]
          refine (bitsPut_any _ _ hd p 4 x AnyB (H6.out.get (i := 4) rfl) (by omega) (by omega) (by have := HD0.out; have := HP3.out; omega) (by rw [HD0.out]; omega) (by omega)).mono ?_
          rintro e w' ⟨hf, v', he, hb⟩
          have hln : (putLE hd p 4 x).length = 512 := (putLE_length _ _ _ _ (by have := HD0.out; have := HP3.out; omega)).trans HD0.out
          obtain ⟨vb, vo, vc, rfl, _⟩ := hb.cells
          rw [hln] at he hb
          exact ⟨vb, vo, vc, he, H6.out.mkByt hf hb⟩)
        clear hdl hbu hu hx hp hxk hd0 hhd hget hvi hn512 HST
        go_wp2_with fail
        rw [← hw4]
        clear hw4 H6 c1 c2 c3 hwx
        refine HPT.out.mono ?_
        clear HPT
        rintro e w5 ⟨vb, vo, vcc, rfl, h5⟩
        have c3 : w5.cell? ⟨bh, 0, none⟩ = some (.slice (some ⟨hvb, hvo, none⟩) n512 hvc) := (h5.arrCell (i := 4) rfl 0).trans rfl
        have fz3 : w5.frozen? ⟨bh, 0, none⟩ = false := h5.arrFree (i := 4) rfl 0
        have h6 := (h5.setArr 4 rfl 0 (.slice (some ⟨vb, vo, none⟩) 512 vcc)).sub ((((((List.sublist_cons_self _ _).cons_cons _).cons_cons _).cons_cons _).cons_cons _).cons_cons _)
        have h7 := h6.perm (rs' := rowR 33 neFn 1 u7 l.length (wFns bj bn l) :: arr bh #[.slice (some ⟨vb, vo, none⟩) 512 vcc] 31 neBs :: byt (.slice (some ⟨vb, vo, none⟩) 512 vcc) (putLE hd p 4 x) :: arr wr.heap.size #[.int .i64 l.length] 3 neI8 :: arr (wr.heap.size + 1) #[.int .i64 x, .slice (some ⟨ub, uo, none⟩) dl uc] 64 neChg :: (capW ks vs l ++ (arr bn #[.int .u64 n] 133 neU64 :: arr bj #[.pointer (some ⟨jb, 0, none⟩)] 59 neJp :: rs))) (by
          have e1 := (List.perm_append_comm (l₁ := [byt (.slice (some ⟨vb, vo, none⟩) 512 vcc) (putLE hd p 4 x), arr (wr.heap.size + 1) #[.int .i64 x, .slice (some ⟨ub, uo, none⟩) dl uc] 64 neChg, arr wr.heap.size #[.int .i64 l.length] 3 neI8]) (l₂ := [rowR 33 neFn 1 u7 l.length (wFns bj bn l), arr bh #[.slice (some ⟨vb, vo, none⟩) 512 vcc] 31 neBs])).append_right (capW ks vs l ++ (arr bn #[.int .u64 n] 133 neU64 :: arr bj #[.pointer (some ⟨jb, 0, none⟩)] 59 neJp :: rs))
          exact e1.trans (List.Perm.cons _ (List.Perm.cons _ (List.Perm.cons _ (List.Perm.swap _ _ _)))))
        have H7 := Lib.hid h7
        clear h5 h6 h7
        go_upto_region 8 with (fail)
        obtain ⟨w6, hw6⟩ : ∃ w6, w6 = w5.setCell ⟨bh, 0, none⟩ (.slice (some ⟨vb, vo, none⟩) 512 vcc) := ⟨_, rfl⟩
        rw [← hw6] at H7 ⊢
        clear hw6 c3 fz3
        generalize wr.heap.size + 1 = bc at *
        generalize wr.heap.size = bi at *
        have HO := Lib.hid (World.ownsRow.alloc (H7.out.get (i := 0) rfl) (.cells #[.func (.func 114) #[] #[.pointer (some ⟨bj, 0, none⟩), .pointer (some ⟨bn, 0, none⟩), .pointer (some ⟨bi, 0, none⟩), .pointer (some ⟨bc, 0, none⟩)]] 33 (0, 0)))
        have HN : Hid (∀ (j : Nat) u, ([.func (.func 114) #[] #[.pointer (some ⟨bj, 0, none⟩), .pointer (some ⟨bn, 0, none⟩), .pointer (some ⟨bi, 0, none⟩), .pointer (some ⟨bc, 0, none⟩)]] : List Value)[j]? = some u → (w6.alloc (.cells #[.func (.func 114) #[] #[.pointer (some ⟨bj, 0, none⟩), .pointer (some ⟨bn, 0, none⟩), .pointer (some ⟨bi, 0, none⟩), .pointer (some ⟨bc, 0, none⟩)]] 33 (0, 0))).cell? ((⟨w6.heap.size, 0, none⟩ : Addr).add j) = some u) := Lib.hid (new_one w6 _ _)
        obtain ⟨ii, hi0i, hz0, hz1, hz2⟩ := info_parts infoFn
        have hmf : ∀ (fn : Fn) (first cap : Array Value) (W : World), (Instr.makeFunc fn first cap).run Try.prog W = .ok (.func fn first cap) W := fun _ _ _ _ => rfl
        have hk60 : (l.length : Int) ≤ 60 := by omega
        go_wp2_with (at_builtin; refine wpList_append_own_at _ rfl _ _ 146 rfl 0 33 ii .nilFunc 1 8 Try.underlying146 hi0i hz0 hz1 hz2 rfl (by decide) _ _ _ rfl HO.out ⟨w6.heap.size, 0, none⟩ 1 1 [.func (.func 114) #[] #[.pointer (some ⟨bj, 0, none⟩), .pointer (some ⟨bn, 0, none⟩), .pointer (some ⟨bi, 0, none⟩), .pointer (some ⟨bc, 0, none⟩)]] rfl rfl HN.out ?c0 ?c1 ?c2 ?c3 ?_)
        case c0 => intro u hu; simp at hu; subst hu; rfl
        case c1 => simp only [maxLen]; omega
        case c2 => omega
        case c3 => omega
        intro v8 w8 ho hg2 hnn hat
        have h9 := H7.out.rowAppend 0 rfl (.cells #[.func (.func 114) #[] #[.pointer (some ⟨bj, 0, none⟩), .pointer (some ⟨bn, 0, none⟩), .pointer (some ⟨bi, 0, none⟩), .pointer (some ⟨bc, 0, none⟩)]] 33 (0, 0)) ho hg2 (by rw [size_alloc]; first | exact hat | (rw [size_alloc] at hat; exact hat))
        have H9 : Hid (St w0 w8 (rowR 33 neFn 1 v8 ((bi, bc) :: l).length (wFns bj bn ((bi, bc) :: l)) :: arr bh #[.slice (some ⟨vb, vo, none⟩) 512 vcc] 31 neBs :: byt (.slice (some ⟨vb, vo, none⟩) 512 vcc) (headPut (laidB markL [g, n, ks.length]) 0 (ks.take ((bi, bc) :: l).length)) :: (capW ks vs ((bi, bc) :: l) ++ (arr bn #[.int .u64 n] 133 neU64 :: arr bj #[.pointer (some ⟨jb, 0, none⟩)] 59 neJp :: rs)))) := Lib.hid (by
          have e1 : ks.getD l.length 0 = x := by rw [List.getD_eq_getElem?_getD, HX.out]; rfl
          have e2 : vs.getD l.length undef = .slice (some ⟨ub, uo, none⟩) dl uc := by rw [List.getD_eq_getElem?_getD, HU.out, HDL.out]; rfl
          show St w0 w8 (rowR 33 neFn 1 v8 (l.length + 1) _ :: _ :: byt _ (headPut _ 0 (ks.take (l.length + 1))) :: arr bi #[.int .i64 (l.length : Int)] 3 neI8 :: arr bc #[.int .i64 (ks.getD l.length 0 : Nat), vs.getD l.length undef] 64 neChg :: _)
          rw [HTK.out, e1, e2]
          exact h9)
        clear ho hg2 hnn hat h9 HO HN hmf
        go_wp2
        first | exact ⟨⟨(bi, bc) :: l, _, hlt, by go_num, H9.out⟩, by simp [intOf]; omega⟩ | (go_roundw; case rel => first | exact ⟨(bi, bc) :: l, _, hlt, by go_num, H9.out⟩ | ((repeat apply Exists.intro); exact ⟨⟨(bi, bc) :: l, _, hlt, by go_num, H9.out⟩, rfl⟩); case measure => simp [intOf]; omega)
      · have hk1 : ¬ (l.length : Int) < (ks.length : Int) := by omega
        have HLL : Hid (l.length = ks.length) := Lib.hid (by omega)
        have hk60 : (l.length : Int) ≤ 60 := by omega
        have hmf : ∀ (fn : Fn) (first cap : Array Value) (W : World), (Instr.makeFunc fn first cap).run Try.prog W = .ok (.func fn first cap) W := fun _ _ _ _ => rfl
        have cj : ∀ W X rs', rs'[ij]? = some (arr jb c 138 t1) → St w0 W (X :: arr bh #[hv] 31 neBs :: byt hv (headPut (laidB markL [g, n, ks.length]) 0 (ks.take l.length)) :: (capW ks vs l ++ (arr bn #[.int .u64 n] 133 neU64 :: arr bj #[.pointer (some ⟨jb, 0, none⟩)] 59 neJp :: rs'))) → W.cell? ⟨bj, 0, none⟩ = some (.pointer (some ⟨jb, 0, none⟩)) ∧ W.cell? ⟨jb, 0, none⟩ = some (.pointer (some ⟨H.b, 0, none⟩)) := fun W X rs' hij hW => by
          have e1 : ∀ (q : Nat) (r : Res), (arr bn #[.int .u64 n] 133 neU64 :: arr bj #[.pointer (some ⟨jb, 0, none⟩)] 59 neJp :: rs')[q]? = some r → (X :: arr bh #[hv] 31 neBs :: byt hv (headPut (laidB markL [g, n, ks.length]) 0 (ks.take l.length)) :: (capW ks vs l ++ (arr bn #[.int .u64 n] 133 neU64 :: arr bj #[.pointer (some ⟨jb, 0, none⟩)] 59 neJp :: rs')))[(capW ks vs l).length + q + 1 + 1 + 1]? = some r := fun q r hq => by
            rw [List.getElem?_cons_succ, List.getElem?_cons_succ, List.getElem?_cons_succ, List.getElem?_append_right (by omega), show (capW ks vs l).length + q - (capW ks vs l).length = q from by omega]; exact hq
          exact ⟨(hW.arrCell (e1 1 _ rfl) 0).trans rfl, (hW.arrCell (e1 (ij + 2) _ hij) 0).trans HC.out.1⟩
        have HCJ := Lib.hid cj
        obtain ⟨c1, c2⟩ := cj wr _ _ HJ.out HST.out
        clear cj
        have H5 := Lib.hid (HST.out.rowLit 33 neFn 1 #[.func (.func 92) #[.pointer (some ⟨jb, 0, none⟩)] #[]] 1 (by decide) rfl)
        obtain ⟨ii, hi0i, hz0, hz1, hz2⟩ := info_parts infoFn
        have HA := Lib.hid (show (wr.alloc (.cells #[.func (.func 92) #[.pointer (some ⟨jb, 0, none⟩)] #[]] 33 (0, 0))).ownsRow 0 33 1 (.slice (some ⟨wr.heap.size, 0, none⟩) 1 1) 1 [.func (.func 92) #[.pointer (some ⟨jb, 0, none⟩)] #[]] from H5.out.get (i := 0) rfl)
        have HB := Lib.hid (show (wr.alloc (.cells #[.func (.func 92) #[.pointer (some ⟨jb, 0, none⟩)] #[]] 33 (0, 0))).ownsRow 0 33 1 u7 l.length (wFns bj bn l) from H5.out.get (i := 1) rfl)
        have HW1 := Lib.hid (wFns_one bj bn l)
        go_wp2_with (at_builtin; refine wpList_append_rows rfl _ _ 146 rfl 0 0 33 ii .nilFunc 1 8 Try.underlying146 hi0i hz0 hz1 hz2 rfl (by decide) _ _ _ rfl HA.out _ _ _ rfl HB.out HW1.out ?d1 ?d2 ?d3 ?_)
        case d1 => simp only [maxLen]; omega
        case d2 => omega
        try case d3 => omega
        intro v8 w8 ho hg2 hat
        have h9 := H5.out.rowAppend0 0 rfl ho hg2 (by rw [size_alloc]; exact hat)
        have H9 := Lib.hid ((show St w0 w8 (rowR 33 neFn 1 v8 (1 + l.length) _ :: rowR 33 neFn 1 u7 l.length (wFns bj bn l) :: _) from h9).drop2nd)
        clear ho hg2 hat h9 HA HB c1 c2 HST H5
        obtain ⟨c1, c2⟩ := HCJ.out _ _ _ HJ.out H9.out
        obtain ⟨gb8, gc8, rfl⟩ : ∃ gb gc, v8 = .slice (some ⟨gb, 0, none⟩) (1 + l.length) gc := by
          have ho : w8.ownsRow 0 33 1 v8 (1 + l.length) _ := H9.out.get (i := 0) rfl
          rcases ho.2 with hx | ⟨gb, gc, _, hx, _⟩
          · have := hx.2; omega
          · exact ⟨gb, gc, hx⟩
        have HOW := Lib.hid (show ((w8.alloc (.cells #[.func (.func 33) #[.pointer (some ⟨H.b, 0, none⟩)] #[], .func (.func 115) #[] #[.pointer (some ⟨bj, 0, none⟩), .pointer (some ⟨bn, 0, none⟩), .pointer (some ⟨bh, 0, none⟩)], .func (.func 33) #[.pointer (some ⟨H.b, 0, none⟩)] #[]] 33 (0, 0))).drew).ownsRow 0 33 1 (.slice (some ⟨gb8, 0, none⟩) (1 + l.length) gc8) (1 + l.length) (.func (.func 92) #[.pointer (some ⟨jb, 0, none⟩)] #[] :: wFns bj bn l) from World.ownsRow.alloc (H9.out.get (i := 0) rfl) (.cells #[.func (.func 33) #[.pointer (some ⟨H.b, 0, none⟩)] #[], .func (.func 115) #[] #[.pointer (some ⟨bj, 0, none⟩), .pointer (some ⟨bn, 0, none⟩), .pointer (some ⟨bh, 0, none⟩)], .func (.func 33) #[.pointer (some ⟨H.b, 0, none⟩)] #[]] 33 (0, 0)))
        have HN : Hid (∀ (j : Nat) u, ([.func (.func 33) #[.pointer (some ⟨H.b, 0, none⟩)] #[], .func (.func 115) #[] #[.pointer (some ⟨bj, 0, none⟩), .pointer (some ⟨bn, 0, none⟩), .pointer (some ⟨bh, 0, none⟩)], .func (.func 33) #[.pointer (some ⟨H.b, 0, none⟩)] #[]] : List Value)[j]? = some u → ((w8.alloc (.cells #[.func (.func 33) #[.pointer (some ⟨H.b, 0, none⟩)] #[], .func (.func 115) #[] #[.pointer (some ⟨bj, 0, none⟩), .pointer (some ⟨bn, 0, none⟩), .pointer (some ⟨bh, 0, none⟩)], .func (.func 33) #[.pointer (some ⟨H.b, 0, none⟩)] #[]] 33 (0, 0))).drew).cell? ((⟨w8.heap.size, 0, none⟩ : Addr).add j) = some u) := Lib.hid fun j u hj => by
          have e : ((⟨w8.heap.size, 0, none⟩ : Addr).add j) = ⟨w8.heap.size, j, none⟩ := by unfold Addr.add; split <;> simp_all
          rw [e]
          show (w8.alloc _).cell? _ = _
          rw [cell_of_block (block_alloc_new _ _), ← Array.getElem?_toList]
          exact hj
        have HC0 : Hid (∀ u ∈ ([.func (.func 33) #[.pointer (some ⟨H.b, 0, none⟩)] #[], .func (.func 115) #[] #[.pointer (some ⟨bj, 0, none⟩), .pointer (some ⟨bn, 0, none⟩), .pointer (some ⟨bh, 0, none⟩)], .func (.func 33) #[.pointer (some ⟨H.b, 0, none⟩)] #[]] : List Value), u.oneCell' = true) := Lib.hid (by intro u hu; simp at hu; rcases hu with rfl | rfl | rfl <;> rfl)
        have HC1 : Hid (1 + l.length + 3 ≤ maxLen) := Lib.hid (by simp only [maxLen]; omega)
        have HC2 : Hid ((1 + l.length + 3) * 8 ≤ 140737488355328) := Lib.hid (by omega)
        have HJS : Hid ((rs.set a (dev H (runD (writeOps g last om dm ks ds) D)))[ij]? = some (arr jb c 138 t1)) := Lib.hid (by rw [List.getElem?_set_ne (Ne.symm HQ.out.1)]; exact HJ.out)
        have HTR : Hid (∀ W v10, St w0 W (rowR 33 neFn 1 v10 (1 + l.length + 3) ((.func (.func 92) #[.pointer (some ⟨jb, 0, none⟩)] #[] :: wFns bj bn l) ++ [.func (.func 33) #[.pointer (some ⟨H.b, 0, none⟩)] #[], .func (.func 115) #[] #[.pointer (some ⟨bj, 0, none⟩), .pointer (some ⟨bn, 0, none⟩), .pointer (some ⟨bh, 0, none⟩)], .func (.func 33) #[.pointer (some ⟨H.b, 0, none⟩)] #[]]) :: arr bh #[hv] 31 neBs :: byt hv (headPut (laidB markL [g, n, ks.length]) 0 (ks.take l.length)) :: (capW ks vs l ++ (arr bn #[.int .u64 n] 133 neU64 :: arr bj #[.pointer (some ⟨jb, 0, none⟩)] 59 neJp :: rs))) → Calls Try.prog 91 #[v10] W fun e w' => e = .returned (.int .i64 (endD (writeOps g last om dm ks ds) D)) ∧ St w0 w' (rowR 33 neFn 1 v10 (1 + l.length + 3) ((.func (.func 92) #[.pointer (some ⟨jb, 0, none⟩)] #[] :: wFns bj bn l) ++ [.func (.func 33) #[.pointer (some ⟨H.b, 0, none⟩)] #[], .func (.func 115) #[] #[.pointer (some ⟨bj, 0, none⟩), .pointer (some ⟨bn, 0, none⟩), .pointer (some ⟨bh, 0, none⟩)], .func (.func 33) #[.pointer (some ⟨H.b, 0, none⟩)] #[]]) :: arr bh #[hv] 31 neBs :: byt hv (headPut (laidB markL [g, n, ks.length]) 0 (ks.take l.length)) :: (capW ks vs l ++ (arr bn #[.int .u64 n] 133 neU64 :: arr bj #[.pointer (some ⟨jb, 0, none⟩)] 59 neJp :: rs.set a (dev H (runD (writeOps g last om dm ks ds) D)))))) := Lib.hid (by
          intro W v10 hW
          obtain ⟨gb, gc, rfl⟩ : ∃ gb gc, v10 = .slice (some ⟨gb, 0, none⟩) (1 + l.length + 3) gc := by
            have ho : W.ownsRow 0 33 1 v10 (1 + l.length + 3) _ := hW.get (i := 0) rfl
            rcases ho.2 with hx | ⟨gb, gc, _, hx, _⟩
            · have := hx.2; omega
            · exact ⟨gb, gc, hx⟩
          obtain ⟨pre, hpre⟩ : ∃ pre, rowR 33 neFn 1 (.slice (some ⟨gb, 0, none⟩) (1 + l.length + 3) gc) (1 + l.length + 3) ((.func (.func 92) #[.pointer (some ⟨jb, 0, none⟩)] #[] :: wFns bj bn l) ++ [.func (.func 33) #[.pointer (some ⟨H.b, 0, none⟩)] #[], .func (.func 115) #[] #[.pointer (some ⟨bj, 0, none⟩), .pointer (some ⟨bn, 0, none⟩), .pointer (some ⟨bh, 0, none⟩)], .func (.func 33) #[.pointer (some ⟨H.b, 0, none⟩)] #[]]) :: arr bh #[hv] 31 neBs :: byt hv (headPut (laidB markL [g, n, ks.length]) 0 (ks.take l.length)) :: (capW ks vs l ++ [arr bn #[.int .u64 n] 133 neU64, arr bj #[.pointer (some ⟨jb, 0, none⟩)] 59 neJp]) = pre := ⟨_, rfl⟩
          have hjoin : ∀ rs', rowR 33 neFn 1 (.slice (some ⟨gb, 0, none⟩) (1 + l.length + 3) gc) (1 + l.length + 3) ((.func (.func 92) #[.pointer (some ⟨jb, 0, none⟩)] #[] :: wFns bj bn l) ++ [.func (.func 33) #[.pointer (some ⟨H.b, 0, none⟩)] #[], .func (.func 115) #[] #[.pointer (some ⟨bj, 0, none⟩), .pointer (some ⟨bn, 0, none⟩), .pointer (some ⟨bh, 0, none⟩)], .func (.func 33) #[.pointer (some ⟨H.b, 0, none⟩)] #[]]) :: arr bh #[hv] 31 neBs :: byt hv (headPut (laidB markL [g, n, ks.length]) 0 (ks.take l.length)) :: (capW ks vs l ++ (arr bn #[.int .u64 n] 133 neU64 :: arr bj #[.pointer (some ⟨jb, 0, none⟩)] 59 neJp :: rs')) = pre ++ rs' := fun rs' => by
            rw [← hpre]; simp
          rw [hjoin] at hW
          have hp0 : pre[0]? = some (rowR 33 neFn 1 (.slice (some ⟨gb, 0, none⟩) (1 + l.length + 3) gc) (1 + l.length + 3) ((.func (.func 92) #[.pointer (some ⟨jb, 0, none⟩)] #[] :: wFns bj bn l) ++ [.func (.func 33) #[.pointer (some ⟨H.b, 0, none⟩)] #[], .func (.func 115) #[] #[.pointer (some ⟨bj, 0, none⟩), .pointer (some ⟨bn, 0, none⟩), .pointer (some ⟨bh, 0, none⟩)], .func (.func 33) #[.pointer (some ⟨H.b, 0, none⟩)] #[]])) := by rw [← hpre]; rfl
          have hp1 : pre[1]? = some (arr bh #[hv] 31 neBs) := by rw [← hpre]; rfl
          have hp2 : pre[2]? = some (byt hv (headPut (laidB markL [g, n, ks.length]) 0 (ks.take l.length))) := by rw [← hpre]; rfl
          have hpc : ∀ (q : Nat) (r : Res), (capW ks vs l ++ [arr bn #[.int .u64 n] 133 neU64, arr bj #[.pointer (some ⟨jb, 0, none⟩)] 59 neJp])[q]? = some r → pre[q + 1 + 1 + 1]? = some r := fun q r hq => by rw [← hpre, List.getElem?_cons_succ, List.getElem?_cons_succ, List.getElem?_cons_succ]; exact hq
          have hpn : pre[(capW ks vs l).length + 0 + 1 + 1 + 1]? = some (arr bn #[.int .u64 n] 133 neU64) := hpc _ _ (by rw [List.getElem?_append_right (by omega), Nat.sub_self]; rfl)
          have hpj : pre[(capW ks vs l).length + 1 + 1 + 1 + 1]? = some (arr bj #[.pointer (some ⟨jb, 0, none⟩)] 59 neJp) := hpc _ _ (by rw [List.getElem?_append_right (by omega), Nat.add_sub_cancel_left]; rfl)
          have hpk : ∀ r, r ∈ capW ks vs l → ∃ q, pre[q]? = some r := fun r hr => by
            obtain ⟨q, hq⟩ := List.getElem?_of_mem hr
            exact ⟨_, hpc q r (by rw [List.getElem?_append_left (List.getElem?_eq_some_iff.1 hq).1]; exact hq)⟩
          clear hpre
          have hlt : ∀ (q : Nat) (r : Res), pre[q]? = some r → q < pre.length := fun q r hq => (List.getElem?_eq_some_iff.1 hq).1
          have hin : ∀ (q : Nat) (r : Res) (rs' : List Res), pre[q]? = some r → (pre ++ rs')[q]? = some r := fun q r rs' hq => by rw [List.getElem?_append_left (hlt q r hq)]; exact hq
          have hrr : ∀ (q : Nat) (r X : Res), rs[q]? = some r → q ≠ a → (pre ++ rs.set a X)[pre.length + q]? = some r := fun q r X hq hne => by
            rw [List.getElem?_append_right (by omega), Nat.add_sub_cancel_left, List.getElem?_set_ne (Ne.symm hne)]; exact hq
          have hal : a < rs.length := (List.getElem?_eq_some_iff.1 HR.out).1
          have hs4 : n % 4 = (last + 1) % 4 := by rw [HNN.out]
          have hn64 : n < 18446744073709551616 := by have := HNN.out; have := HLA.out; omega
          have hdl : ds.length = l.length := by rw [HMAY.out.len, HLL.out]
          have hE60 := HO60.out
          have hDo := HO.out
          have hD246 := HDN.out.1
          obtain ⟨L, hLd⟩ : ∃ L, [settleOps om dm] ++ ((dataFrom ((last + 1) % 4) 0 ds).map (fun o => [o]) ++ [[DOp.fl], [DOp.wr (slotB ((last + 1) % 4)) (headB g (last + 1) ks)], [DOp.fl]]) = L := ⟨_, rfl⟩
          have hfl : L.flatten = writeOps g last om dm ks ds := by
            rw [← hLd, List.flatten_append, List.flatten_append, flatten_ones]
            unfold writeOps
            simp
          have hflen : L.flatten.length ≤ 123 := by
            rw [hfl]
            unfold writeOps
            simp only [List.length_append, settleOps_length _ _ HLEN.out, dataFrom_length, List.length_cons, List.length_nil]
            omega
          have hLl : L.length = 1 + l.length + 3 := by rw [← hLd]; simp [dataFrom_length]; omega
          have hL0 : L.getD 0 [] = settleOps om dm := by rw [← hLd]; rfl
          have hLm : ∀ j, j < l.length → ∃ d, ds[j]? = some d ∧ L.getD (j + 1) [] = [.wr (slotB ((last + 1) % 4) + 1 + j) d] := fun j hj => by
            obtain ⟨d, hb⟩ : ∃ d, ds[j]? = some d := ⟨_, List.getElem?_eq_getElem (by rw [hdl]; exact hj)⟩
            refine ⟨_, hb, ?_⟩
            have hdf := dataFrom_get ((last + 1) % 4) ds 0 j _ hb
            rw [Nat.zero_add] at hdf
            rw [← hLd, List.getD_eq_getElem?_getD, List.getElem?_append_right (by simp), show j + 1 - [settleOps om dm].length = j from by simp, List.getElem?_append_left (by simp [dataFrom_length]; omega), List.getElem?_map, hdf]; rfl
          have hLt : ∀ k, L.getD (l.length + 1 + k) [] = [[DOp.fl], [DOp.wr (slotB ((last + 1) % 4)) (headB g (last + 1) ks)], [DOp.fl]].getD k [] := fun k => by
            rw [← hLd, List.getD_eq_getElem?_getD, List.getElem?_append_right (by simp <;> omega), show l.length + 1 + k - [settleOps om dm].length = l.length + k from by simp <;> omega, List.getElem?_append_right (by simp [dataFrom_length] <;> omega), show l.length + k - ((dataFrom ((last + 1) % 4) 0 ds).map (fun o => [o])).length = k from by simp [dataFrom_length] <;> omega, List.getD_eq_getElem?_getD]
          clear hLd
          have hxsl : ((.func (.func 92) #[.pointer (some ⟨jb, 0, none⟩)] #[] :: wFns bj bn l) : List Value).length = 1 + l.length := by simp [wFns_length]; omega
          refine ((tries_ops1 (D := D) hW a 0 HR.out hp0 (by omega) L hLl ?_).mono ?_)
          · intro i hi
            have hops : ∀ E : DSt, E.ops ≤ D.ops + (L.take i).flatten.length → E.ops < 2000000000 := fun E hE => by
              have := flatten_take_le L i; omega
            rcases (by omega : i = 0 ∨ (1 ≤ i ∧ i ≤ l.length) ∨ i = l.length + 1 + 0 ∨ i = l.length + 1 + 1 ∨ i = l.length + 1 + 2) with rfl | ⟨hi1, hi2⟩ | rfl | rfl | rfl
            · refine ⟨_, _, _, rfl, entSettle, fun E W' hEn hEo hW' => ?_⟩
              rw [hL0]
              exact S_settle hW' (pre.length + a) (pre.length + ij) (pre.length + io) (pre.length + iq) (get_pre _ _ _ _ hal) (hrr _ _ _ HJ.out HQ.out.1) (hrr _ _ _ HOV.out HQ.out.2.1) (hrr _ _ _ HMB.out HQ.out.2.2.1) HC.out.1 HC.out.2.2.1 HC.out.2.2.2.1 HC.out.2.2.2.2 rfl (by have := HLA.out; omega) HLEN.out HO60.out (fun k hk => by rw [hEn]; exact HHO.out k hk) HB512.out (by simp at hEo; omega) (by have := HQ.out.1; omega) (by have := HQ.out.2.1; omega) (by have := HQ.out.2.2.1; omega)
            · obtain ⟨j, rfl⟩ : ∃ j, i = j + 1 := ⟨i - 1, by omega⟩
              obtain ⟨p, hf, hm1, hm2⟩ := capW_get ks vs bj bn l j (by omega)
              obtain ⟨q1, hq1⟩ := hpk _ hm1
              obtain ⟨q2, hq2⟩ := hpk _ hm2
              obtain ⟨d, hd, hLd⟩ := hLm j (by omega)
              refine ⟨_, #[], #[.pointer (some ⟨bj, 0, none⟩), .pointer (some ⟨bn, 0, none⟩), .pointer (some ⟨p.1, 0, none⟩), .pointer (some ⟨p.2, 0, none⟩)], ?_, entWr1, fun E W' hEn hEo hW' => ?_⟩
              · rw [List.getElem?_append_left (by rw [hxsl]; omega), List.getElem?_cons_succ]; exact hf
              · rw [hLd]
                obtain ⟨I1, I2, I3, I4⟩ := hW'.get (i := pre.length + iv) (hrr _ _ _ HL.out HQ.out.2.2.2)
                have hvl : j < vs.length := by rw [I2, List.length_map]; have := HLL.out; omega
                have hu : BytesAt W' (vs.getD j undef) d AnyB := I4 j _ d (by rw [List.getD_eq_getElem?_getD, List.getElem?_eq_getElem hvl]; rfl) hd
                exact S_wr1 hW' (pre.length + a) (pre.length + ij) _ _ q1 q2 (get_pre _ _ _ _ hal) (hrr _ _ _ HJ.out HQ.out.1) HC.out.1 (hin _ _ _ hpj) (hin _ _ _ hpn) (hin _ _ _ hq1) (hin _ _ _ hq2) hu (H512.out d (List.mem_of_getElem? hd)) hn64 hs4 (by omega) (by rw [hEn]; exact hD246) (hops E hEo) (by have := HQ.out.1; omega) (by have := hlt _ _ hpj; omega) (by have := hlt _ _ hpn; omega) (by have := hlt _ _ hq1; omega) (by have := hlt _ _ hq2; omega)
            · refine ⟨_, #[.pointer (some ⟨H.b, 0, none⟩)], #[], ?_, entFlush, fun E W' hEn hEo hW' => ?_⟩
              · rw [List.getElem?_append_right (by rw [hxsl]; omega), hxsl, show l.length + 1 + 0 - (1 + l.length) = 0 from by omega]; rfl
              · rw [hLt 0]
                exact S_FlushOp hW' (pre.length + a) (get_pre _ _ _ _ hal) (by have := hops E hEo; omega)
            · refine ⟨_, #[], #[.pointer (some ⟨bj, 0, none⟩), .pointer (some ⟨bn, 0, none⟩), .pointer (some ⟨bh, 0, none⟩)], ?_, entWr2, fun E W' hEn hEo hW' => ?_⟩
              · rw [List.getElem?_append_right (by rw [hxsl]; omega), hxsl, show l.length + 1 + 1 - (1 + l.length) = 1 from by omega]; rfl
              · rw [hLt 1]
                have hhd : headPut (laidB markL [g, n, ks.length]) 0 (ks.take l.length) = headB g (last + 1) ks := by
                  rw [HLL.out, List.take_length, HNN.out]; rfl
                rw [hhd] at hp2
                exact S_wr2 hW' (pre.length + a) (pre.length + ij) _ _ 1 2 (get_pre _ _ _ _ hal) (hrr _ _ _ HJ.out HQ.out.1) HC.out.1 (hin _ _ _ hpj) (hin _ _ _ hpn) (hin _ _ _ hp1) (hin _ _ _ hp2) (headB_length _ _ _ HMAY.out.few) hn64 hs4 (by rw [hEn]; exact hD246) (hops E hEo) (by have := HQ.out.1; omega) (by have := hlt _ _ hpj; omega) (by have := hlt _ _ hpn; omega) (by have := hlt _ _ hp1; omega)
            · refine ⟨_, #[.pointer (some ⟨H.b, 0, none⟩)], #[], ?_, entFlush, fun E W' hEn hEo hW' => ?_⟩
              · rw [List.getElem?_append_right (by rw [hxsl]; omega), hxsl, show l.length + 1 + 2 - (1 + l.length) = 2 from by omega]; rfl
              · rw [hLt 2]
                exact S_FlushOp hW' (pre.length + a) (get_pre _ _ _ _ hal) (by have := hops E hEo; omega)
          · rintro e w' ⟨h1, h2⟩
            rw [hfl] at h1 h2
            rw [hjoin]
            exact ⟨h1, h2⟩)
        go_wp2_with fail
        go_region_held3 (fun y => y.cell? ⟨bj, 0, none⟩ = some (.pointer (some ⟨jb, 0, none⟩)) ∧ y.cell? ⟨jb, 0, none⟩ = some (.pointer (some ⟨H.b, 0, none⟩)))
          (first | exact hS11 | (refine HCJ.out _ _ _ HJ.out (H9.out.frm0 ?_); first | exact Frm.refl _ _ | exact (Frm.refl NoB w8).drew | exact ((Frm.refl NoB w8).alloc _).drew | exact (Frm.refl NoB w8).alloc _ | exact ⟨rfl, rfl, rfl, Nat.le_refl _, fun _ _ _ => rfl⟩))
          (first
            | (refine step_append_own rfl _ _ 146 rfl 0 33 ii .nilFunc 1 8 Try.underlying146 hi0i hz0 hz1 hz2 rfl (by decide) _ _ _ rfl HOW.out ⟨w8.heap.size, 0, none⟩ 3 3 [.func (.func 33) #[.pointer (some ⟨H.b, 0, none⟩)] #[], .func (.func 115) #[] #[.pointer (some ⟨bj, 0, none⟩), .pointer (some ⟨bn, 0, none⟩), .pointer (some ⟨bh, 0, none⟩)], .func (.func 33) #[.pointer (some ⟨H.b, 0, none⟩)] #[]] rfl rfl HN.out HC0.out HC1.out HC2.out (Nat.zero_le _) ?_; intro v10 w10 ho hg2 hat; have h11 := (H9.out.frm0 ((Frm.refl NoB w8).drew)).rowAppend 0 rfl (.cells #[.func (.func 33) #[.pointer (some ⟨H.b, 0, none⟩)] #[], .func (.func 115) #[] #[.pointer (some ⟨bj, 0, none⟩), .pointer (some ⟨bn, 0, none⟩), .pointer (some ⟨bh, 0, none⟩)], .func (.func 33) #[.pointer (some ⟨H.b, 0, none⟩)] #[]] 33 (0, 0)) ho hg2 hat; have hS11 := HCJ.out _ _ _ HJ.out h11)
            | (go_at_call 91; refine (HTR.out _ _ h11).mono ?_; rintro e w12 ⟨rfl, h12⟩; have hS11 := HCJ.out _ _ _ HJS.out h12))
        all_goals
          have H12 := Lib.hid (h12.sub ((((((List.sublist_cons_self _ _).trans (List.sublist_cons_self _ _)).trans (List.sublist_append_right _ _)).trans (List.sublist_cons_self _ _)).trans (List.sublist_cons_self _ _)).trans (List.sublist_cons_self _ _)))
          clear h12 hS11
          go_wp2
          go_ret
          exact ⟨rfl, H12.out⟩
end Go.Proofs.Ytkanfpmmgaipnaa

/-
  commit: the journal's commit of changes, of which there may be none.
-/
namespace Go.Proofs.Ytkanfpmmgaipnaa
set_option linter.unusedVariables false
open Go.ChangeMaps Go.MapKept Go.RowKit

/-- The journal behind a commit. -/
def JSt.did (J : JSt) (ks : List Nat) (ds : List Blk) : JSt := ⟨J.gen, J.last + 1, false, ks, ds⟩
def JSt.died (J : JSt) : JSt := ⟨J.gen, J.last, true, J.order, J.data⟩

/-- What a commit answers and leaves. -/
def CommitRet (w0 : Gnd) (rs : List Res) (a : Nat) (H : Hdl) (jb : Nat) (J : JSt) (D : DSt) (ks : List Nat) (ds : List Blk) (e : Ending) (w' : World) : Prop :=
  (endD (writeOps J.gen J.last J.order J.data ks ds) D = 0 ∧ e = .returned (.int .i64 0) ∧ ∃ jh' : JHdl, jh'.jb = jb ∧ St w0 w' (jrn H jh' (J.did ks ds) :: rs.set a (dev H (runD (writeOps J.gen J.last J.order J.data ks ds) D)))) ∨
  (endD (writeOps J.gen J.last J.order J.data ks ds) D = 9 ∧ e = .returned (.int .i64 9) ∧ ∃ jh' : JHdl, jh'.jb = jb ∧ St w0 w' (jrn H jh' J.died :: rs.set a (dev H (runD (writeOps J.gen J.last J.order J.data ks ds) D))))

/-- What the journal in memory is, that may go on. -/
structure JOk (n : Nat) (J : JSt) : Prop where
  len : J.data.length = J.order.length
  few : J.order.length ≤ 60
  home : ∀ k ∈ J.order, k < n
  b512 : ∀ b ∈ J.data, b.length = 512
  last : J.last + 1 < 18446744073709551616
  gen : J.gen < 18446744073709551616

set_option maxHeartbeats 1000000 in
set_option maxRecDepth 100000 in
theorem S_commit {w0 : Gnd} {w : World} {rs : List Res} {H : Hdl} {jh : JHdl} {J : JSt} (h : St w0 w (jrn H jh J :: rs)) (a iv : Nat) {D : DSt} (hr : rs[a]? = some (dev H D)) {v : Value} {ks : List Nat} {vs : List Value} {ds : List Blk} (hl : rs[iv]? = some (chgs v (ks.map fun k : Nat => (k : Int)) vs ds))
    (hJ : JOk D.n J) (hdead : J.dead = false) (hmay : MayL D.n ks ds) (hd512 : ∀ d ∈ ds, d.length = 512) (hD : 246 ≤ D.n) (hn : D.n ≤ 65536) (ho : D.ops < 1000000000) (q : iv ≠ a) :
    Calls Try.prog 86 #[.pointer (some ⟨jh.jb, 0, none⟩), v] w (CommitRet w0 rs a H jh.jb J D ks ds) := by
  obtain ⟨g, last, dead, om, dm⟩ := J
  obtain ⟨jb, ov, mb⟩ := jh
  obtain rfl : dead = false := hdead
  have h1 : St w0 w (arr jb #[.pointer (some ⟨H.b, 0, none⟩), .int .u64 g, .int .u64 last, .bool false, ov, .map (some mb)] 138 neJrn :: rowI ov om :: chg mb (last % 4) dm :: rs) := h.jOpen
  clear h
  have HWR := Lib.hid (S_write h1 (a + 3) 0 (iv + 3) 1 2 hr rfl rfl rfl rfl rfl rfl rfl rfl hl hmay hd512 hJ.len hJ.few hJ.home hJ.b512 hJ.last hJ.gen hD hn ho (by omega) (by omega) (by omega) (by omega))
  have c0 : w.cell? ⟨jb, 0, none⟩ = some (.pointer (some ⟨H.b, 0, none⟩)) := (h1.arrCell (i := 0) rfl 0).trans rfl
  have c3 : w.cell? ⟨jb, 3, none⟩ = some (.bool false) := (h1.arrCell (i := 0) rfl 3).trans rfl
  obtain ⟨va, vc, rfl⟩ := h1.chgsLen (i := iv + 3) hl
  rw [List.length_map] at hl HWR
  rw [List.length_map]
  have hkl : ((ks.length : Nat) : Int) ≤ 60 := by have := hmay.few; omega
  have HL : Hid (∀ X, (rs.set a X)[iv]? = some (chgs (.slice va ks.length vc) (ks.map fun k : Nat => (k : Int)) vs ds)) := Lib.hid fun X => by rw [List.getElem?_set_ne (Ne.symm q)]; exact hl
  have HDL := Lib.hid hmay.len
  have H512 := Lib.hid hd512
  have HLA := Lib.hid hJ.last
  obtain ⟨D2, hD2⟩ : ∃ D2, runD (writeOps g last om dm ks ds) D = D2 := ⟨_, rfl⟩
  have HD2 := Lib.hid hD2
  obtain ⟨rs2, hrs2⟩ : ∃ rs2, rs.set a (dev H D2) = rs2 := ⟨_, rfl⟩
  have HRS := Lib.hid hrs2
  have HW2 : Hid (Calls Try.prog 106 #[.pointer (some ⟨jb, 0, none⟩), .slice va ks.length vc] w fun e w' => e = .returned (.int .i64 (endD (writeOps g last om dm ks ds) D)) ∧ St w0 w' (arr jb #[.pointer (some ⟨H.b, 0, none⟩), .int .u64 g, .int .u64 last, .bool false, ov, .map (some mb)] 138 neJrn :: rowI ov om :: chg mb (last % 4) dm :: rs2)) := Lib.hid (HWR.out.mono fun e w' hx => ⟨hx.1, by
      have := hx.2
      simp only [List.set_cons_succ] at this
      rw [hD2, hrs2] at this
      exact this⟩)
  have HL2 : Hid (rs2[iv]? = some (chgs (.slice va ks.length vc) (ks.map fun k : Nat => (k : Int)) vs ds)) := Lib.hid (hrs2 ▸ HL.out _)
  clear h1 hr hl hJ hmay hd512 hD hn ho q HWR HL hD2 hrs2
  go_enter Try.func86, Try.ntmps86
  go_wp2_with fail
  refine HW2.out.mono ?_
  clear HW2 c0 c3
  rintro e w2 ⟨he, h2⟩
  have H2 := Lib.hid h2
  clear h2
  rcases endD_cases (writeOps g last om dm ks ds) D with e0 | e9
  · rw [e0] at he
    subst he
    have HE := Lib.hid e0
    clear e0
    have c2 : w2.cell? ⟨jb, 2, none⟩ = some (.int .u64 last) := (H2.out.arrCell (i := 0) rfl 2).trans rfl
    have c4 : w2.cell? ⟨jb, 4, none⟩ = some ov := (H2.out.arrCell (i := 0) rfl 4).trans rfl
    have c5 : w2.cell? ⟨jb, 5, none⟩ = some (.map (some mb)) := (H2.out.arrCell (i := 0) rfl 5).trans rfl
    have f2 : w2.frozen? ⟨jb, 2, none⟩ = false := H2.out.arrFree (i := 0) rfl 2
    have f4 : w2.frozen? ⟨jb, 4, none⟩ = false := H2.out.arrFree (i := 0) rfl 4
    have f5 : w2.frozen? ⟨jb, 5, none⟩ = false := H2.out.arrFree (i := 0) rfl 5
    have hjl : jb < w2.heap.size := lt_of_block (H2.out.get (i := 0) rfl)
    have hmk := mapMade
    obtain ⟨n, hnn⟩ : ∃ n, last + 1 = n := ⟨_, rfl⟩
    have hla0 : (0 : Int) ≤ (last : Int) := Int.natCast_nonneg _
    have hwn : IntKind.u64.wrap ((last : Int) + 1) = (n : Int) := by have := HLA.out; rw [u64_in (by omega) (by omega)]; omega
    have hn64 : n < 18446744073709551616 := by have := HLA.out; omega
    have HNN := Lib.hid hnn
    have HN64 := Lib.hid hn64
    have H3 : Hid (St w0 ((((w2.setCell ⟨jb, 2, none⟩ (.int .u64 n)).setCell ⟨jb, 4, none⟩ (.slice none 0 0)).setCell ⟨jb, 5, none⟩ (.map (some w2.heap.size))).alloc (.map #[] 0)) (arr jb #[.pointer (some ⟨H.b, 0, none⟩), .int .u64 g, .int .u64 n, .bool false, .slice none 0 0, .map (some w2.heap.size)] 138 neJrn :: rowI (.slice none 0 0) [] :: chg w2.heap.size (n % 4) [] :: rs2)) := Lib.hid (by
      have h7 := ((((H2.out.setArr 0 rfl 2 (.int .u64 n)).setArr 0 rfl 4 (.slice none 0 0)).setArr 0 rfl 5 (.map (some w2.heap.size))).chgNew (n % 4)).rowNil 3 neI8 1
      rw [World.size_setCell, World.size_setCell, World.size_setCell] at h7
      have h9 := h7.sub ((((List.drop_sublist 2 _).cons_cons _).cons_cons _).cons_cons _)
      exact h9.perm ((List.Perm.cons _ (List.Perm.swap _ _ _)).trans (List.Perm.swap _ _ _)))
    clear hnn hla0 hn64
    go_wp2_with fail
    clear c2 c4 c5 f2 f4 f5 hjl hmk hwn
    generalize w2.heap.size = m2 at *
    have HSL : Hid (∀ W, Calls Try.prog 89 #[.int .u64 n] W fun e w' => e = .returned (.int .i64 ((n % 4 : Nat) : Int)) ∧ w' = W) := Lib.hid fun W => slot_is W n (n % 4) HN64.out rfl
    obtain ⟨sl, hsl⟩ : ∃ sl, n % 4 = sl := ⟨_, rfl⟩
    have hsl4 : sl < 4 := by omega
    rw [hsl] at H3 HSL
    have HSS := Lib.hid hsl
    clear hsl
    go_loopw [6, 7, 48] (fun _ _ t wr => ∃ (k : Nat) (ov' : Value), k ≤ ks.length ∧ t = .int .i64 k ∧ St w0 wr (arr jb #[.pointer (some ⟨H.b, 0, none⟩), .int .u64 g, .int .u64 n, .bool false, ov', .map (some m2)] 138 neJrn :: rowI ov' (ks.take k) :: chg m2 sl (ds.take k) :: rs2)) (fun _ _ t _ => ks.length - (intOf t).toNat)
    case atStart => exact ⟨0, _, Nat.zero_le _, rfl, H3.out⟩
    case round =>
      clear H3
      obtain ⟨k, ov', hk, rfl, hst⟩ := hrel
      have HST := Lib.hid hst
      clear hst
      by_cases hlt : k < ks.length
      · have hk0 : (0 : Int) ≤ (k : Int) := Int.natCast_nonneg _
        have hk1 : (k : Int) < (ks.length : Int) := by omega
        obtain ⟨x, hx⟩ : ∃ x, ks[k]? = some x := ⟨_, List.getElem?_eq_getElem hlt⟩
        obtain ⟨gb, u, d, rfl, hgb, hu, hd, c1, c2, hbu⟩ := HST.out.chgsCell (i := iv + 3) HL2.out (j := k) (k := (x : Int)) (by rw [List.getElem?_map, hx]; rfl)
        obtain ⟨ub, uo, uc, rfl, _⟩ := hbu.cells
        obtain ⟨dl, hdl⟩ : ∃ m, d.length = m := ⟨_, rfl⟩
        have HDD := Lib.hid hd
        have HX := Lib.hid hx
        have HDLL := Lib.hid hdl
        rw [hdl] at c2
        have H6 := Lib.hid (HST.out.newArr #[.int .i64 x, .slice (some ⟨ub, uo, none⟩) dl uc] 64 neChg)
        have HU : Hid (∀ y Y rs', rs'[iv]? = rs2[iv]? → St w0 y (Y ++ rs') → BytesAt y (.slice (some ⟨ub, uo, none⟩) dl uc) d AnyB) := Lib.hid fun y Y rs' he hy => by
          obtain ⟨I1, I2, I3, I4⟩ := hy.get (i := Y.length + iv) (by rw [List.getElem?_append_right (by omega), Nat.add_sub_cancel_left, he]; exact HL2.out)
          rw [← HDLL.out]
          exact I4 k _ d hu HDD.out
        clear hbu hu hd hx hdl
        go_upto_region 12 with (fail)
        obtain ⟨w5, hw5⟩ : ∃ w5, w5 = wr.alloc (.cells #[.int .i64 x, .slice (some ⟨ub, uo, none⟩) dl uc] 64 (0, 0)) := ⟨_, rfl⟩
        rw [← hw5] at H6 ⊢
        clear hw5 c1 c2 HST
        generalize wr.heap.size = bc at *
        go_cut [48] from 49 to 78 (fun t wx => t = .int .i64 k ∧ ∃ ov'', St w0 wx (arr bc #[.int .i64 x, .slice (some ⟨ub, uo, none⟩) dl uc] 64 neChg :: arr jb #[.pointer (some ⟨H.b, 0, none⟩), .int .u64 g, .int .u64 n, .bool false, ov'', .map (some m2)] 138 neJrn :: rowI ov'' (ks.take (k + 1)) :: chg m2 sl (ds.take k) :: rs2))
        case first =>
          have c4 : w5.cell? ⟨jb, 4, none⟩ = some ov' := (H6.out.arrCell (i := 1) rfl 4).trans rfl
          have cb : w5.cell? ⟨bc, 0, none⟩ = some (.int .i64 x) := (H6.out.arrCell (i := 0) rfl 0).trans rfl
          have hjl : jb < w5.heap.size := lt_of_block (H6.out.get (i := 1) rfl)
          have hbl : bc < w5.heap.size := lt_of_block (H6.out.get (i := 0) rfl)
          have HLK : Hid ((ks.take k).length = k) := Lib.hid (by rw [List.length_take]; omega)
          have HO := Lib.hid (show ((w5.alloc (.cells #[.int .i64 (x : Int)] 3 (0, 0))).drew).ownsRow 0 3 1 ov' (ks.take k).length ((ks.take k).map NatK) from World.ownsRow.alloc (H6.out.get (i := 2) rfl) (.cells #[.int .i64 (x : Int)] 3 (0, 0)))
          have HN : Hid (∀ (j : Nat) u, ([.int .i64 (x : Int)] : List Value)[j]? = some u → ((w5.alloc (.cells #[.int .i64 (x : Int)] 3 (0, 0))).drew).cell? ((⟨w5.heap.size, 0, none⟩ : Addr).add j) = some u) := Lib.hid (new_one w5 _ _)
          have HC0 : Hid (∀ u ∈ ([.int .i64 (x : Int)] : List Value), u.oneCell' = true) := Lib.hid (by intro u hu; simp at hu; subst hu; rfl)
          have HC1 : Hid ((ks.take k).length + 1 ≤ maxLen) := Lib.hid (by rw [HLK.out]; simp only [maxLen]; omega)
          have HC2 : Hid (((ks.take k).length + 1) * 8 ≤ 140737488355328) := Lib.hid (by rw [HLK.out]; omega)
          have HTK : Hid (ks.take (k + 1) = ks.take k ++ [x]) := Lib.hid (by
            obtain ⟨h1, h2⟩ := List.getElem?_eq_some_iff.1 HX.out
            rw [List.take_succ_eq_append_getElem h1, h2])
          obtain ⟨ii, hi0i, hz0, hz1, hz2⟩ := info_parts infoInt
          have HAP : Hid (∀ v' w', w'.ownsRow 0 3 1 v' ((ks.take k).length + 1) ((ks.take k).map NatK ++ [.int .i64 (x : Int)]) → ((w5.alloc (.cells #[.int .i64 (x : Int)] 3 (0, 0))).drew).grownBy w' ov'.ownBlock → (v'.ownBlock = ov'.ownBlock ∨ v'.ownBlock = some ((w5.alloc (.cells #[.int .i64 (x : Int)] 3 (0, 0))).drew).heap.size) →
              (∃ va vc, v' = .slice (some ⟨va, 0, none⟩) (k + 1) vc) ∧ St w0 w' (arr bc #[.int .i64 x, .slice (some ⟨ub, uo, none⟩) dl uc] 64 neChg :: arr jb #[.pointer (some ⟨H.b, 0, none⟩), .int .u64 g, .int .u64 n, .bool false, ov', .map (some m2)] 138 neJrn :: rowI v' (ks.take (k + 1)) :: chg m2 sl (ds.take k) :: rs2)) := Lib.hid fun v' w' ho hg hat => by
            refine ⟨?_, ?_⟩
            · rcases ho.2 with hx | ⟨va, vc, _, hx, _⟩
              · have := hx.2; omega
              · exact ⟨va, vc, by rw [hx, HLK.out]⟩
            · have h7 := (H6.out.frm0 ((Frm.refl NoB w5).drew)).rowAppend 2 rfl (.cells #[.int .i64 (x : Int)] 3 (0, 0)) (m := (ks.take (k + 1)).length) (ys := (ks.take (k + 1)).map NatK) (by rw [HTK.out, List.length_append, List.map_append]; exact ho) hg hat
              exact h7
          go_region_law (refine step_append_own rfl _ _ 22 rfl 0 3 ii (.int .i64 0) 1 8 Try.underlying22 hi0i hz0 hz1 hz2 rfl (by decide) _ _ _ rfl HO.out ⟨w5.heap.size, 0, none⟩ 1 1 [.int .i64 (x : Int)] rfl rfl HN.out HC0.out HC1.out HC2.out (Nat.zero_le _) ?_; intro v' w' ho hg hat; obtain ⟨⟨vg, vcc, rfl⟩, h7⟩ := HAP.out v' w' ho hg hat; clear ho hg hat; have c7 : w'.cell? ⟨jb, 4, none⟩ = some ov' := (h7.arrCell (i := 1) rfl 4).trans rfl; have f7 : w'.frozen? ⟨jb, 4, none⟩ = false := h7.arrFree (i := 1) rfl 4)
          all_goals
            have H8 := Lib.hid (h7.setArr 1 rfl 4 (.slice (some ⟨vg, 0, none⟩) (k + 1) vcc))
            clear h7 c7 f7 c4 cb
            go_wp2_with fail
            go_meet
            first | exact ⟨rfl, _, H8.out⟩ | (case rel => exact ⟨rfl, _, H8.out⟩)
        case rest =>
          obtain ⟨rfl, ov2, hst⟩ := hcut
          have H7 := Lib.hid hst
          clear hst H6
          have HTD : Hid (ds.take (k + 1) = ds.take k ++ [d]) := Lib.hid (by
            obtain ⟨h1, h2⟩ := List.getElem?_eq_some_iff.1 HDD.out
            rw [List.take_succ_eq_append_getElem h1, h2])
          have HKL : Hid (k = (ds.take k).length) := Lib.hid (by rw [List.length_take, HDL.out]; omega)
          have KA : Hid (∀ y, Frm NoB wc y → y.cell? ⟨jb, 5, none⟩ = some (.map (some m2)) ∧ y.cell? ⟨jb, 2, none⟩ = some (.int .u64 n) ∧ y.cell? ⟨bc, 1, none⟩ = some (.slice (some ⟨ub, uo, none⟩) dl uc)) := Lib.hid fun y hy =>
            ⟨((H7.out.frm0 hy).arrCell (i := 1) rfl 5).trans rfl, ((H7.out.frm0 hy).arrCell (i := 1) rfl 2).trans rfl, ((H7.out.frm0 hy).arrCell (i := 0) rfl 1).trans rfl⟩
          have KB : Hid (∀ y u1 u2, St w0 y (u1 :: arr bc #[.int .i64 x, .slice (some ⟨ub, uo, none⟩) dl uc] 64 neChg :: arr jb #[.pointer (some ⟨H.b, 0, none⟩), .int .u64 g, .int .u64 n, .bool false, ov2, .map (some m2)] 138 neJrn :: u2) → y.cell? ⟨jb, 5, none⟩ = some (.map (some m2)) ∧ y.cell? ⟨jb, 2, none⟩ = some (.int .u64 n) ∧ y.cell? ⟨bc, 1, none⟩ = some (.slice (some ⟨ub, uo, none⟩) dl uc)) := Lib.hid fun y u1 u2 hy =>
            ⟨(hy.arrCell (i := 2) rfl 5).trans rfl, (hy.arrCell (i := 2) rfl 2).trans rfl, (hy.arrCell (i := 1) rfl 1).trans rfl⟩
          obtain ⟨c1, c2, c3⟩ := KA.out wc (Frm.refl _ _)
          have HCL : Hid (∀ W, Frm NoB wc W → Calls Try.prog 70 #[.slice (some ⟨ub, uo, none⟩) dl uc] W fun e w' => ∃ vb vo vc2 o2, e = .returned (.slice (some ⟨vb, vo, none⟩) 512 vc2) ∧ (Instr.mapUpdate 136 (.map (some m2)) (.agg #[.int .i64 sl, .int .i64 k]) (.slice (some ⟨vb, vo, none⟩) 512 vc2)).run Try.prog w' = .ok () (setBlock w' m2 o2) ∧ Frm NoB wc w' ∧
              St w0 (setBlock w' m2 o2) (byt (.slice (some ⟨vb, vo, none⟩) 512 vc2) d :: arr bc #[.int .i64 x, .slice (some ⟨ub, uo, none⟩) dl uc] 64 neChg :: arr jb #[.pointer (some ⟨H.b, 0, none⟩), .int .u64 g, .int .u64 n, .bool false, ov2, .map (some m2)] 138 neJrn :: rowI ov2 (ks.take (k + 1)) :: chg m2 sl (ds.take (k + 1)) :: rs2)) := Lib.hid fun W hW => by
            have hst := H7.out.frm0 hW
            have hb := HU.out W [arr bc #[.int .i64 x, .slice (some ⟨ub, uo, none⟩) dl uc] 64 neChg, arr jb #[.pointer (some ⟨H.b, 0, none⟩), .int .u64 g, .int .u64 n, .bool false, ov2, .map (some m2)] 138 neJrn, rowI ov2 (ks.take (k + 1)), chg m2 sl (ds.take k)] rs2 rfl hst
            have h512 : d.length = 512 := H512.out d (List.mem_of_getElem? HDD.out)
            refine (Clone_any W _ d AnyB hb (by omega)).mono ?_
            rintro e w' ⟨hf, v', he, hb'⟩
            obtain ⟨vb, vo, vc2, rfl, _⟩ := hb'.cells
            rw [h512] at he hb'
            have h8 := hst.mkByt hf hb'
            obtain ⟨o2, q2, h9⟩ := h8.chgPut 4 rfl _ d (hb'.off hst.zin) (by have := HKL.out; omega) (by omega) k HKL.out
            rw [← HTD.out] at h9
            exact ⟨vb, vo, vc2, o2, he, q2, hW.trans hf (fun _ _ e => e), h9⟩
          clear HU
          go_wp2_with fail
          go_region_held3 (fun y => y.cell? ⟨jb, 5, none⟩ = some (.map (some m2)) ∧ y.cell? ⟨jb, 2, none⟩ = some (.int .u64 n) ∧ y.cell? ⟨bc, 1, none⟩ = some (.slice (some ⟨ub, uo, none⟩) dl uc))
            (first | exact hS9 | (refine KA.out _ ?_; first | assumption | exact (Frm.refl NoB wc).drew | exact ⟨rfl, rfl, rfl, Nat.le_refl _, fun _ _ _ => rfl⟩))
            (first
              | (go_at_call 89; refine (HSL.out _).mono ?_; rintro e w6 ⟨rfl, rfl⟩)
              | (go_at_call 70; refine (HCL.out _ (by first | exact (Frm.refl NoB wc).drew | exact Frm.refl _ _)).mono ?_; rintro e w7 ⟨vb, vo, vc2, o2, rfl, q2, hF7, h9⟩; have hS9 := KB.out _ _ _ h9))
          all_goals
            have H9 := Lib.hid (h9.drop 2)
            clear h9 hS9 q2 hF7 c1 c2 c3
            go_wp2
            first | exact ⟨⟨k + 1, _, hlt, by go_num, H9.out⟩, by simp [intOf]; omega⟩ | (go_roundw; case rel => first | exact ⟨k + 1, _, hlt, by go_num, H9.out⟩ | ((repeat apply Exists.intro); exact ⟨⟨k + 1, _, hlt, by go_num, H9.out⟩, rfl⟩); case measure => simp [intOf]; omega)
      · have hk1 : ¬ (k : Int) < (ks.length : Int) := by omega
        have HKK : Hid (k = ks.length) := Lib.hid (by omega)
        go_wp2
        go_ret
        refine .inl ⟨HE.out, rfl, ⟨jb, ov', m2⟩, rfl, ?_⟩
        rw [show runD (writeOps g last om dm ks ds) D = D2 from HD2.out, HRS.out]
        refine St.jShut ?_
        have h9 := HST.out
        rw [HKK.out, List.take_length, ← HDL.out, List.take_length, ← HSS.out, ← HNN.out] at h9
        exact h9
  · rw [e9] at he
    subst he
    have HE := Lib.hid e9
    have c3 : w2.cell? ⟨jb, 3, none⟩ = some (.bool false) := (H2.out.arrCell (i := 0) rfl 3).trans rfl
    have f3 : w2.frozen? ⟨jb, 3, none⟩ = false := H2.out.arrFree (i := 0) rfl 3
    have H3 := Lib.hid (H2.out.setArr 0 rfl 3 (.bool true))
    clear e9
    go_wp2
    go_ret
    refine .inr ⟨HE.out, rfl, ⟨jb, ov, mb⟩, rfl, ?_⟩
    rw [show runD (writeOps g last om dm ks ds) D = D2 from HD2.out, HRS.out]
    exact St.jShut H3.out
end Go.Proofs.Ytkanfpmmgaipnaa

/-
  Commit, Sync, Read: of a journal that lives, that is dead, that is none.
-/
namespace Go.Proofs.Ytkanfpmmgaipnaa
set_option linter.unusedVariables false
open Go.ChangeMaps Go.MapKept Go.RowKit

/-! ### What may be committed, told both ways -/

theorem mayTo_iff (n : Nat) (ks : List Int) (ds : List Blk) : ∀ j, mayTo n ks ds j = true ↔ ∀ i, i < j → goodAt n ks ds i = true
  | 0 => ⟨fun _ i h => by omega, fun _ => rfl⟩
  | j + 1 => by
    unfold mayTo
    rw [Bool.and_eq_true, mayTo_iff n ks ds j]
    constructor
    · rintro ⟨h1, h2⟩ i hi
      rcases Nat.lt_or_eq_of_le (Nat.le_of_lt_succ hi) with h | h
      · exact h1 i h
      · rw [h]; exact h2
    · exact fun h => ⟨fun i hi => h i (by omega), h j (by omega)⟩

theorem mayE_cases (n : Nat) (ks : List Int) (ds : List Blk) : mayE n ks ds = 0 ∨ mayE n ks ds = 1 ∨ mayE n ks ds = 2 := by
  unfold mayE
  split
  · split
    · exact .inr (.inr rfl)
    · exact .inl rfl
  · exact .inr (.inl rfl)

theorem may_of (n : Nat) (ks : List Int) (ds : List Blk) (hl : ds.length = ks.length) (h : mayE n ks ds = 0) : ∃ ks' : List Nat, ks = ks'.map (fun k : Nat => (k : Int)) ∧ MayL n ks' ds ∧ ∀ d ∈ ds, d.length = 512 := by
  unfold mayE at h
  split at h
  · rename_i hm
    split at h
    · cases h
    · rename_i h60
      have hg := (mayTo_iff n ks ds ks.length).1 hm
      have hk : ∀ (i : Nat) (k : Int), ks[i]? = some k → 245 ≤ k ∧ k < (n : Int) ∧ (ks.take i).contains k = false := fun i k hi => by
        have h1 := hg i (List.getElem?_eq_some_iff.1 hi).1
        unfold goodAt at h1
        rw [List.getD_eq_getElem?_getD, hi] at h1
        simp only [Option.getD_some, Bool.and_eq_true, decide_eq_true_eq] at h1
        exact ⟨h1.1.1.1, h1.1.1.2, by simpa using h1.1.2⟩
      have hmap : ks = (ks.map Int.toNat).map (fun k : Nat => (k : Int)) := by
        rw [List.map_map]
        conv => lhs; rw [← List.map_id ks]
        apply List.map_congr_left
        intro k hk2
        obtain ⟨i, hi⟩ := List.getElem?_of_mem hk2
        have := (hk i k hi).1
        show k = ((k.toNat : Nat) : Int)
        omega
      refine ⟨ks.map Int.toNat, hmap, ⟨?_, ?_, ?_, ?_⟩, ?_⟩
      · intro k hk2
        obtain ⟨x, hx, rfl⟩ := List.mem_map.1 hk2
        obtain ⟨i, hi⟩ := List.getElem?_of_mem hx
        have := hk i x hi
        omega
      · rw [List.nodup_iff_pairwise_ne, List.pairwise_iff_getElem]
        intro i j hi hj hij e
        simp only [List.getElem_map] at e
        have hi' : i < ks.length := by simpa using hi
        have hj' : j < ks.length := by simpa using hj
        have a1 := hk i _ (List.getElem?_eq_getElem hi')
        have a2 := hk j _ (List.getElem?_eq_getElem hj')
        have e2 : ks[i] = ks[j] := by omega
        have : ks[j] ∈ ks.take j := by
          rw [← e2]
          exact List.mem_of_getElem? (i := i) (by rw [List.getElem?_take, if_pos hij, List.getElem?_eq_getElem hi'])
        have h3 := a2.2.2
        rw [List.contains_iff_mem.2 this] at h3
        cases h3
      · rw [List.length_map]; omega
      · rw [List.length_map]; exact hl
      · intro d hd
        obtain ⟨i, hi⟩ := List.getElem?_of_mem hd
        have h1 := hg i (by rw [← hl]; exact (List.getElem?_eq_some_iff.1 hi).1)
        unfold goodAt at h1
        simp only [Bool.and_eq_true] at h1
        have h2 := h1.2
        rw [List.getD_eq_getElem?_getD, hi] at h2
        simpa using h2
  · cases h

theorem may_is {n : Nat} {ks : List Nat} {ds : List Blk} (h : MayL n ks ds) (hd : ∀ d ∈ ds, d.length = 512) : mayE n (ks.map fun k : Nat => (k : Int)) ds = 0 := by
  unfold mayE
  have hm : mayTo n (ks.map fun k : Nat => (k : Int)) ds (ks.map fun k : Nat => (k : Int)).length = true := (mayTo_iff _ _ _ _).2 fun i hi => by
    rw [List.length_map] at hi
    have hki : ks[i]? = some ks[i] := List.getElem?_eq_getElem hi
    have hdi : ds[i]? = some (ds[i]'(by rw [h.len]; exact hi)) := List.getElem?_eq_getElem _
    have hho := h.home _ (List.getElem_mem hi)
    unfold goodAt
    rw [List.getD_eq_getElem?_getD, List.getElem?_map, hki, List.getD_eq_getElem?_getD, hdi]
    simp only [Option.map_some, Option.getD_some, Bool.and_eq_true, decide_eq_true_eq]
    refine ⟨⟨⟨by omega, by omega⟩, ?_⟩, by simpa using hd _ (List.mem_of_getElem? hdi)⟩
    rw [Bool.not_eq_true', ← Bool.not_eq_true, List.contains_iff_mem]
    intro hm
    obtain ⟨j, hj⟩ := List.getElem?_of_mem hm
    rw [List.getElem?_take] at hj
    split at hj
    · rename_i hji
      rw [List.getElem?_map, List.getElem?_eq_getElem (by omega)] at hj
      simp only [Option.map_some, Option.some.injEq] at hj
      have hp := List.pairwise_iff_getElem.1 (List.nodup_iff_pairwise_ne.1 h.nodup) j i (by omega) hi hji
      exact hp (by omega)
    · cases hj
  rw [if_pos hm, if_neg (by rw [List.length_map]; have := h.few; omega)]

/-! ### The contracts -/

section
variable {w0 : Gnd} {w : World} {rs : List Res} {H : Hdl} {jh : JHdl} {J : JSt}

/-- Read, of a home. -/
theorem S_JRF (h : St w0 w (jrn H jh J :: rs)) (a : Nat) {D : DSt} (hr : rs[a]? = some (dev H D)) (hJ : JOk D.n J) (ho : D.ops < 1000000000) (k : Int) (hk0 : 245 ≤ k) (hk1 : k < (D.n : Int)) :
    Calls Try.prog 50 #[.pointer (some ⟨jh.jb, 0, none⟩), .int .i64 k] w fun e w' => ∃ v, e = .returned (.tuple #[v, .int .i64 0]) ∧ Frm NoB w w' ∧ BytesAt w' v (jview J D k.toNat) (Fresh w) :=
  S_JReadF h.jOpen (a + 3) 0 1 2 hr rfl rfl rfl rfl rfl rfl rfl rfl (by have := hJ.last; omega) hJ.len hJ.few hJ.b512 ho k hk0 hk1

theorem S_JR (h : St w0 w (jrn H jh J :: rs)) (a : Nat) {D : DSt} (hr : rs[a]? = some (dev H D)) (hJ : JOk D.n J) (ho : D.ops < 1000000000) (k : Int) (hk0 : 245 ≤ k) (hk1 : k < (D.n : Int)) :
    Calls Try.prog 50 #[.pointer (some ⟨jh.jb, 0, none⟩), .int .i64 k] w fun e w' => ∃ v, e = .returned (.tuple #[v, .int .i64 0]) ∧ St w0 w' (byt v (jview J D k.toNat) :: jrn H jh J :: rs) := by
  refine (S_JRead h.jOpen (a + 3) 0 1 2 hr rfl rfl rfl rfl rfl rfl rfl rfl (by have := hJ.last; omega) hJ.len hJ.few hJ.b512 ho k hk0 hk1).mono ?_
  rintro e w' ⟨v, he, h2⟩
  refine ⟨v, he, ?_⟩
  have h3 := h2.perm ((List.perm_append_comm (l₁ := [byt v (over J.order J.data D.last k.toNat)]) (l₂ := [arr jh.jb (jcells H jh J) 138 neJrn, rowI jh.ov J.order, chg jh.mb (J.last % 4) J.data])).append_right rs)
  exact (St.jShut h3).swap

theorem S_JRFar (h : St w0 w (jrn H jh J :: rs)) (a : Nat) {D : DSt} (hr : rs[a]? = some (dev H D)) (k : Int) (hk : k < 245 ∨ (D.n : Int) ≤ k) :
    Calls Try.prog 50 #[.pointer (some ⟨jh.jb, 0, none⟩), .int .i64 k] w fun e w' => w = w' ∧ e = .returned (.tuple #[.slice none 0 0, .int .i64 1]) :=
  S_JReadFar h.jOpen (a + 3) 0 hr rfl rfl k hk

set_option maxRecDepth 100000 in
theorem S_commitDead (h : St w0 w (jrn H jh J :: rs)) (hd : J.dead = true) (v : Value) :
    Calls Try.prog 86 #[.pointer (some ⟨jh.jb, 0, none⟩), v] w fun e w' => w = w' ∧ e = .returned (.int .i64 9) := by
  obtain ⟨g, last, dead, om, dm⟩ := J
  obtain ⟨jb, ov, mb⟩ := jh
  obtain rfl : dead = true := hd
  have h1 := h.jOpen
  have c0 : w.cell? ⟨jb, 0, none⟩ = some (.pointer (some ⟨H.b, 0, none⟩)) := (h1.arrCell (i := 0) rfl 0).trans rfl
  have c3 : w.cell? ⟨jb, 3, none⟩ = some (.bool true) := (h1.arrCell (i := 0) rfl 3).trans rfl
  clear h h1
  go_enter Try.func86, Try.ntmps86
  go_wp2
  go_ret
  exact ⟨rfl, rfl⟩

set_option maxRecDepth 100000 in
theorem commitNil (w : World) (v : Value) :
    Calls Try.prog 86 #[.pointer none, v] w fun e w' => w = w' ∧ e = .returned (.int .i64 9) := by
  go_enter Try.func86, Try.ntmps86
  go_wp2
  go_ret
  exact ⟨rfl, rfl⟩

theorem St.noChgs (h : St w0 w rs) : St w0 w (chgs (.slice none 0 0) [] [] [] :: rs) :=
  h.make (Frm.refl _ _) (chgs (.slice none 0 0) [] [] []) ⟨World.ownsRow_nil _ _ _ _, rfl, rfl, fun i u b hu _ => by simp at hu⟩ (fun _ hx => by cases hx)

theorem mayNil (n : Nat) : MayL n [] [] := ⟨fun _ h => (by cases h), List.nodup_nil, Nat.zero_le _, rfl⟩

set_option maxRecDepth 100000 in
theorem S_Sync (h : St w0 w (jrn H jh J :: rs)) (a : Nat) {D : DSt} (hr : rs[a]? = some (dev H D)) (hJ : JOk D.n J) (hdead : J.dead = false) (hD : 246 ≤ D.n) (hn : D.n ≤ 65536) (ho : D.ops < 1000000000) :
    Calls Try.prog 54 #[.pointer (some ⟨jh.jb, 0, none⟩)] w (CommitRet w0 rs a H jh.jb J D [] []) := by
  have h1 := h.noChgs.swap
  have HC := Lib.hid (S_commit h1 (a + 1) 0 hr (ks := []) rfl hJ hdead (mayNil _) (fun _ h => by cases h) hD hn ho (by omega))
  clear h h1 hr hJ hdead hD hn ho
  go_enter Try.func54, Try.ntmps54
  go_wp2_with fail
  refine HC.out.mono ?_
  clear HC
  rintro e w' (⟨h1, rfl, jh', hjb, h2⟩ | ⟨h1, rfl, jh', hjb, h2⟩)
  · have H1 := Lib.hid h1
    have H2 := Lib.hid h2
    have HJB := Lib.hid hjb
    clear h1 h2 hjb
    go_wp2
    go_ret
    exact .inl ⟨H1.out, rfl, jh', HJB.out, H2.out.drop2nd⟩
  · have H1 := Lib.hid h1
    have H2 := Lib.hid h2
    have HJB := Lib.hid hjb
    clear h1 h2 hjb
    go_wp2
    go_ret
    exact .inr ⟨H1.out, rfl, jh', HJB.out, H2.out.drop2nd⟩

set_option maxRecDepth 100000 in
theorem S_SyncDead (h : St w0 w (jrn H jh J :: rs)) (hd : J.dead = true) :
    Calls Try.prog 54 #[.pointer (some ⟨jh.jb, 0, none⟩)] w fun e w' => w = w' ∧ e = .returned (.int .i64 9) := by
  have HC := Lib.hid (S_commitDead h hd (.slice none 0 0))
  clear h hd
  go_enter Try.func54, Try.ntmps54
  go_wp2_with fail
  refine HC.out.mono ?_
  rintro e w' ⟨rfl, rfl⟩
  go_wp2
  go_ret
  exact ⟨rfl, rfl⟩

set_option maxRecDepth 100000 in
theorem SyncNil (w : World) : Calls Try.prog 54 #[.pointer none] w fun e w' => w = w' ∧ e = .returned (.int .i64 9) := by
  have HC := Lib.hid (commitNil w (.slice none 0 0))
  go_enter Try.func54, Try.ntmps54
  go_wp2_with fail
  refine HC.out.mono ?_
  rintro e w' ⟨rfl, rfl⟩
  go_wp2
  go_ret
  exact ⟨rfl, rfl⟩

theorem S_mayJ (h : St w0 w (jrn H jh J :: rs)) (a iv : Nat) {D : DSt} (hr : rs[a]? = some (dev H D)) {v : Value} {ks : List Int} {vs : List Value} {ds : List Blk} (hl : rs[iv]? = some (chgs v ks vs ds)) (hok : ∀ k ∈ ks, okI k) (hlen : ks.length ≤ 1000000) (hd : ∀ d ∈ ds, d.length ≤ 1000000) :
    Calls Try.prog 85 #[.pointer (some ⟨jh.jb, 0, none⟩), v] w fun e w' => e = .returned (.int .i64 (mayE D.n ks ds)) ∧ St w0 w' (jrn H jh J :: rs) :=
  (S_may h.jOpen (a + 3) 0 (iv + 3) hr rfl rfl hl hok hlen hd).mono fun _ _ ⟨h1, h2⟩ => ⟨h1, h2.jShut⟩

set_option maxRecDepth 100000 in
/-- Commit, where it is refused. -/
theorem S_CommitNo (h : St w0 w (jrn H jh J :: rs)) (a iv : Nat) {D : DSt} (hr : rs[a]? = some (dev H D)) {v : Value} {ks : List Int} {vs : List Value} {ds : List Blk} (hl : rs[iv]? = some (chgs v ks vs ds)) (hok : ∀ k ∈ ks, okI k) (hlen : ks.length ≤ 1000000) (hd : ∀ d ∈ ds, d.length ≤ 1000000)
    (hno : mayE D.n ks ds ≠ 0) :
    Calls Try.prog 47 #[.pointer (some ⟨jh.jb, 0, none⟩), v] w fun e w' => e = .returned (.int .i64 (mayE D.n ks ds)) ∧ St w0 w' (jrn H jh J :: rs) := by
  obtain ⟨va, vc, rfl⟩ := h.chgsLen (i := iv + 1) hl
  have HM := Lib.hid (S_mayJ h a iv hr hl hok hlen hd)
  obtain ⟨x, hx⟩ : ∃ x, mayE D.n ks ds = x := ⟨_, rfl⟩
  rw [hx] at HM hno ⊢
  have hb : (x != 0) = true := by rw [bne_iff_ne]; exact hno
  clear h hr hl hok hlen hd hx hno
  go_enter Try.func47, Try.ntmps47
  go_wp2_with fail
  refine HM.out.mono ?_
  clear HM
  rintro e w2 ⟨rfl, h2⟩
  have H2 := Lib.hid h2
  clear h2
  go_wp2
  go_ret
  exact ⟨rfl, H2.out⟩

set_option maxRecDepth 100000 in
/-- Commit of no changes. -/
theorem S_CommitNone (h : St w0 w (jrn H jh J :: rs)) (a iv : Nat) {D : DSt} (hr : rs[a]? = some (dev H D)) {v : Value} (hl : rs[iv]? = some (chgs v [] [] [])) :
    Calls Try.prog 47 #[.pointer (some ⟨jh.jb, 0, none⟩), v] w fun e w' => e = .returned (.int .i64 0) ∧ St w0 w' (jrn H jh J :: rs) := by
  obtain ⟨va, vc, rfl⟩ := h.chgsLen (i := iv + 1) hl
  have HM := Lib.hid (S_mayJ h a iv hr hl (fun _ h => by cases h) (by simp) (fun _ h => by cases h))
  rw [show mayE D.n [] [] = 0 from rfl] at HM
  clear h hr hl
  simp only [List.length_nil] at HM ⊢
  go_enter Try.func47, Try.ntmps47
  go_wp2_with fail
  refine HM.out.mono ?_
  clear HM
  rintro e w2 ⟨rfl, h2⟩
  have H2 := Lib.hid h2
  clear h2
  go_wp2
  go_ret
  exact ⟨rfl, H2.out⟩

set_option maxRecDepth 100000 in
/-- Commit of some changes. -/
theorem S_Commit (h : St w0 w (jrn H jh J :: rs)) (a iv : Nat) {D : DSt} (hr : rs[a]? = some (dev H D)) {v : Value} {ks : List Nat} {vs : List Value} {ds : List Blk} (hl : rs[iv]? = some (chgs v (ks.map fun k : Nat => (k : Int)) vs ds))
    (hJ : JOk D.n J) (hdead : J.dead = false) (hmay : MayL D.n ks ds) (hd512 : ∀ d ∈ ds, d.length = 512) (hD : 246 ≤ D.n) (hn : D.n ≤ 65536) (ho : D.ops < 1000000000) (hne : ks ≠ []) (q : iv ≠ a) :
    Calls Try.prog 47 #[.pointer (some ⟨jh.jb, 0, none⟩), v] w (CommitRet w0 rs a H jh.jb J D ks ds) := by
  obtain ⟨va, vc, rfl⟩ := h.chgsLen (i := iv + 1) hl
  have HM := Lib.hid (S_mayJ h a iv hr hl (fun k hk => by
    obtain ⟨x, hx, rfl⟩ := List.mem_map.1 hk
    have := hmay.home x hx
    exact (okI_iff _).2 (by omega)) (by rw [List.length_map]; have := hmay.few; omega) (fun d hd => by have := hd512 d hd; omega))
  rw [may_is hmay hd512] at HM
  have HC : Hid (∀ W, St w0 W (jrn H jh J :: rs) → Calls Try.prog 86 #[.pointer (some ⟨jh.jb, 0, none⟩), .slice va (ks.map fun k : Nat => (k : Int)).length vc] W (CommitRet w0 rs a H jh.jb J D ks ds)) := Lib.hid fun W hW => S_commit hW a iv hr hl hJ hdead hmay hd512 hD hn ho q
  obtain ⟨m, hm⟩ : ∃ m, (ks.map fun k : Nat => (k : Int)).length = m := ⟨_, rfl⟩
  rw [hm] at HM HC ⊢
  have hb : ((m : Int) == 0) = false := by
    rw [List.length_map] at hm
    have : ks.length ≠ 0 := fun e => hne (List.eq_nil_of_length_eq_zero e)
    rw [beq_eq_false_iff_ne]; omega
  clear h hr hl hJ hdead hmay hd512 hD hn ho hne q hm
  go_enter Try.func47, Try.ntmps47
  go_wp2_with fail
  refine HM.out.mono ?_
  clear HM
  rintro e w2 ⟨rfl, h2⟩
  have H2 := Lib.hid h2
  clear h2
  go_wp2_with fail
  refine (HC.out _ H2.out).mono ?_
  clear HC
  rintro e w3 (⟨h1, rfl, jh', hjb, h3⟩ | ⟨h1, rfl, jh', hjb, h3⟩)
  · have H1 := Lib.hid h1
    have H3 := Lib.hid h3
    have HJB := Lib.hid hjb
    clear h1 h3 hjb
    go_wp2
    go_ret
    exact .inl ⟨H1.out, rfl, jh', HJB.out, H3.out⟩
  · have H1 := Lib.hid h1
    have H3 := Lib.hid h3
    have HJB := Lib.hid hjb
    clear h1 h3 hjb
    go_wp2
    go_ret
    exact .inr ⟨H1.out, rfl, jh', HJB.out, H3.out⟩

set_option maxRecDepth 100000 in
/-- Commit of some changes, where the journal is dead. -/
theorem S_CommitDead (h : St w0 w (jrn H jh J :: rs)) (a iv : Nat) {D : DSt} (hr : rs[a]? = some (dev H D)) {v : Value} {ks : List Nat} {vs : List Value} {ds : List Blk} (hl : rs[iv]? = some (chgs v (ks.map fun k : Nat => (k : Int)) vs ds))
    (hdead : J.dead = true) (hmay : MayL D.n ks ds) (hd512 : ∀ d ∈ ds, d.length = 512) (hn : D.n ≤ 65536) (hne : ks ≠ []) :
    Calls Try.prog 47 #[.pointer (some ⟨jh.jb, 0, none⟩), v] w fun e w' => e = .returned (.int .i64 9) ∧ St w0 w' (jrn H jh J :: rs) := by
  obtain ⟨va, vc, rfl⟩ := h.chgsLen (i := iv + 1) hl
  have HM := Lib.hid (S_mayJ h a iv hr hl (fun k hk => by
    obtain ⟨x, hx, rfl⟩ := List.mem_map.1 hk
    have := hmay.home x hx
    exact (okI_iff _).2 (by omega)) (by rw [List.length_map]; have := hmay.few; omega) (fun d hd => by have := hd512 d hd; omega))
  rw [may_is hmay hd512] at HM
  have HC : Hid (∀ W, St w0 W (jrn H jh J :: rs) → Calls Try.prog 86 #[.pointer (some ⟨jh.jb, 0, none⟩), .slice va (ks.map fun k : Nat => (k : Int)).length vc] W fun e w' => W = w' ∧ e = .returned (.int .i64 9)) := Lib.hid fun W hW => S_commitDead hW hdead _
  obtain ⟨m, hm⟩ : ∃ m, (ks.map fun k : Nat => (k : Int)).length = m := ⟨_, rfl⟩
  rw [hm] at HM HC ⊢
  have hb : ((m : Int) == 0) = false := by
    rw [List.length_map] at hm
    have : ks.length ≠ 0 := fun e => hne (List.eq_nil_of_length_eq_zero e)
    rw [beq_eq_false_iff_ne]; omega
  clear h hr hl hdead hmay hd512 hn hne hm
  go_enter Try.func47, Try.ntmps47
  go_wp2_with fail
  refine HM.out.mono ?_
  clear HM
  rintro e w2 ⟨rfl, h2⟩
  have H2 := Lib.hid h2
  clear h2
  go_wp2_with fail
  refine (HC.out _ H2.out).mono ?_
  clear HC
  rintro e w3 ⟨rfl, rfl⟩
  go_wp2
  go_ret
  exact ⟨rfl, H2.out⟩
end
end Go.Proofs.Ytkanfpmmgaipnaa

/-
  A journal that lives over a device: what is known of both, as plain data.
-/
namespace Go.Proofs.Ytkanfpmmgaipnaa
set_option linter.unusedVariables false

/-- A journal J lives over the device D: its homes are s; its last commit's number is at most m. -/
structure Live (n g m : Nat) (J : JSt) (D : DSt) (s : Nat → Blk) : Prop where
  wf : D.Wf
  dn : D.n = n
  clean : ∀ k, D.pend k = []
  gen : J.gen = g
  last : J.last ≤ m
  alive : J.dead = false
  disk : ∃ o dt, TellsAt n g J.last o dt s D.base ∧ Knows o dt D.base J.order J.data

theorem Live.ok {n g m : Nat} {J : JSt} {D : DSt} {s : Nat → Blk} (h : Live n g m J D s) (hg : g < 18446744073709551616) (hm : m < 18446744073709551615) : JOk D.n J := by
  obtain ⟨o, dt, hT, hK⟩ := h.disk
  have hd := hT.1.dt512 (fun k => h.wf.base k)
  have hl := h.last
  rcases hK with ⟨e1, e2⟩ | ⟨e1, e2, _⟩
  · exact ⟨by rw [e1, e2]; exact hT.1.len, by rw [e1]; exact hT.1.few, fun k hk => by rw [e1] at hk; rw [h.dn]; exact (hT.1.homes k hk).2, by rw [e2]; exact hd, by omega, by rw [h.gen]; exact hg⟩
  · exact ⟨by rw [e1, e2]; rfl, by rw [e1]; exact Nat.zero_le _, fun k hk => by rw [e1] at hk; (cases hk), fun b hb => by rw [e2] at hb; (cases hb), by omega, by rw [h.gen]; exact hg⟩

theorem Live.view {n g m : Nat} {J : JSt} {D : DSt} {s : Nat → Blk} (h : Live n g m J D s) (k : Nat) (h1 : 245 ≤ k) (h2 : k < n) : jview J D k = s k := by
  obtain ⟨o, dt, hT, hK⟩ := h.disk
  unfold jview
  rw [last_fun_clean h.clean]
  rcases hK with ⟨e1, e2⟩ | ⟨e1, e2, hs⟩
  · rw [e1, e2]; exact hT.2 k h1 h2
  · rw [e1, e2, ← hT.2 k h1 h2, over_settled hT.1.len hT.1.nodup hs]
    unfold over; rfl

theorem Live.tells {n g m : Nat} {J : JSt} {D : DSt} {s : Nat → Blk} (h : Live n g m J D s) : Tells n g m s D.base := by
  obtain ⟨o, dt, hT, _⟩ := h.disk
  exact ⟨_, o, dt, h.last, hT⟩

theorem Live.mono {n g m m' : Nat} {J : JSt} {D : DSt} {s : Nat → Blk} (h : Live n g m J D s) (hm : m ≤ m') : Live n g m' J D s :=
  ⟨h.wf, h.dn, h.clean, h.gen, Nat.le_trans h.last hm, h.alive, h.disk⟩

theorem Live.congr {n g m : Nat} {J : JSt} {D : DSt} {s t : Nat → Blk} (h : Live n g m J D s) (hs : ∀ k, 245 ≤ k → k < n → s k = t k) : Live n g m J D t := by
  obtain ⟨o, dt, hT, hK⟩ := h.disk
  exact ⟨h.wf, h.dn, h.clean, h.gen, h.last, h.alive, o, dt, ⟨hT.1, fun k h1 h2 => (hT.2 k h1 h2).trans (hs k h1 h2)⟩, hK⟩

theorem Tells.congr {n g m : Nat} {s t : Nat → Blk} {C : Nat → Blk} (h : Tells n g m s C) (hs : ∀ k, 245 ≤ k → k < n → s k = t k) : Tells n g m t C := by
  obtain ⟨l, o, dt, hl, h1, h2⟩ := h
  exact ⟨l, o, dt, hl, h1, fun k a b => (h2 k a b).trans (hs k a b)⟩

theorem Tells.mono {n g m m' : Nat} {s : Nat → Blk} {C : Nat → Blk} (h : Tells n g m s C) (hm : m ≤ m') : Tells n g m' s C := by
  obtain ⟨l, o, dt, hl, h1, h2⟩ := h
  exact ⟨l, o, dt, Nat.le_trans hl hm, h1, h2⟩

theorem wOk {n g m : Nat} {J : JSt} {D : DSt} {s : Nat → Blk} (h : Live n g m J D s) {ks : List Nat} {ds : List Blk} (hl : MayL n ks ds) (hd : ∀ d ∈ ds, d.length = 512) (hn : 246 ≤ n) (hg : g < 18446744073709551616) (hm : m < 18446744073709551615) :
    ∀ op ∈ writeOps J.gen J.last J.order J.data ks ds, op.ok D.n := by
  intro op hop
  have hJ := h.ok hg hm
  unfold writeOps at hop
  cases op with
  | fl => trivial
  | wr k b =>
    rcases List.mem_append.1 hop with hop | hop
    · rcases List.mem_append.1 hop with hop | hop
      · rcases List.mem_append.1 hop with hop | hop
        · obtain ⟨i, h1, h2⟩ := settleOps_mem _ _ _ _ hop
          exact ⟨hJ.home k (List.mem_of_getElem? h1), hJ.b512 b (List.mem_of_getElem? h2)⟩
        · obtain ⟨j, h1, h2⟩ := dataFrom_mem _ _ _ _ _ hop
          have hj := (List.getElem?_eq_some_iff.1 h2).1
          have h60 := hl.few
          have h61 := hl.len
          refine ⟨?_, hd b (List.mem_of_getElem? h2)⟩
          rw [h1, h.dn]
          unfold slotB
          have : (J.last + 1) % 4 < 4 := Nat.mod_lt _ (by omega)
          omega
      · simp at hop
    · simp at hop
      obtain ⟨rfl, rfl⟩ := hop
      refine ⟨?_, headB_length _ _ _ hl.few⟩
      rw [h.dn]
      unfold slotB
      have : (J.last + 1) % 4 < 4 := Nat.mod_lt _ (by omega)
      omega

theorem writeOps_length (g last : Nat) (om : List Nat) (dm : List Blk) (ks : List Nat) (ds : List Blk) (h : dm.length = om.length) : (writeOps g last om dm ks ds).length = om.length + ds.length + 3 := by
  unfold writeOps
  simp only [List.length_append, settleOps_length _ _ h, dataFrom_length, List.length_cons, List.length_nil]

/-- What a commit leaves: the device, behind at most 123 ops. -/
structure After (n g m : Nat) (s t : Nat → Blk) (D D' : DSt) : Prop where
  wf : D'.Wf
  dn : D'.n = n
  ops : D'.ops ≤ D.ops + 123
  safe : Safe D' (fun C => Tells n g m s C ∨ Tells n g m t C)

theorem Live.commit {n g m : Nat} {J : JSt} {D : DSt} {s : Nat → Blk} (h : Live n g m J D s) {ks : List Nat} {ds : List Blk} (hl : MayL n ks ds) (hd : ∀ d ∈ ds, d.length = 512) (h246 : 246 ≤ n) (hn : n ≤ 65536) (hg : g < 18446744073709551616) (hm : m < 18446744073709551615) :
    After n g (m + 1) s (over ks ds s) D (runD (writeOps J.gen J.last J.order J.data ks ds) D) ∧
    (endD (writeOps J.gen J.last J.order J.data ks ds) D = 0 → Live n g (m + 1) (J.did ks ds) (runD (writeOps J.gen J.last J.order J.data ks ds) D) (over ks ds s)) := by
  obtain ⟨o, dt, hT, hK⟩ := h.disk
  have hJ := h.ok hg hm
  have hlast := h.last
  have hcs := commit_safe h.clean hT hK hl hn hg (by omega)
  have hw : (runD (writeOps J.gen J.last J.order J.data ks ds) D).Wf := runD_wf _ _ h.wf (wOk h hl hd h246 hg hm)
  have hops := runD_ops (writeOps J.gen J.last J.order J.data ks ds) D
  rw [writeOps_length _ _ _ _ _ _ hJ.len] at hops
  have hf := hJ.few
  have hf2 := hl.few
  have hf3 := hl.len
  have hge := h.gen
  rw [hge] at hw hops ⊢
  refine ⟨⟨hw, (runD_n _ _).trans h.dn, by omega, hcs.1.mono fun C hC => ?_⟩, fun h0 => ?_⟩
  · rcases hC with hC | hC
    · exact .inl ⟨_, o, dt, by omega, hC⟩
    · exact .inr ⟨_, ks, ds, by omega, hC⟩
  · obtain ⟨c1, c2⟩ := hcs.2 h0
    exact ⟨hw, (runD_n _ _).trans h.dn, c1, hge, Nat.succ_le_succ hlast, rfl, ks, ds, c2, .inl ⟨rfl, rfl⟩⟩

theorem oOk {n g last : Nat} {o : List Nat} {dt : List Blk} {D : DSt} (hw : D.Wf) (hn : D.n = n) (h : JDisk n g D.base last o dt) : ∀ op ∈ openOps o dt, op.ok D.n := by
  intro op hop
  unfold openOps at hop
  cases op with
  | fl => trivial
  | wr k b =>
    rcases List.mem_append.1 hop with hop | hop
    · obtain ⟨i, h1, h2⟩ := settleOps_mem _ _ _ _ hop
      exact ⟨by rw [hn]; exact (h.homes k (List.mem_of_getElem? h1)).2, h.dt512 (fun k => hw.base k) b (List.mem_of_getElem? h2)⟩
    · simp at hop

/-- What opening a clean device leaves. -/
theorem Tells.opens {n g m : Nat} {D : DSt} {s : Nat → Blk} (hw : D.Wf) (hn : D.n = n) (hp : ∀ k, D.pend k = []) (h : Tells n g m s D.base) : ∃ last o dt, last ≤ m ∧ JDisk D.n g D.last last o dt ∧
    (runD (openOps o dt) D).Wf ∧ (runD (openOps o dt) D).n = n ∧ (runD (openOps o dt) D).ops ≤ D.ops + 61 ∧ Safe (runD (openOps o dt) D) (Tells n g m s) ∧
    (endD (openOps o dt) D = 0 → Live n g m ⟨g, last, false, [], []⟩ (runD (openOps o dt) D) s) := by
  obtain ⟨last, o, dt, hl, hd, hs⟩ := h
  have hT : TellsAt n g last o dt s D.base := ⟨hd, hs⟩
  have hS : Safe D (TellsAt n g last o dt s) := Safe.clean hp hT
  have hwf := runD_wf _ _ hw (oOk hw hn hd)
  have hops := runD_ops (openOps o dt) D
  have hlen : (openOps o dt).length = o.length + 1 := by unfold openOps; rw [List.length_append, settleOps_length _ _ hd.len]; rfl
  have hfew := hd.few
  refine ⟨last, o, dt, hl, by rw [hn, last_fun_clean hp]; exact hd, hwf, (runD_n _ _).trans hn, by omega, (openOps_safe hS).mono fun C hC => ⟨last, o, dt, hl, hC⟩, fun h0 => ?_⟩
  obtain ⟨c1, c2, c3⟩ := openOps_done (by rw [last_fun_clean hp]; exact hT) hS h0
  exact ⟨hwf, (runD_n _ _).trans hn, c1, rfl, hl, rfl, o, dt, c2, .inr ⟨rfl, rfl, c3⟩⟩

/-- What Format leaves on a new device. -/
theorem fmt_tells (n : Nat) (hn : 246 ≤ n) (hn2 : n ≤ 65536) : Tells n 1 0 (fun _ => zeros) (fmtD (DSt.new n) 0 7).base ∧ (∀ k, (fmtD (DSt.new n) 0 7).pend k = []) ∧ (fmtD (DSt.new n) 0 7).Wf := by
  have hlast : ∀ i k, k ≠ 0 → (fmtD (DSt.new n) 0 i).last k = zeros := by
    intro i
    induction i with
    | zero => intro k _; rfl
    | succ i ih =>
      intro k hk
      show (fmtStep 0 i (fmtD (DSt.new n) 0 i)).last k = zeros
      unfold fmtStep
      split
      · by_cases e : k = 1 + 61 * i
        · subst e; exact last_put_same _ _ _
        · rw [last_put_other _ _ e]; exact ih k hk
      · split
        · rw [last_put_other _ _ hk]; exact ih k hk
        · exact ih k hk
  have hwf : ∀ i, (fmtD (DSt.new n) 0 i).Wf := by
    intro i
    induction i with
    | zero => exact DSt.new_wf (by omega) hn2
    | succ i ih =>
      have hno := (fmtD_ok (DSt.new n) 0 rfl i).1
      have hnn : (fmtD (DSt.new n) 0 i).n = n := hno
      show (fmtStep 0 i (fmtD (DSt.new n) 0 i)).Wf
      unfold fmtStep
      split
      · exact did_wf (o := .wr (1 + 61 * i) zeros) ih ⟨by rw [hnn]; omega, zeros_length⟩
      · split
        · exact did_wf (o := .wr 0 (laidB magicL [0 + 1])) ih ⟨by rw [hnn]; omega, laidFrom_length _ _ _ (textBlk_length _ (by decide)) (by simp)⟩
        · exact did_wf (o := .fl) ih trivial
  have hpend : ∀ k, (fmtD (DSt.new n) 0 7).pend k = [] := fun k => fmtD_pend _ _ k
  have hb : (fmtD (DSt.new n) 0 7).base = (fmtD (DSt.new n) 0 7).last := (last_fun_clean hpend).symm
  have hz : hdrOk 1 zeros = false := by unfold hdrOk; rfl
  refine ⟨⟨0, [], [], Nat.zero_le _, ⟨?_, ?_, fun i hi hok => ?_, .inl ⟨rfl, rfl, rfl⟩, fun k hk => by (cases hk), List.nodup_nil⟩, fun k h1 h2 => ?_⟩, hpend, hwf 7⟩
  · rw [hb, fmtD_last0]; exact laid_magic 0
  · rw [hb, fmtD_last0]; exact laid_gen 0 (by omega)
  · rw [hb, hlast 7 (slotB i) (by unfold slotB; omega), hz] at hok; cases hok
  · unfold over
    rw [hb]; exact hlast 7 k (by omega)
end Go.Proofs.Ytkanfpmmgaipnaa

/-
  bollardlaw4: fresh; Open over what is known; is; awake.
-/
namespace Go.Proofs.Ytkanfpmmgaipnaa
set_option linter.unusedVariables false
open Go.ChangeMaps Go.MapKept Go.RowKit

/-- Open of a device that is not cut. -/
theorem S_OpenL {w0 : Gnd} {w : World} {rs : List Res} (h : St w0 w rs) (a : Nat) {H : Hdl} {D : DSt} (hr : rs[a]? = some (dev H D)) {n g m : Nat} {s : Nat → Blk} (hw : D.Wf) (hn : D.n = n) (hp : ∀ k, D.pend k = []) (hT : Tells n g m s D.base) (h246 : 246 ≤ n) (hm : m < 18446744073709551615) (hg : g < 18446744073709551616)
    (ho : D.ops < 1000000000) (hlim : D.lim = none) :
    Calls Try.prog 49 #[.pointer (some ⟨H.b, 0, none⟩)] w fun e w' => ∃ jh J' D', e = .returned (.tuple #[.pointer (some ⟨jh.jb, 0, none⟩), .int .i64 0]) ∧ St w0 w' (jrn H jh J' :: rs.set a (dev H D')) ∧ Live n g m J' D' s ∧ D'.lim = none ∧ D'.ops ≤ D.ops + 61 := by
  obtain ⟨last, o, dt, hl, hd, a1, a2, a3, a4, a5⟩ := hT.opens hw hn hp
  refine (S_Open h a hr hd (by omega) (by omega) hg ho).mono ?_
  have hno := endD_none (openOps o dt) D hlim
  rintro e w' (⟨h0, jh, he, hst⟩ | ⟨h9, _⟩)
  · exact ⟨jh, _, _, he, hst, a5 h0, hno.2, a3⟩
  · rw [hno.1] at h9; cases h9

/-- Open of a device that may be cut: what it leaves. -/
theorem S_OpenC {w0 : Gnd} {w : World} {rs : List Res} (h : St w0 w rs) (a : Nat) {H : Hdl} {D : DSt} (hr : rs[a]? = some (dev H D)) {n g m : Nat} {s : Nat → Blk} (hw : D.Wf) (hn : D.n = n) (hp : ∀ k, D.pend k = []) (hT : Tells n g m s D.base) (h246 : 246 ≤ n) (hm : m < 18446744073709551615) (hg : g < 18446744073709551616)
    (ho : D.ops < 1000000000) :
    Calls Try.prog 49 #[.pointer (some ⟨H.b, 0, none⟩)] w fun e w' => ∃ v x D', e = .returned (.tuple #[v, .int .i64 x]) ∧ St w0 w' (rs.set a (dev H D')) ∧ D'.Wf ∧ D'.n = n ∧ D'.ops ≤ D.ops + 61 ∧ Safe D' (Tells n g m s) := by
  obtain ⟨last, o, dt, hl, hd, a1, a2, a3, a4, a5⟩ := hT.opens hw hn hp
  refine (S_Open h a hr hd (by omega) (by omega) hg ho).mono ?_
  rintro e w' (⟨h0, jh, he, hst⟩ | ⟨h9, he, hst⟩)
  · exact ⟨_, _, _, he, hst.drop 1, a1, a2, a3, a4⟩
  · exact ⟨_, _, _, he, hst, a1, a2, a3, a4⟩

/-- What a call answers that makes a device and its journal. -/
def FreshRet (w0 : Gnd) (rs : List Res) (n : Nat) (e : Ending) (w' : World) : Prop :=
  ∃ H jh J D, e = .returned (.tuple #[.pointer (some ⟨H.b, 0, none⟩), .pointer (some ⟨jh.jb, 0, none⟩), .bool true]) ∧ St w0 w' (jrn H jh J :: dev H D :: rs) ∧ Live n 1 0 J D (fun _ => zeros) ∧ D.lim = none ∧ D.ops ≤ 100

set_option maxRecDepth 100000 in
theorem S_fresh {w0 : Gnd} {w : World} {rs : List Res} (h : St w0 w rs) : Calls Try.prog 46 #[] w (FreshRet w0 rs 275) := by
  have HN := Lib.hid (S_New h 275 (by omega) (by omega))
  clear h
  go_enter Try.func46, Try.ntmps46
  go_wp2_with fail
  refine HN.out.mono ?_
  clear HN
  rintro e w1 ⟨H, rfl, h1⟩
  have H1 := Lib.hid h1
  clear h1
  go_wp2_with fail
  refine (S_Format H1.out 0 rfl (by decide) (by decide) rfl (by rfl) (by decide)).mono ?_
  rintro e w2 ⟨rfl, h2⟩
  obtain ⟨f1, f2, f3⟩ := fmt_tells 275 (by omega) (by omega)
  have h2 : St w0 w2 (dev H (fmtD (DSt.new 275) 0 7) :: rs) := h2
  obtain ⟨g1, g2, g3⟩ := fmtD_ok (DSt.new 275) 0 rfl 7
  have HO := Lib.hid (S_OpenL h2 0 rfl f3 (g1.trans (show (DSt.new 275).n = 275 from rfl)) f2 f1 (by omega) (by omega) (by omega) (by rw [g2]; decide) g3)
  have HG : Hid ((fmtD (DSt.new 275) 0 7).ops = 7) := Lib.hid g2
  clear h2 f1 f2 f3 g1 g2 g3 H1
  go_wp2_with fail
  refine HO.out.mono ?_
  clear HO
  rintro e w3 ⟨jh, J', D', rfl, h3, hl, hlim, hops⟩
  have H3 := Lib.hid (show St w0 w3 (jrn H jh J' :: dev H D' :: rs) from h3)
  have HL := Lib.hid hl
  have HLI := Lib.hid hlim
  have HOP : Hid (D'.ops ≤ 100) := Lib.hid (by have := HG.out; omega)
  clear h3 hl hlim hops
  go_wp2
  go_ret3
  exact ⟨H, jh, J', D', rfl, H3.out, HL.out, HLI.out, HOP.out⟩
end Go.Proofs.Ytkanfpmmgaipnaa

/-
  Commits over what is known; a row of one change; crashes; bollardlaw4.awake.
-/
namespace Go.Proofs.Ytkanfpmmgaipnaa
set_option linter.unusedVariables false
open Go.ChangeMaps Go.MapKept Go.RowKit

/-- A row of one change, made in place. -/
theorem St.chgsOne {w0 : Gnd} {w : World} {rs : List Res} (h : St w0 w rs) (j : Nat) {v : Value} {d : Blk} (hv : rs[j]? = some (byt v d)) (k : Int) :
    St w0 (w.alloc (.cells #[.int .i64 k, v] 64 (0, 0))) (chgs (.slice (some ⟨w.heap.size, 0, none⟩) 1 1) [k] [v] [d] :: rs) := by
  have hf : Frm NoB w (w.alloc (.cells #[.int .i64 k, v] 64 (0, 0))) := (Frm.refl _ _).alloc _
  refine h.make hf (chgs _ [k] [v] [d]) ⟨World.ownsRow_lit w #[.int .i64 k, v] 1 (Nat.zero_le _) (by decide) rfl, rfl, rfl, fun i u b hu hb => ?_⟩ (fun x hx => by
    have e : some w.heap.size = some x := hx
    injection e with e
    omega)
  have hi : i = 0 := by
    have := (List.getElem?_eq_some_iff.1 hu).1
    simpa using this
  subst hi
  simp at hu hb
  subst hu hb
  exact BytesAt.frm0 (h.get hv) hf

theorem Live.wf' {n g m : Nat} {J : JSt} {D : DSt} {s : Nat → Blk} (h : Live n g m J D s) (picks : List Int) : (D.crash picks).Wf ∧ (D.crash picks).n = n ∧ (∀ k, (D.crash picks).pend k = []) ∧ Tells n g m s (D.crash picks).base ∧ (D.crash picks).lim = none ∧ (D.crash picks).ops = 0 :=
  ⟨DSt.crash_wf h.wf picks, h.dn, fun _ => rfl, (Safe.clean (P := Tells n g m s) h.clean h.tells) _ (img_crash D picks), rfl, rfl⟩

/-- A commit over a device that is not cut. -/
theorem S_CommitL {w0 : Gnd} {w : World} {rs : List Res} {H : Hdl} {jh : JHdl} {J : JSt} (h : St w0 w (jrn H jh J :: rs)) (a iv : Nat) {D : DSt} (hr : rs[a]? = some (dev H D)) {v : Value} {ks : List Nat} {vs : List Value} {ds : List Blk} (hl : rs[iv]? = some (chgs v (ks.map fun k : Nat => (k : Int)) vs ds))
    {n g m : Nat} {s : Nat → Blk} (hL : Live n g m J D s) (hmay : MayL n ks ds) (hd512 : ∀ d ∈ ds, d.length = 512) (h246 : 246 ≤ n) (hn : n ≤ 65536) (hm : m < 18446744073709551615) (hg : g < 18446744073709551616) (ho : D.ops < 1000000000) (hlim : D.lim = none) (q : iv ≠ a) :
    Calls Try.prog 47 #[.pointer (some ⟨jh.jb, 0, none⟩), v] w fun e w' => ∃ jh' J' D', jh'.jb = jh.jb ∧ e = .returned (.int .i64 0) ∧ St w0 w' (jrn H jh' J' :: rs.set a (dev H D')) ∧ Live n g (m + 1) J' D' (over ks ds s) ∧ D'.lim = none ∧ D'.ops ≤ D.ops + 123 := by
  have hdn := hL.dn
  by_cases hk : ks = []
  · subst hk
    have hds : ds = [] := List.eq_nil_of_length_eq_zero hmay.len
    subst hds
    have hvs : vs = [] := by
      have := (h.get (i := iv + 1) hl).2.1
      exact List.eq_nil_of_length_eq_zero (by simpa using this)
    subst hvs
    refine (S_CommitNone h a iv hr hl).mono ?_
    rintro e w' ⟨he, hst⟩
    refine ⟨jh, J, D, rfl, he, ?_, (hL.mono (Nat.le_succ m)).congr (fun k _ _ => by unfold over; rfl), hlim, by omega⟩
    have e1 : rs.set a (dev H D) = rs := by
      obtain ⟨h1, h2⟩ := List.getElem?_eq_some_iff.1 hr
      rw [← h2]; exact List.set_getElem_self h1
    rw [e1]; exact hst
  · obtain ⟨hA, hB⟩ := hL.commit hmay hd512 h246 hn hg hm
    have hno := endD_none (writeOps J.gen J.last J.order J.data ks ds) D hlim
    refine (S_Commit h a iv hr hl (hL.ok hg hm) hL.alive (by rw [hdn]; exact hmay) hd512 (by omega) (by omega) ho hk q).mono ?_
    rintro e w' (⟨h0, he, jh', hjb, hst⟩ | ⟨h9, _⟩)
    · exact ⟨jh', _, _, hjb, he, hst, hB h0, hno.2, hA.ops⟩
    · rw [hno.1] at h9; cases h9

theorem St.magic {w0 : Gnd} {w : World} {rs : List Res} (h : St w0 w rs) {i n cap blk off : Nat} {b : Blk} (hr : rs[i]? = some (byt (.slice (some ⟨blk, off, none⟩) n cap) b)) (hm : isMagic b = true) (c2 : Nat) :
    (convert 31 9 (.slice (some ⟨blk, off, none⟩) 8 c2)).run Try.prog w = .ok (.string { data := #[66, 79, 76, 76, 65, 82, 68, 74] }) w := by
  have e : b.take 8 = magicL := by unfold isMagic at hm; exact eq_of_beq hm
  have hl : 8 ≤ b.length := by
    have := congrArg List.length e
    rw [List.length_take] at this
    have h8 : magicL.length = 8 := rfl
    omega
  exact (head_string (h.get hr) hl c2).trans (by rw [e]; rfl)

theorem over_one (k : Nat) (d : Blk) (s : Nat → Blk) : over [k] [d] s = setB s k d := by
  funext x
  unfold over setB
  by_cases h : k = x
  · subst h; rw [if_pos rfl, if_pos rfl]
  · rw [if_neg h, if_neg (fun e => h e.symm)]; unfold over; rfl

theorem mayOne (n k : Nat) (d : Blk) (h1 : 245 ≤ k) (h2 : k < n) : MayL n [k] [d] := ⟨fun x hx => by simp at hx; omega, by simp, by simp, rfl⟩

set_option maxRecDepth 100000 in
theorem awake4_any {w0 : Gnd} {w : World} {rs : List Res} (h : St w0 w rs) : Calls Try.prog 45 #[] w fun e w' => e = .returned (.bool true) ∧ St w0 w' rs := by
  have HF := Lib.hid (S_fresh h)
  clear h
  go_enter Try.func45, Try.ntmps45
  go_wp2_with fail
  refine HF.out.mono ?_
  clear HF
  rintro e w1 ⟨H, jh, J, D, rfl, h1, hl, hlim, hops⟩
  have H1 := Lib.hid h1
  have HL := Lib.hid hl
  have HLI := Lib.hid hlim
  have HOP := Lib.hid hops
  clear h1 hl hlim hops
  go_wp2_with fail
  refine (S_Block H1.out 5).mono ?_
  rintro e w2 ⟨v, rfl, h2⟩
  obtain ⟨vb, vo, vc, rfl, _⟩ := (h2.get (i := 0) rfl).cells
  have H2 := Lib.hid h2
  clear h2 H1
  rw [blockOf_length] at H2 ⊢
  have H3 := Lib.hid (H2.out.chgsOne 0 rfl 250)
  have HC := Lib.hid (S_CommitL (H3.out.perm (List.perm_append_comm (l₁ := [_, _]) (l₂ := [_]) |>.append_right _)) 2 0 rfl (ks := [250]) rfl HL.out (mayOne 275 250 (blockOf 5) (by omega) (by omega)) (fun d hd => by simp at hd; subst hd; exact blockOf_length 5) (by omega) (by omega) (by omega) (by omega) (by have := HOP.out; omega) HLI.out (by omega))
  go_wp2_with fail
  clear H2 H3
  refine HC.out.mono ?_
  clear HC
  rintro e w3 ⟨jh', J', D', hjb, rfl, h3, hl3, hlim3, hops3⟩
  have H3 := Lib.hid (show St w0 w3 (jrn H jh' J' :: chgs _ _ _ _ :: byt _ _ :: dev H D' :: rs) from h3)
  have HL3 := Lib.hid hl3
  have HOP3 : Hid (D'.ops ≤ 300) := Lib.hid (by have := HOP.out; omega)
  clear h3 hl3 hlim3 hops3 hjb HL HLI HOP
  go_wp2_with fail
  refine (S_Crash H3.out 3 rfl (by have := HOP3.out; omega) _ [] ⟨none, 0, rfl, fun i x hx => by simp at hx⟩ (fun _ h => by cases h) (by decide)).mono ?_
  rintro e w4 ⟨H2, rfl, h4⟩
  obtain ⟨p1, p2, p3, p4, p5, p6⟩ := HL3.out.wf' []
  have HO := Lib.hid (S_OpenL h4 0 rfl p1 p2 p3 p4 (by omega) (by omega) (by omega) (by omega) p5)
  clear h4 p1 p2 p3 p4 p5 p6 H3
  go_wp2_with fail
  refine HO.out.mono ?_
  clear HO
  rintro e w5 ⟨jh2, J2, D2, rfl, h5, hl5, hlim5, hops5⟩
  have H5 := Lib.hid (show St w0 w5 (jrn H2 jh2 J2 :: dev H2 D2 :: jrn H jh' J' :: chgs _ _ _ _ :: byt _ _ :: dev H D' :: rs) from h5)
  have HL5 := Lib.hid hl5
  have HOP5 : Hid (D2.ops ≤ 61) := Lib.hid (by have h0 : (D'.crash []).ops = 0 := rfl; omega)
  clear h5 hl5 hlim5 hops5
  have HR := Lib.hid (S_JR H5.out 0 rfl (HL5.out.ok (by omega) (by omega)) (by have := HOP5.out; omega) 250 (by omega) (by rw [HL5.out.dn]; decide))
  have HV : Hid (jview J2 D2 (250 : Int).toNat = blockOf 5) := Lib.hid ((HL5.out.view 250 (by omega) (by omega)).trans (by rw [over_one]; unfold setB; rfl))
  go_wp2_with fail
  refine HR.out.mono ?_
  clear HR
  rintro e w6 ⟨v6, rfl, h6⟩
  rw [HV.out] at h6
  have H6 := Lib.hid h6
  clear h6 H5 HV
  have HM : Hid (isMagic (D'.last (0 : Int).toNat) = true) := Lib.hid (by
    obtain ⟨o, dt, hT, _⟩ := HL3.out.disk
    rw [last_fun_clean HL3.out.clean]
    exact hT.1.magic)
  have HR0 := Lib.hid (S_Read H6.out 6 rfl 0 (by omega) (by rw [HL3.out.dn]; decide) (by have := HOP3.out; omega))
  have H512 : Hid ((D'.last (0 : Int).toNat).length = 512) := Lib.hid (DSt.last_length HL3.out.wf _)
  go_wp2_with fail
  refine HR0.out.mono ?_
  clear HR0
  rintro e w7 ⟨v7, rfl, h7⟩
  have H7 := Lib.hid h7
  clear h7 H6
  obtain ⟨v7b, v7o, v7c, rfl, hc7, _⟩ := (H7.out.get (i := 0) rfl).cells
  rw [H512.out] at H7 hc7 ⊢
  go_wp2_with fail
  refine (S_Block H7.out 5).mono ?_
  rintro e w8 ⟨v8, rfl, h8⟩
  have H8 := Lib.hid h8
  clear h8 H7
  go_wp2_with fail
  refine (S_Bytes H8.out 2 0 rfl rfl (by rw [blockOf_length]; omega)).mono ?_
  rintro e w9 ⟨rfl, h9⟩
  rw [show (blockOf 5 == blockOf 5) = true from beq_self_eq_true _]
  have H9 := Lib.hid h9
  clear h9 H8
  have hst := fun c2 => H9.out.magic (i := 1) rfl HM.out c2
  go_wp2
  go_ret
  exact ⟨rfl, H9.out.drop 9⟩
end Go.Proofs.Ytkanfpmmgaipnaa
