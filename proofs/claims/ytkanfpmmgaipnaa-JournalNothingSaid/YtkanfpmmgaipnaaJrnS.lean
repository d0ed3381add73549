/-
  append of one row of one's own to another; functions that do ops, one behind the other.
-/
import Derived.Test.YtkanfpmmgaipnaaJrnQ
import Derived.Laws.OwnMore
namespace Go.Proofs.Ytkanfpmmgaipnaa
set_option linter.unusedVariables false
open Go.ChangeMaps Go.MapKept Go.RowKit

section
variable {P : Program}

/-- 'append(v, u...)' of two rows of one's own, of which u may be nil. -/
theorem run_append_rows (w : World) (base base2 : Nat) (t ty e : TypeId) (i : TypeInfo) (z : Value) (size bytes : Nat) (ht : P.underlying t = some (.slice e)) (hi : P.info? e = some i) (hz : i.zero = some z) (hsize : i.size = size) (hby : i.bytes = bytes)
    (hzs : z.cells.size = size) (hsz : 0 < size) (v : Value) (n : Nat) (xs : List Value) (hown : w.ownsRow base e size v n xs) (u : Value) (m : Nat) (ys : List Value) (hu : w.ownsRow base2 e size u m ys) (h1 : ∀ y ∈ ys, y.oneCell' = true)
    (h63 : n + m ≤ maxLen) (hbytes : (n + m) * bytes ≤ 140737488355328) (hbase : base ≤ w.heap.size) :
    ∃ v' w', (Builtin.append_ #[t, t] ty #[v, u]).run P w = .ok v' w' ∧ w'.ownsRow base e size v' (n + m) (xs ++ ys) ∧ w.grownBy w' v.ownBlock ∧ (v'.ownBlock = v.ownBlock ∨ v'.ownBlock = some w.heap.size) := by
  rcases hu.2 with ⟨rfl, rfl⟩ | ⟨g, cap, cur, rfl, _⟩
  · have hys : ys = [] := List.eq_nil_of_length_eq_zero (by simpa using hu.1)
    subst hys
    refine ⟨v, w, ?_, by simpa using hown, World.grownBy.refl w _, .inl rfl⟩
    rcases hown.2 with ⟨rfl, rfl⟩ | ⟨g, cap, cur, rfl, _, _, hnc, _⟩
    · simp [Builtin.append_, run_underlying ht, sizeOf, typeInfo, hi, Builtin.lenOf, Builtin.firstCells]
    · simp [Builtin.append_, run_underlying ht, sizeOf, typeInfo, hi, Builtin.lenOf, Builtin.firstCells, hnc, storeCells]
  · obtain ⟨v', w', h, h2, h3, _, h5⟩ := run_append_own_at (P := P) w base t ty e i z size bytes ht hi hz hsize hby hzs hsz v n xs hown ⟨g, 0, none⟩ m cap ys hu.1 (hu.cells (g := g) rfl) h1 h63 hbytes hbase
    exact ⟨v', w', h, h2, h3, h5⟩

theorem wpList_append_rows {w : World} {ops : Array Oper} {rest : List Oper} {o : Oper} {a : Act} {Q : Exit → Act → World → Prop} (hgd : o.guard = none) (s x : Operand) (t : TypeId)
    (ho : o.op = .call { callee := .builtin .append, args := #[s, x], argTypes := #[t, t] })
    (base base2 : Nat) (e : TypeId) (i : TypeInfo) (z : Value) (size bytes : Nat) (ht : P.underlying t = some (.slice e)) (hi : P.info? e = some i) (hz : i.zero = some z) (hsize : i.size = size) (hby : i.bytes = bytes)
    (hzs : z.cells.size = size) (hsz : 0 < size) (v : Value) (n : Nat) (xs : List Value) (hs : a.eval s = v) (hown : w.ownsRow base e size v n xs) (u : Value) (m : Nat) (ys : List Value) (hx : a.eval x = u) (hu : w.ownsRow base2 e size u m ys) (h1 : ∀ y ∈ ys, y.oneCell' = true)
    (h63 : n + m ≤ maxLen) (hbytes : (n + m) * bytes ≤ 140737488355328) (hbase : base ≤ w.heap.size)
    (h : ∀ v' w', w'.ownsRow base e size v' (n + m) (xs ++ ys) → w.grownBy w' v.ownBlock → (v'.ownBlock = v.ownBlock ∨ v'.ownBlock = some w.heap.size) → wpList P ops Q rest (a.put o.dst v') w') : wpList P ops Q (o :: rest) a w := by
  refine wpList_plain hgd fun K hK => ?_
  obtain ⟨v', w', hr, h2, h3, h5⟩ := run_append_rows (P := P) w base base2 t o.type e i z size bytes ht hi hz hsize hby hzs hsz v n xs hown u m ys hu h1 h63 hbytes hbase
  unfold Oper.wp execOp
  simp only [ho, resolve, invoke, builtin, Sem.run_bind, Sem.run_pure, Result.andThen_ok, List.map_toArray, List.map_cons, List.map_nil, hs, hx, hr]
  exact hK _ _ (h v' w' h2 h3 h5)
end

/-- append to a row of one's own, as a step of a region that draws its order. -/
theorem step_append_own {P : Program} {ops : Array Oper} {o : Oper} {a : Act} {w : World} {K : Act → World → Prop} {Q : Exit → Act → World → Prop} {E : Prop} (hgd : o.guard = none) (s x : Operand) (t : TypeId)
    (ho : o.op = .call { callee := .builtin .append, args := #[s, x], argTypes := #[t, t] })
    (base : Nat) (e : TypeId) (i : TypeInfo) (z : Value) (size bytes : Nat) (ht : P.underlying t = some (.slice e)) (hi : P.info? e = some i) (hz : i.zero = some z) (hsize : i.size = size) (hby : i.bytes = bytes) (hzs : z.cells.size = size) (hsz : 0 < size)
    (v : Value) (n : Nat) (xs : List Value) (hs : a.eval s = v) (hown : w.ownsRow base e size v n xs) (ad : Addr) (m c : Nat) (news : List Value) (hx : a.eval x = .slice (some ad) m c) (hl : news.length = m * size)
    (hnews : ∀ j u, news[j]? = some u → w.cell? (ad.add j) = some u) (h1 : ∀ u ∈ news, u.oneCell' = true) (h63 : n + m ≤ maxLen) (hbytes : (n + m) * bytes ≤ 140737488355328) (hbase : base ≤ w.heap.size)
    (h : ∀ v' w', w'.ownsRow base e size v' (n + m) (xs ++ news) → w.grownBy w' v.ownBlock → (v'.ownBlock = v.ownBlock ∨ v'.ownBlock = some w.heap.size) → K (a.put o.dst v') w') :
    if Region.wanted o (yielded ops a.tmps) = true then Oper.wp P o a w K Q else E := by
  rw [if_pos (show Region.wanted o (yielded ops a.tmps) = true by simp [Region.wanted, hgd])]
  obtain ⟨v', w', hr, h2, h3, h4, h5⟩ := run_append_own_at (P := P) w base t o.type e i z size bytes ht hi hz hsize hby hzs hsz v n xs hown ad m c news hl hnews h1 h63 hbytes hbase
  unfold Oper.wp execOp
  simp only [ho, resolve, invoke, builtin, Sem.run_bind, Sem.run_pure, Result.andThen_ok, List.map_toArray, List.map_cons, List.map_nil, hs, hx, hr]
  exact h v' w' h2 h3 h5

/-- A row that was made in place. -/
theorem St.rowLit {w0 w : World} {rs : List Res} (h : St w0 w rs) (t : TypeId) (ht : t ≠ 5) (s : Nat) (c : Array Value) (n : Nat) (hm : n ≤ maxLen) (hs : c.size = n * s) :
    St w0 (w.alloc (.cells c t (0, 0))) (rowR t ht s (.slice (some ⟨w.heap.size, 0, none⟩) n n) n c.toList :: rs) :=
  h.make ((Frm.refl _ _).alloc _) (rowR t ht s _ _ _) (World.ownsRow_lit w c n (Nat.zero_le _) hm hs) (fun x hx => by
    have e : some w.heap.size = some x := hx
    injection e with e
    omega)

/-! ### Functions that do ops -/

theorem set_pre (pre rs : List Res) (a : Nat) (X Y : Res) : (pre ++ rs.set a X).set (pre.length + a) Y = pre ++ rs.set a Y := by
  rw [List.set_append_right _ _ (by omega), show pre.length + a - pre.length = a from by omega, List.set_set]

theorem get_pre (pre rs : List Res) (a : Nat) (X : Res) (h : a < rs.length) : (pre ++ rs.set a X)[pre.length + a]? = some X := by
  rw [List.getElem?_append_right (by omega), show pre.length + a - pre.length = a from by omega, List.getElem?_set_self h]

/-- tries, where each function does ops of the device. -/
theorem tries_ops {w0 w : World} {pre rs : List Res} (h : St w0 w (pre ++ rs)) (a i0 : Nat) {H : Hdl} {D : DSt} (hr : rs[a]? = some (dev H D)) {blk cap n : Nat} {xs : List Value} {ht : (33 : TypeId) ≠ 5}
    (hrow : pre[i0]? = some (rowR 33 ht 1 (.slice (some ⟨blk, 0, none⟩) n cap) n xs)) (g : Nat → FuncId) (fst cp : Nat → Array Value) (hx : ∀ i, i < n → xs[i]? = some (.func (.func (g i)) (fst i) (cp i)))
    (he : ∀ i, i < n → EntersF Try.prog (g i)) (hn : n ≤ 1000000) (L : List (List DOp)) (hL : L.length = n)
    (hs : ∀ i E W, i < n → E.n = D.n → E.ops ≤ D.ops + (L.take i).flatten.length → St w0 W (pre ++ rs.set a (dev H E)) → Calls Try.prog (g i) (fst i ++ cp i) W (OpsRet w0 (pre ++ rs.set a (dev H E)) (pre.length + a) H (L.getD i []) E)) :
    Calls Try.prog 91 #[.slice (some ⟨blk, 0, none⟩) n cap] w fun e w' => e = .returned (.int .i64 (endD L.flatten D)) ∧ St w0 w' (pre ++ rs.set a (dev H (runD L.flatten D))) := by
  have ha : a < rs.length := (List.getElem?_eq_some_iff.1 hr).1
  refine (tries_any w blk 0 n cap (fun i W => endD (L.take i).flatten D = 0 ∧ St w0 W (pre ++ rs.set a (dev H (runD (L.take i).flatten D))))
    (fun x W => x = endD L.flatten D ∧ St w0 W (pre ++ rs.set a (dev H (runD L.flatten D)))) g fst cp ?_ ?_ he hn ?_).mono ?_
  · refine ⟨rfl, ?_⟩
    have e : rs.set a (dev H D) = rs := by
      obtain ⟨h1, h2⟩ := List.getElem?_eq_some_iff.1 hr
      rw [← h2]; exact List.set_getElem_self h1
    show St w0 w (pre ++ rs.set a (dev H D))
    rw [e]; exact h
  · intro i W hi hW
    have hi0 : i0 < pre.length := (List.getElem?_eq_some_iff.1 hrow).1
    have ho : W.ownsRow 0 33 1 (.slice (some ⟨blk, 0, none⟩) n cap) n xs := hW.2.get (i := i0) (by rw [List.getElem?_append_left hi0]; exact hrow)
    have h1 := ho.cells (g := blk) rfl i _ (hx i hi)
    rw [show (⟨blk, 0, none⟩ : Addr).add i = ⟨blk, 0 + i, none⟩ from by unfold Addr.add; split <;> simp_all] at h1
    exact h1
  · intro i W hi hW
    have hsplit : (L.take (i + 1)).flatten = (L.take i).flatten ++ L.getD i [] := by
      rw [List.take_succ_eq_append_getElem (by omega), List.flatten_append, List.getD_eq_getElem?_getD, List.getElem?_eq_getElem (by omega)]
      simp
    obtain ⟨e1, e2⟩ := runD_append (L.take i).flatten (L.getD i []) D hW.1
    rw [← hsplit] at e1 e2
    refine (hs i _ W hi (runD_n _ _) (runD_ops _ _) hW.2).mono fun e w' hret => ⟨_, hret.1, fun h0 => ⟨e2.trans h0, ?_⟩, fun h0 => ?_⟩
    · have := hret.2
      rw [set_pre, ← e1] at this
      exact this
    · have h9 := (endD_cases (L.getD i []) (runD (L.take i).flatten D)).resolve_left h0
      have hst := runD_stop (L.take (i + 1)).flatten (L.drop (i + 1)).flatten D (e2.trans h9)
      rw [← List.flatten_append, List.take_append_drop] at hst
      have := hret.2
      rw [set_pre, ← e1, ← hst.1] at this
      exact ⟨h9.trans hst.2.symm, this⟩
  · rintro e w' (⟨h1, h2, h3⟩ | ⟨x, hx, h1, h2, h3⟩)
    · rw [List.take_of_length_le (by omega)] at h2 h3
      exact ⟨by rw [h1, h2], h3⟩
    · exact ⟨by rw [h1, h2], h3⟩

/-- The same, the functions told one by one. -/
theorem tries_ops1 {w0 w : World} {pre rs : List Res} (h : St w0 w (pre ++ rs)) (a i0 : Nat) {H : Hdl} {D : DSt} (hr : rs[a]? = some (dev H D)) {blk cap n : Nat} {xs : List Value} {ht : (33 : TypeId) ≠ 5}
    (hrow : pre[i0]? = some (rowR 33 ht 1 (.slice (some ⟨blk, 0, none⟩) n cap) n xs)) (hn : n ≤ 1000000) (L : List (List DOp)) (hL : L.length = n)
    (hs : ∀ i, i < n → ∃ (g : FuncId) (fst cp : Array Value), xs[i]? = some (.func (.func g) fst cp) ∧ EntersF Try.prog g ∧ ∀ E W, E.n = D.n → E.ops ≤ D.ops + (L.take i).flatten.length → St w0 W (pre ++ rs.set a (dev H E)) → Calls Try.prog g (fst ++ cp) W (OpsRet w0 (pre ++ rs.set a (dev H E)) (pre.length + a) H (L.getD i []) E)) :
    Calls Try.prog 91 #[.slice (some ⟨blk, 0, none⟩) n cap] w fun e w' => e = .returned (.int .i64 (endD L.flatten D)) ∧ St w0 w' (pre ++ rs.set a (dev H (runD L.flatten D))) := by
  have hch : ∃ G : Nat → FuncId × Array Value × Array Value, ∀ i, i < n → xs[i]? = some (.func (.func (G i).1) (G i).2.1 (G i).2.2) ∧ EntersF Try.prog (G i).1 ∧ ∀ E W, E.n = D.n → E.ops ≤ D.ops + (L.take i).flatten.length → St w0 W (pre ++ rs.set a (dev H E)) → Calls Try.prog (G i).1 ((G i).2.1 ++ (G i).2.2) W (OpsRet w0 (pre ++ rs.set a (dev H E)) (pre.length + a) H (L.getD i []) E) :=
    ⟨fun i => if h : i < n then ((hs i h).choose, (hs i h).choose_spec.choose, (hs i h).choose_spec.choose_spec.choose) else (0, #[], #[]), fun i hi => by
      simp only [dif_pos hi]
      exact (hs i hi).choose_spec.choose_spec.choose_spec⟩
  obtain ⟨G, hG⟩ := hch
  exact tries_ops h a i0 hr hrow (fun i => (G i).1) (fun i => (G i).2.1) (fun i => (G i).2.2) (fun i hi => (hG i hi).1) (fun i hi => (hG i hi).2.1) hn L hL (fun i E W hi h1 h2 h3 => (hG i hi).2.2 E W h1 h2 h3)

theorem flatten_take_le (L : List (List DOp)) (i : Nat) : (L.take i).flatten.length ≤ L.flatten.length := by
  have e : L.flatten = (L.take i).flatten ++ (L.drop i).flatten := by rw [← List.flatten_append, List.take_append_drop]
  rw [e, List.length_append]; omega

theorem flatten_ones : ∀ l : List DOp, (l.map fun o => [o]).flatten = l
  | [] => rfl
  | o :: r => by
    show [o] ++ (r.map fun o => [o]).flatten = _
    rw [flatten_ones r]; rfl

theorem dataFrom_get (t : Nat) : ∀ (l : List Blk) (i j : Nat) (b : Blk), l[j]? = some b → (dataFrom t i l)[j]? = some (.wr (slotB t + 1 + (i + j)) b)
  | [], _, _, _, h => by simp at h
  | c :: r, i, 0, b, h => by simp at h; subst h; rfl
  | c :: r, i, j + 1, b, h => by
    have := dataFrom_get t r (i + 1) j b (by simpa using h)
    rw [show i + 1 + j = i + (j + 1) from by omega] at this
    exact this

/-- Behind an append to a row (in this very world). -/
theorem St.rowAppend0 {w0 w : World} {rs : List Res} (h : St w0 w rs) (i : Nat) {t : TypeId} {ht : t ≠ 5} {s n : Nat} {v : Value} {xs : List Value} (hr : rs[i]? = some (rowR t ht s v n xs)) {v' : Value} {w' : World} {m : Nat} {ys : List Value}
    (ho : w'.ownsRow 0 t s v' m ys) (hg : w.grownBy w' v.ownBlock) (hat : v'.ownBlock = v.ownBlock ∨ v'.ownBlock = some w.heap.size) :
    St w0 w' (rs.set i (rowR t ht s v' m ys)) := by
  refine h.write i hr ((Frm.ofGrown hg).mono (fun y _ e => e)) (rowR t ht s v' m ys) ho (fun x hx => ?_)
  rcases hat with e | e
  · exact .inl (show v.ownBlock = some x from e ▸ (show v'.ownBlock = some x from hx))
  · have hx : v'.ownBlock = some x := hx
    rw [e] at hx
    have e' : w.heap.size = x := by injection hx
    exact .inr (by omega)
end Go.Proofs.Ytkanfpmmgaipnaa
