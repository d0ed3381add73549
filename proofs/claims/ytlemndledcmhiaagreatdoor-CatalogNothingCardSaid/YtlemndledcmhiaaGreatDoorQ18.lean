/-
  The catalog, from the device up, part 18.
-/
import Derived.Test.YtlemndledcmhiaaGreatDoorQ17
namespace Go.Proofs.YtlemndledcmhiaaGreatDoor
set_option linter.unusedVariables false
set_option linter.unusedSimpArgs false
section
open Go.ChangeMaps Go.MapKept Go.RowKit
def heldM (X : Sys) (ι : Path → Nat) : List Nat := X.P.im :: X.P.bm :: (heldL X (ι [cN]) ++ heldL X (ι [cN, lsN]))
end
section
open Go.ChangeMaps Go.MapKept Go.RowKit
variable {w0 : Gnd} {w : World} {rs : List Res} {X : Sys} {F : FH} {A : Path → Option Nd} {ι : Path → Nat}
theorem MayCr.save (hA : Rep X A ι) (hl : X.l = []) {next n P : Nat} {L : List Tp} {D : List ByteArray} (h : MayCr X A next L n D P) (t : Tp) (ht : t.nm.size ≤ 50) (next' : Int) :
    MaySave X.open' A ι (heldM X ι) (encC next L) (encC next' (insT t L)) ∧ (heldM X ι).length = 4 + dat n + dat (8 + 107 * L.length) ∧ HeldC X (heldM X ι) (ι [cN]) := by
  have e1 := encC_length (next : Int) L h.cat.nm
  have e2 : (encC next' (insT t L)).length = 8 + 107 * (L.length + 1) := by
    rw [encC_length next' (insT t L) (fun x hx => by
      rcases (mem_insT t x L).1 hx with rfl | hx
      · exact ht
      · exact h.cat.nm x hx), insT_length]
  have s1 : X.nd (ι [cN]) 1 = n := (hA.live _ _ h.tree.c).2.2
  have s2 : X.nd (ι [cN, lsN]) 1 = (encC next L).length := (hA.live _ _ h.tree.ls).2.2
  have hlen : (heldM X ι).length = 4 + dat n + dat (8 + 107 * L.length) := by
    unfold heldM
    rw [List.length_cons, List.length_cons, List.length_append, heldL_length, heldL_length, s1, s2, e1]
    omega
  have hf := h.few
  have hs := h.size
  have hb := h.fb
  have d1 : dat n ≤ 10 := dat_le (by omega)
  have d2 : dat (8 + 107 * L.length) ≤ 5 := by unfold dat; omega
  have d3 : dat (8 + 107 * (L.length + 1)) ≤ 5 := by unfold dat; omega
  refine ⟨⟨h.tree.ls, by rw [e1]; omega, ?_, ?_, ?_, ?_, ?_⟩, hlen, ?_⟩
  · intro k hk
    have : X.l = [] := hl
    simp [Sys.keys, Sys.open', this] at hk
  · exact List.mem_cons_of_mem _ (List.mem_cons_self ..)
  · exact heldL_held (X := X) (fun c hc => List.mem_cons_of_mem _ (List.mem_cons_of_mem _ (List.mem_append_right _ hc)))
  · rw [e1, e2]; show _ ≤ X.fb; omega
  · rw [e1, e2, hlen]; omega
  · exact heldL_held (X := X) (fun c hc => List.mem_cons_of_mem _ (List.mem_cons_of_mem _ (List.mem_append_left _ hc)))
theorem MayCr.fold (hA : Rep X A ι) (hl : X.l = []) {next n P : Nat} {L : List Tp} {D : List ByteArray} (h : MayCr X A next L n D P) (t : Tp) (ht : t.nm.size ≤ 50) (next' : Int) {X1 : Sys} {C1 : List Nat} (hs : Saved X.open' X1 (heldM X ι) C1 (encC next L) (encC next' (insT t L))) :
    MayFold X1 (setT A [cN, lsN] (some (.file (encC next' (insT t L))))) ι C1 next n P := by
  have hsv := h.save hA hl t ht next'
  have e1 := encC_length (next : Int) L h.cat.nm
  have e2 : (encC next' (insT t L)).length = 8 + 107 * (L.length + 1) := by
    rw [encC_length next' (insT t L) (fun x hx => by
      rcases (mem_insT t x L).1 hx with rfl | hx
      · exact ht
      · exact h.cat.nm x hx), insT_length]
  have hfi := hs.fi
  have hfb := hs.fb
  have hln := hs.len
  rw [e1, e2] at hfb hln
  rw [hsv.2.1] at hln
  have hf := h.few
  have hz := h.size
  have hp := h.Pl
  have hb := h.fb
  have hi := h.fi
  have d1 : dat n ≤ 10 := dat_le (by omega)
  have d2 : dat (8 + 107 * L.length) ≤ 5 := by unfold dat; omega
  have d3 : dat (8 + 107 * (L.length + 1)) ≤ 5 := by unfold dat; omega
  have d4 : dat (n + 64 * P) ≤ 10 := dat_le (by omega)
  have f1 : X.open'.fi = X.fi := rfl
  have f2 : X.open'.fb = X.fb := rfl
  have eP : X1.P = X.P := by rw [hs.goes.wr]; rfl
  refine ⟨?_, h.id, h.Pl, ?_, hz, by omega, by omega, hs.goes.cov, ?_, ?_, ?_, by omega⟩
  · unfold setT; rw [if_neg (by simp)]; exact h.tree.c
  · intro q hq
    unfold setT
    rw [if_neg (by intro e; simp at e; exact partN_ne_ls next h.id q (by omega) e)]
    cases hx : A [cN, partN next q] with
    | none => rfl
    | some x =>
      rcases h.tree.kids (partN next q) (by rw [hx]; simp) with e | e
      · exact absurd e (partN_ne_ls next h.id q (by omega))
      · obtain ⟨id, p, h1, h2, h3⟩ := h.old _ e
        have := partN_id h.id (by have := h.id; omega) h3
        omega
  · rw [eP]; exact hs.goes.sub _ (List.mem_cons_self ..)
  · rw [eP]; exact hs.goes.sub _ (List.mem_cons_of_mem _ (List.mem_cons_self ..))
  · exact hs.goes.held _ ((hA.live _ _ h.tree.c).1) hsv.2.2
end
section
open Go.ChangeMaps Go.MapKept Go.RowKit
structure CrMade (X Y : Sys) (A A' : Path → Option Nd) (old new : Blk) (id n n' P : Nat) : Prop where
  same : Same X Y
  op : Y.op = false
  l : Y.l = []
  m : Y.m = X.m + 1
  c : A' [cN] = some (.dir n')
  n1 : n ≤ n' ∧ n' ≤ n + 64 * P
  ls : A' [cN, lsN] = some (.file new)
  keep : ∀ p, A p ≠ none → p ≠ [cN] → p ≠ [cN, lsN] → A' p = A p
  only : ∀ p, A' p ≠ none → A p ≠ none ∨ ∃ j, j < P ∧ (p = [cN, partN id j] ∨ p = [cN, partN id j, segN] ∨ p = [cN, partN id j, prodN])
  born : ∀ j, j < P → NewD A' (partN id j)
  fi : Y.fi + 3 * P = X.fi
  fb : Y.fb + dat n' + P + dat new.length = X.fb + dat n + dat old.length
theorem crMade {X X1 X' Y : Sys} {A A' : Path → Option Nd} {ι ι' : Path → Nat} {C C1 C' : List Nat} {old new : Blk} {id n n' P : Nat} {D : List ByteArray} (ht : CatT A old n D) (hs : Saved X.open' X1 C C1 old new) (hf : Fold X1 X' (setT A [cN, lsN] (some (.file new))) ι A' ι' C1 C' id n n' P) (hx : X' = X.open'.wr X'.l) (hc : Comm X' Y) :
    CrMade X Y A A' old new id n n' P := by
  have hlsne : [cN, lsN] ≠ [cN] := by simp
  have hset : setT A [cN, lsN] (some (.file new)) [cN, lsN] = some (.file new) := if_pos rfl
  have hoth : ∀ p, p ≠ [cN, lsN] → setT A [cN, lsN] (some (.file new)) p = A p := fun p e => if_neg e
  have e1 : Y.fi = X'.fi := by unfold Sys.fi; rw [hc.v, hc.same.P]
  have e2 : Y.fb = X'.fb := by unfold Sys.fb; rw [hc.v, hc.same.P]
  have f1 : X.open'.fi = X.fi := rfl
  have f2 : X.open'.fb = X.fb := rfl
  refine ⟨Same.trans (by rw [hx]; exact ⟨rfl, rfl, rfl, rfl, rfl, rfl, rfl⟩) hc.same, hc.op, hc.l, hc.m.trans (by rw [hx]; rfl), hf.c, hf.n1, ?_, fun p h1 h2 h3 => ?_, fun p hp => ?_, hf.new, ?_, ?_⟩
  · rw [(hf.keep [cN, lsN] (by rw [hset]; simp) hlsne).1, hset]
  · rw [(hf.keep p (by rw [hoth p h3]; exact h1) h2).1, hoth p h3]
  · rcases hf.only p hp with h | h
    · by_cases e : p = [cN, lsN]
      · left; rw [e, ht.ls]; simp
      · rw [hoth p e] at h; exact .inl h
    · exact .inr h
  · have a1 := hf.fi; have a2 := hs.fi; omega
  · have a1 := hf.fb; have a2 := hs.fb; omega
theorem partNs_length (id P : Nat) : (partNs id P).length = P := by simp [partNs]
theorem CrMade.tree {X Y : Sys} {A A' : Path → Option Nd} {old new : Blk} {id n n' P : Nat} {D : List ByteArray} (h : CrMade X Y A A' old new id n n' P) (ht : CatT A old n D) : CatT A' new n' (D ++ partNs id P) := by
  refine ⟨h.c, h.ls, fun s hs => ?_, ?_⟩
  · rcases h.only _ hs with h1 | ⟨j, hj, h1 | h1 | h1⟩
    · rcases ht.kids s h1 with e | e
      · exact .inl e
      · exact .inr (List.mem_append_left _ e)
    · have e : s = partN id j := by simpa using h1
      exact .inr (List.mem_append_right _ (mem_partNs.2 ⟨j, hj, e⟩))
    · simp at h1
    · simp at h1
  · have a1 := h.n1; have a2 := ht.size
    rw [List.length_append, partNs_length]
    omega
theorem OldD.more {next P : Nat} {D : List ByteArray} (h : OldD next D) (hP : P ≤ 8) : OldD (next + 1) (D ++ partNs next P) := fun s hs => by
  rcases List.mem_append.1 hs with hs | hs
  · obtain ⟨id, p, h1, h2, h3⟩ := h s hs
    exact ⟨id, p, by omega, h2, h3⟩
  · obtain ⟨q, hq, rfl⟩ := mem_partNs.1 hs
    exact ⟨next, q, by omega, by omega, rfl⟩
theorem NewD.keep {X Y : Sys} {A A' : Path → Option Nd} {old new : Blk} {id n n' P : Nat} (h : CrMade X Y A A' old new id n n' P) {d : ByteArray} (e : d ≠ lsN) (hd : NewD A d) : NewD A' d := by
  obtain ⟨⟨m, h1⟩, h2, h3⟩ := hd
  refine ⟨⟨m, ?_⟩, ?_, ?_⟩
  · rw [h.keep _ (by rw [h1]; simp) (by simp) (by simp [e])]; exact h1
  · rw [h.keep _ (by rw [h2]; simp) (by simp) (by simp)]; exact h2
  · rw [h.keep _ (by rw [h3]; simp) (by simp) (by simp)]; exact h3
theorem results_tmp4 {fn : Func} {t u v x : Tmp} (h : fn.results = #[.tmp t, .tmp u, .tmp v, .tmp x]) (tmps : Array Value) (P : Program) (w : World) :
    (results fn tmps).run P w = .ok (.tuple #[tmps.getD t undef, tmps.getD u undef, tmps.getD v undef, tmps.getD x undef]) w := by
  simp [results, h]
structure Calm (F : FH) (X : Sys) : Prop where
  b : F.begun = false
  d : F.dead = false
  op : X.op = false
  l : X.l = []
  lim : X.D.lim = none
theorem fit12 : PlanFit 1200 600 := ⟨by decide, by decide, by decide⟩
theorem catR0 : CatR 1 [] := ⟨by constructor <;> omega, fun t ht => by cases ht⟩
theorem catL0 : CatL [] := ⟨List.Pairwise.nil, fun t ht => by cases ht⟩
theorem path_c : pathB [cN] = ⟨#[47, 99]⟩ := rfl
end
section
open Go.ChangeMaps Go.MapKept Go.RowKit
variable {w0 : Gnd} {w : World} {rs : List Res}
set_option maxRecDepth 100000 in
theorem c_fresh (h : St w0 w rs) :
    Calls Tryz.prog 10 #[] w fun e w' => ∃ hb F X A ι cb mb n, e = .returned (.tuple #[.pointer (some ⟨hb, 0, none⟩), .pointer (some ⟨F.fb, 0, none⟩), .pointer (some ⟨cb, 0, none⟩), .bool true]) ∧ Fs w0 w' F X A ι (catS cb F.fb 1 mb :: catM mb [] :: rs) ∧ Calm F X ∧ CatT A (encC 1 []) n [] ∧ RootT A ∧ X.m = 3 ∧ X.fi = 597 ∧ X.fb = 874 := by
  have HN := Lib.hid (S_New h 1200 (by omega) (by omega))
  clear h
  go_enter Tryz.func10, Tryz.ntmps10
  go_wp2_with fail
  refine HN.out.mono ?_
  clear HN
  rintro e w1 ⟨H, rfl, h1⟩
  have HM := Lib.hid (f_Mkfs (ni := 600) (show St w0 w1 (dev H (DSt.new 1200) :: rs) from h1) fit12 (by decide))
  clear h1
  go_wp2_with fail
  refine HM.out.mono ?_
  clear HM
  rintro e w2 ⟨rfl, jh, J, D, cb, wb, ab, sb, J2, D2, hlim, hops, hl, h2⟩
  have hk := mkd_mk3 H jh J D cb wb ab sb 1200 600
  obtain ⟨s, hs⟩ : ∃ s, (sysOf H jh J D cb wb ab sb (fun _ => zeros) 1200 0 (planOf 1200 600)).mk3.v = s := ⟨_, rfl⟩
  rw [hs] at hl hk
  have HK := Lib.hid hk
  have HO := Lib.hid (f_Mount h2 hl hlim (by omega) fit12 (by decide) (by decide) hk.sup)
  clear hk hl hlim hops h2 hs
  go_wp2_with fail
  refine HO.out.mono ?_
  clear HO
  rintro e w3 ⟨fb, lb, cb, wb, ab, sb, jh, J3, D3, rfl, hlim, h3⟩
  have hf3 := fs_fresh fit12 HK.out h3
  obtain ⟨-, r1, r2⟩ := mkd_rep (X := sysOf H jh J3 D3 cb wb ab sb s 1200 (1 + 1) (planOf 1200 600)) rfl HK.out fit12
  have hc := c_Make hf3 rfl rfl rfl rfl hlim (by show 2 < 1000000; decide) (by omega) (by rw [r1]; decide)
  have HX : Hid ((sysOf H jh J3 D3 cb wb ab sb s 1200 (1 + 1) (planOf 1200 600)).m = 2 ∧ (sysOf H jh J3 D3 cb wb ab sb s 1200 (1 + 1) (planOf 1200 600)).fb = 877 ∧ (sysOf H jh J3 D3 cb wb ab sb s 1200 (1 + 1) (planOf 1200 600)).fi + 1 = 600) := Lib.hid ⟨rfl, r1, r2⟩
  obtain ⟨X, hX⟩ : ∃ X, sysOf H jh J3 D3 cb wb ab sb s 1200 (1 + 1) (planOf 1200 600) = X := ⟨_, rfl⟩
  rw [hX] at hc HX
  rw [path_c] at hc
  have HC := Lib.hid hc
  clear h3 hf3 hlim r1 r2 hc hX HK
  go_wp2_with fail
  refine HC.out.mono ?_
  clear HC
  rintro e w4 ⟨rfl, A, ι, Y, n, h4, ht, hrt, q1, q2, q3, q4, q5, q6, q7, q8⟩
  have ho := c_Open h4 ht h4.2.root catL0 (by decide) catR0
  rw [path_c] at ho
  have HO := Lib.hid ho
  have HRT := Lib.hid hrt
  have HT := Lib.hid (And.intro ht (And.intro q1 (And.intro q2 (And.intro q3 (And.intro q4 (And.intro q7 q8))))))
  clear h4 ht hrt q1 q2 q3 q4 q5 q6 q7 q8 ho
  go_wp2_with fail
  refine HO.out.mono ?_
  clear HO
  rintro e w5 ⟨ob, mb, rfl, h5⟩
  have H5 := Lib.hid h5
  clear h5
  go_wp2
  (try simp only [Exit.inBlock, Exit.then])
  refine bodyPost_ret (results_tmp4 rfl _ _ _) rfl ?_
  refine ⟨H.b, ⟨fb, lb, false, false, false⟩, Y, A, ι, ob, mb, n, rfl, H5.out, ⟨rfl, rfl, HT.out.2.1, HT.out.2.2.1, HT.out.2.2.2.1⟩, HT.out.1, HRT.out, ?_, ?_, ?_⟩
  · have a := HT.out.2.2.2.2.1; have b := HX.out.1; omega
  · have a := HT.out.2.2.2.2.2.1; have b := HX.out.2.2; omega
  · have a := HT.out.2.2.2.2.2.2; have b := HX.out.2.1; omega
end
section
open Go.ChangeMaps Go.MapKept Go.RowKit
variable {α : Type} {mk : α → Value} {ok : α → Prop} {P : Program} {k t e : TypeId} {w : World} {b n : Nat} {f : α → Option Value}
theorem MapAt.delete [DecidableEq α] (K : KeyKind P k mk ok) (ht : P.underlying t = some (.map k e)) (h : MapAt mk ok w b n f) {a : α} (ha : ok a) (hs : (f a).isSome = true) :
    ∃ o, (∀ ty W, W.heap[b]? = w.heap[b]? → (Builtin.delete_ #[t, k] ty #[.map (some b), mk a]).run P W = .ok (.tuple #[]) (setBlock W b o)) ∧
      (∀ W, b < W.heap.size → MapAt mk ok (setBlock W b o) b (n - 1) (upd f a none)) := by
  obtain ⟨es, clock, h1, h2, h3, h4, h5, h6⟩ := h.find K ha
  obtain ⟨l, hl⟩ := K.lit a ha
  rcases h6 with ⟨e1, e2, e3⟩ | ⟨j, x, e1, e2, e3, e4⟩
  · rw [e1] at hs; cases hs
  · have hj := (List.getElem?_eq_some_iff.1 e3).1
    have hjs : j < es.size := by simpa using hj
    have hnd : es.toList.Pairwise (fun x y => x.key ≠ y.key) := ((stamped_iff es clock).1 h2).2.2
    have hto : (es.eraseIdxIfInBounds j).toList = es.toList.eraseIdx j := by
      unfold Array.eraseIdxIfInBounds
      rw [dif_pos hjs]
      simp
    have hmem : ∀ y, y ∈ (es.eraseIdxIfInBounds j).toList ↔ y ∈ es.toList ∧ y.key ≠ mk a := by
      intro y
      rw [hto, List.mem_eraseIdx_iff_getElem?]
      constructor
      · rintro ⟨i, hij, hi⟩
        refine ⟨List.mem_of_getElem? hi, fun hk => ?_⟩
        obtain ⟨g1, g2⟩ := List.getElem?_eq_some_iff.1 hi
        obtain ⟨g3, g4⟩ := List.getElem?_eq_some_iff.1 e3
        have hp := List.pairwise_iff_getElem.1 hnd
        rcases Nat.lt_or_gt_of_ne hij with hlt | hlt
        · exact hp i j g1 g3 hlt (by rw [g2, g4, hk, e4])
        · exact hp j i g3 g1 hlt (by rw [g2, g4, hk, e4])
      · rintro ⟨hy, hk⟩
        obtain ⟨i, hi⟩ := List.getElem?_of_mem hy
        refine ⟨i, fun hij => ?_, hi⟩
        subst hij
        rw [e3] at hi
        cases hi
        exact hk e4
    refine ⟨.map (es.eraseIdxIfInBounds j) clock, fun ty W hW => ?_, fun W hb => ?_⟩
    · rw [h1] at hW
      simp [Builtin.delete_, run_underlying ht, MapKept.run_getObj_map hW, K.keyed.check W _ hl, e2, MapKept.run_setObj_map _ hW, Result.andThen, ChangeMaps.setBlock]
    · refine ⟨_, _, block_setBlock_same _ hb, stamped_erase h2 j, ?_, ?_, ?_⟩
      · intro y hy
        exact h3 y ((hmem y).1 hy).1
      · rw [← Array.length_toList, hto, List.length_eraseIdx_of_lt hj, Array.length_toList, h4]
      · intro a' v' ha'
        unfold upd
        by_cases hc : a' = a
        · subst hc
          rw [if_pos rfl]
          constructor
          · intro hv; cases hv
          · rintro ⟨y, hy, hy2, hy3⟩
            exact absurd hy2 ((hmem y).1 hy).2
        · rw [if_neg hc, h5 a' v' ha']
          constructor
          · rintro ⟨y, hy, hy2, hy3⟩
            exact ⟨y, (hmem y).2 ⟨hy, fun e' => hc (K.inj _ _ (hy2.symm.trans e'))⟩, hy2, hy3⟩
          · rintro ⟨y, hy, hy2, hy3⟩
            exact ⟨y, ((hmem y).1 hy).1, hy2, hy3⟩
end
section
open Go.ChangeMaps Go.MapKept Go.RowKit
def delT (nm : ByteArray) (L : List Tp) : List Tp := L.filter fun t => !decide (t.nm = nm)
theorem mem_delT {nm : ByteArray} {L : List Tp} {t : Tp} : t ∈ delT nm L ↔ t ∈ L ∧ t.nm ≠ nm := by
  simp [delT, List.mem_filter]
theorem CatL.del {L : List Tp} (h : CatL L) (nm : ByteArray) : CatL (delT nm L) :=
  ⟨h.asc.filter _, fun x hx => h.nm x (mem_delT.1 hx).1⟩
theorem CatL.map_del {L : List Tp} (h : CatL L) {nm : ByteArray} (hn : nm.size ≤ 50) (a : Blk) : mapL (delT nm L) a = if a = keyB nm then none else mapL L a := by
  apply Option.ext
  intro x
  rw [(h.del nm).map_iff, mem_delT]
  by_cases e : a = keyB nm
  · rw [if_pos e]
    constructor
    · rintro ⟨⟨h1, h2⟩, h3⟩
      exact absurd (keyB_inj _ _ hn (h.nm x h1) (e.symm.trans h3)).symm h2
    · intro h3; cases h3
  · rw [if_neg e, h.map_iff]
    constructor
    · rintro ⟨⟨h1, h2⟩, h3⟩; exact ⟨h1, h3⟩
    · rintro ⟨h1, h2⟩; exact ⟨⟨h1, fun e' => e (by rw [h2, e'])⟩, h2⟩
theorem asc_ne {L : List Tp} (h : L.Pairwise fun x y => lessN x.nm y.nm = true) : L.Pairwise fun x y => x.nm ≠ y.nm :=
  h.imp fun {x y} hxy e => by rw [e, lessN_irr] at hxy; cases hxy
theorem CatL.del_length {L : List Tp} (h : CatL L) {t : Tp} (ht : t ∈ L) : (delT t.nm L).length + 1 = L.length := by
  have hnd := asc_ne h.asc
  clear h
  induction L with
  | nil => cases ht
  | cons x r ih =>
    rw [List.pairwise_cons] at hnd
    unfold delT
    by_cases e : x.nm = t.nm
    · have : r.filter (fun y => !decide (y.nm = t.nm)) = r := by
        rw [List.filter_eq_self]
        intro y hy
        have := hnd.1 y hy
        rw [e] at this
        simp [Ne.symm this]
      rw [List.filter_cons, if_neg (by simp [e]), this, List.length_cons]
    · have hr : t ∈ r := by
        rcases List.mem_cons.1 ht with rfl | hr
        · exact absurd rfl e
        · exact hr
      have := ih hr hnd.2
      unfold delT at this
      rw [List.filter_cons, if_pos (by simp [e]), List.length_cons, List.length_cons]
      omega
end
section
open Go.ChangeMaps Go.MapKept Go.RowKit
variable {w0 : Gnd} {w : World} {rs : List Res} {X : Sys} {F : FH} {A : Path → Option Nd} {ι : Path → Nat}
theorem tpV_none {L : List Tp} (hL : CatL L) {nm : ByteArray} (hn : nm.size ≤ 50) (hno : ∀ x ∈ L, x.nm ≠ nm) : tpV (mapL L) (keyB nm) = none := by
  have : mapL L (keyB nm) = none := by
    cases hq : mapL L (keyB nm) with
    | none => rfl
    | some t =>
      have h1 := (hL.map_iff _ _).1 hq
      exact absurd (keyB_inj _ _ hn (hL.nm t h1.1) h1.2).symm (hno t h1.1)
  unfold tpV
  rw [this]
  rfl
theorem tpV_some {L : List Tp} (hL : CatL L) {t : Tp} (ht : t ∈ L) : tpV (mapL L) (keyB t.nm) = some (.agg t.cells) := by
  have : mapL L (keyB t.nm) = some t := (hL.map_iff _ _).2 ⟨ht, rfl⟩
  unfold tpV
  rw [this]
  rfl
theorem Fs.catAt (h : Fs w0 w F X A ι rs) {i mb : Nat} {L : List Tp} (hr : rs[i]? = some (catM mb L)) : MapAt KeyK okK w mb L.length (tpV (mapL L)) := by
  obtain ⟨⟨k, l, ha, -⟩, -⟩ := h
  exact ha.mapAt (i := i + 2) hr
theorem Fs.catPut (h : Fs w0 w F X A ι rs) (i : Nat) {mb : Nat} {L : List Tp} (hr : rs[i]? = some (catM mb L)) (hL : CatL L) (t : Tp) (ht : t.nm.size ≤ 50) (hno : ∀ x ∈ L, x.nm ≠ t.nm) :
    ∃ o, (Instr.mapUpdate 91 (.map (some mb)) (.agg ((keyB t.nm).map B8).toArray) (.agg t.cells)).run Tryz.prog w = .ok () (setBlock w mb o) ∧ Fs w0 (setBlock w mb o) F X A ι (rs.set i (catM mb (insT t L))) := by
  obtain ⟨⟨k, l, ha, hl⟩, hrep⟩ := h
  obtain ⟨o, q1, q2⟩ := ha.mapPut (i + 2) hr kindCKey Tryz.underlying91 (a := keyB t.nm) (keyB_length _ ht) (.agg t.cells)
  have e : mapR KeyK okK mb (if (tpV (mapL L) (keyB t.nm)).isSome then L.length else L.length + 1) (upd (tpV (mapL L)) (keyB t.nm) (some (.agg t.cells))) = catM mb (insT t L) := by
    unfold catM
    rw [insT_length, tpV_none hL ht hno]
    have e2 : upd (tpV (mapL L)) (keyB t.nm) (some (.agg t.cells)) = tpV (mapL (insT t L)) := by
      funext a
      unfold upd tpV
      rw [hL.map_ins t ht hno]
      by_cases e : a = keyB t.nm
      · rw [if_pos e, if_pos e]; rfl
      · rw [if_neg e, if_neg e]
    rw [e2]; rfl
  rw [e] at q2
  exact ⟨o, q1 w rfl, ⟨k, l, q2, hl⟩, hrep⟩
theorem Fs.catDel (h : Fs w0 w F X A ι rs) (i : Nat) {mb : Nat} {L : List Tp} (hr : rs[i]? = some (catM mb L)) (hL : CatL L) {t : Tp} (ht : t ∈ L) :
    ∃ o, (∀ ty, (Builtin.delete_ #[91, 95] ty #[.map (some mb), .agg ((keyB t.nm).map B8).toArray]).run Tryz.prog w = .ok (.tuple #[]) (setBlock w mb o)) ∧ Fs w0 (setBlock w mb o) F X A ι (rs.set i (catM mb (delT t.nm L))) := by
  have hm := h.catAt hr
  obtain ⟨⟨k, l, ha, hl⟩, hrep⟩ := h
  obtain ⟨o, q1, q2⟩ := hm.delete kindCKey Tryz.underlying91 (a := keyB t.nm) (keyB_length _ (hL.nm t ht)) (by rw [tpV_some hL ht]; rfl)
  have e2 : upd (tpV (mapL L)) (keyB t.nm) none = tpV (mapL (delT t.nm L)) := by
    funext a
    unfold upd tpV
    rw [hL.map_del (hL.nm t ht)]
    by_cases e : a = keyB t.nm
    · rw [if_pos e, if_pos e]; rfl
    · rw [if_neg e, if_neg e]
  have hl1 : L.length - 1 = (delT t.nm L).length := by have := hL.del_length ht; omega
  rw [e2, hl1] at q2
  exact ⟨o, fun ty => q1 ty w rfl, ⟨k, l, ⟨ha.1.write (i + 3) hr ((Frm.refl (Only mb) w).setBlock (.inl (Only.self mb)) o) (catM mb (delT t.nm L)) (q2 w hm.lt) fun _ hx => .inl hx, ha.2⟩, hl⟩, hrep⟩
end
section
open Go.ChangeMaps Go.MapKept Go.RowKit
structure Roomy (X : Sys) (A : Path → Option Nd) (next used ops n : Nat) (L : List Tp) (D : List ByteArray) : Prop where
  tree : CatT A (encC next L) n D
  cat : CatL L
  num : CatR next L
  old : OldD next D
  new : ∀ d ∈ D, NewD A d
  dlen : D.length = used
  m : X.m ≤ 3 + ops
  fi : X.fi + 3 * used = 597
  fb : 875 ≤ X.fb + dat n + dat (8 + 107 * L.length) + used
  few : L.length ≤ 20
  top : ∀ t ∈ L, ∃ id P : Nat, t.id = id ∧ t.parts = P ∧ id < next ∧ ∀ p, p < P → partN id p ∈ D
theorem Roomy.may {X : Sys} {A : Path → Option Nd} {next used ops n : Nat} {L : List Tp} {D : List ByteArray} (h : Roomy X A next used ops n L D) {P : Nat} (hL : L.length < 20) (hn : next < 100) (hP : 1 ≤ P ∧ P ≤ 8) (hu : used + P ≤ 70) : MayCr X A next L n D P := by
  have a1 := h.tree.size
  rw [h.dlen] at a1
  have a2 := h.fi
  have a3 := h.fb
  have d1 : dat n ≤ 10 := dat_le (by omega)
  have d2 : dat (8 + 107 * L.length) ≤ 5 := by unfold dat; omega
  have d3 : dat (8 + 107 * (L.length + 1)) ≤ 5 := by unfold dat; omega
  have d4 : dat (n + 64 * P) ≤ 10 := dat_le (by omega)
  exact ⟨h.tree, h.cat, hL, hn, hP, h.old, by omega, by omega, by omega⟩
theorem i64_small {k : Nat} (h : k < 1000000) : I64 (k : Int) := by constructor <;> omega
theorem Roomy.made {X Y : Sys} {A A' : Path → Option Nd} {next used ops n n' P : Nat} {L : List Tp} {D : List ByteArray} (h : Roomy X A next used ops n L D) (hL : L.length < 20) (hn : next < 100) (hP : 1 ≤ P ∧ P ≤ 8) {t : Tp} (h1 : t.id = next) (h2 : t.parts = P) (hnm : t.nm.size ≤ 50) (hno : ∀ x ∈ L, x.nm ≠ t.nm) (hnum : ∀ x ∈ t.nums, I64 x)
    (hm : CrMade X Y A A' (encC next L) (encC ((next : Int) + 1) (insT t L)) next n n' P) : Roomy Y A' (next + 1) (used + P) (ops + 1) n' (insT t L) (D ++ partNs next P) := by
  have hc := h.cat.ins t hnm hno
  have e1 : (encC ((next : Int) + 1) (insT t L)).length = 8 + 107 * (insT t L).length := encC_length _ _ hc.nm
  have e2 := encC_length (next : Int) L h.cat.nm
  have hsN : ((next : Int) + 1) = ((next + 1 : Nat) : Int) := by omega
  refine ⟨?_, hc, ⟨i64_small (by omega), fun x hx => ?_⟩, h.old.more hP.2, fun d hd => ?_, ?_, ?_, ?_, ?_, ?_, fun x hx => ?_⟩
  · have := hm.tree h.tree
    rw [hsN] at this
    exact this
  · rcases (mem_insT t x L).1 hx with rfl | hx
    · exact hnum
    · exact h.num.nums x hx
  · rcases List.mem_append.1 hd with hd | hd
    · refine (h.new d hd).keep hm ?_
      obtain ⟨id, p, q1, q2, rfl⟩ := h.old d hd
      exact partN_ne_ls id (by omega) p (by omega)
    · obtain ⟨q, hq, rfl⟩ := mem_partNs.1 hd
      exact hm.born q hq
  · rw [List.length_append, partNs_length, h.dlen]
  · have a1 := hm.m; have a2 := h.m; omega
  · have a1 := hm.fi; have a2 := h.fi; omega
  · have a1 := hm.fb; have a2 := h.fb
    rw [e1, e2] at a1
    omega
  · rw [insT_length]; omega
  · rcases (mem_insT t x L).1 hx with rfl | hx
    · exact ⟨next, P, h1, h2, by omega, fun p hp => List.mem_append_right _ (mem_partNs.2 ⟨p, hp, rfl⟩)⟩
    · obtain ⟨id, Q, q1, q2, q3, q4⟩ := h.top x hx
      exact ⟨id, Q, q1, q2, by omega, fun p hp => List.mem_append_left _ (q4 p hp)⟩
structure Gone (X Y : Sys) (A A' : Path → Option Nd) (old new : Blk) : Prop where
  same : Same X Y
  op : Y.op = false
  l : Y.l = []
  m : Y.m = X.m + 1
  tree : A' = setT A [cN, lsN] (some (.file new))
  fi : Y.fi = X.fi
  fb : Y.fb + dat new.length = X.fb + dat old.length
theorem gone {X X' Y : Sys} {A A' : Path → Option Nd} {C C1 : List Nat} {old new : Blk} (hs : Saved X.open' X' C C1 old new) (hA : A' = setT A [cN, lsN] (some (.file new))) (hx : X' = X.open'.wr X'.l) (hc : Comm X' Y) : Gone X Y A A' old new := by
  have e1 : Y.fi = X'.fi := by unfold Sys.fi; rw [hc.v, hc.same.P]
  have e2 : Y.fb = X'.fb := by unfold Sys.fb; rw [hc.v, hc.same.P]
  have f1 : X.open'.fi = X.fi := rfl
  have f2 : X.open'.fb = X.fb := rfl
  refine ⟨Same.trans (by rw [hx]; exact ⟨rfl, rfl, rfl, rfl, rfl, rfl, rfl⟩) hc.same, hc.op, hc.l, hc.m.trans (by rw [hx]; rfl), hA, ?_, ?_⟩
  · have a2 := hs.fi; omega
  · have a2 := hs.fb; omega
theorem Roomy.gone {X Y : Sys} {A A' : Path → Option Nd} {next used ops n : Nat} {L : List Tp} {D : List ByteArray} (h : Roomy X A next used ops n L D) {t : Tp} (ht : t ∈ L) (hg : Gone X Y A A' (encC next L) (encC next (delT t.nm L))) : Roomy Y A' next used (ops + 1) n (delT t.nm L) D := by
  have hc := h.cat.del t.nm
  have e1 := encC_length (next : Int) (delT t.nm L) hc.nm
  have e2 := encC_length (next : Int) L h.cat.nm
  have hk : ∀ p, p ≠ [cN, lsN] → A' p = A p := fun p hp => by rw [hg.tree]; exact if_neg hp
  refine ⟨⟨?_, ?_, fun s hs => ?_, h.tree.size⟩, hc, ⟨h.num.next, fun x hx => h.num.nums x (mem_delT.1 hx).1⟩, h.old, fun d hd => ?_, h.dlen, ?_, ?_, ?_, ?_, fun x hx => h.top x (mem_delT.1 hx).1⟩
  · rw [hk _ (by simp)]; exact h.tree.c
  · rw [hg.tree]; exact if_pos rfl
  · by_cases e : s = lsN
    · exact .inl e
    · exact h.tree.kids s (by rw [← hk _ (by simp [e])]; exact hs)
  · obtain ⟨id, p, q1, q2, rfl⟩ := h.old d hd
    obtain ⟨⟨m, a1⟩, a2, a3⟩ := h.new _ hd
    have hne : partN id p ≠ lsN := fun e => by
      have h1 := congrArg (fun b : ByteArray => b.data.toList[0]?) e
      simp [partN, lsN] at h1
    exact ⟨⟨m, by rw [hk _ (by simp [hne])]; exact a1⟩, by rw [hk _ (by simp)]; exact a2, by rw [hk _ (by simp)]; exact a3⟩
  · have a1 := hg.m; have a2 := h.m; omega
  · have a1 := hg.fi; have a2 := h.fi; omega
  · have a1 := hg.fb; have a2 := h.fb
    rw [e1, e2] at a1
    omega
  · have := h.cat.del_length ht; have := h.few; omega
theorem Roomy.saveDel {X : Sys} {A : Path → Option Nd} {ι : Path → Nat} {next used ops n : Nat} {L : List Tp} {D : List ByteArray} (h : Roomy X A next used ops n L D) (hA : Rep X A ι) (hl : X.l = []) (nm : ByteArray) :
    MaySave X.open' A ι (X.P.bm :: heldL X (ι [cN, lsN])) (encC next L) (encC next (delT nm L)) := by
  have e1 := encC_length (next : Int) (delT nm L) (h.cat.del nm).nm
  have e2 := encC_length (next : Int) L h.cat.nm
  have s2 : X.nd (ι [cN, lsN]) 1 = (encC next L).length := (hA.live _ _ h.tree.ls).2.2
  have hle : (delT nm L).length ≤ L.length := List.length_filter_le _ _
  have hd : dat (encC next (delT nm L)).length ≤ dat (encC next L).length := dat_mono (by rw [e1, e2]; omega)
  have hf := h.few
  have d2 : dat (encC next L).length ≤ 5 := by rw [e2]; unfold dat; omega
  refine ⟨h.tree.ls, by rw [e2]; omega, ?_, List.mem_cons_self .., heldL_held (X := X) fun c hc => List.mem_cons_of_mem _ hc, by omega, ?_⟩
  · intro k hk
    have : X.l = [] := hl
    simp [Sys.keys, Sys.open', this] at hk
  · rw [List.length_cons, heldL_length, s2]
    omega
def CatI (w0 : Gnd) (w : World) (fb cb next used ops : Nat) (L : List Tp) (rs : List Res) : Prop :=
  ∃ F X A ι mb n D, F.fb = fb ∧ Fs w0 w F X A ι (catS cb fb next mb :: catM mb L :: rs) ∧ Calm F X ∧ Roomy X A next used ops n L D
theorem ci_fresh {w0 : Gnd} {w : World} {rs : List Res} (h : St w0 w rs) :
    Calls Tryz.prog 10 #[] w fun e w' => ∃ hb fb cb, e = .returned (.tuple #[.pointer (some ⟨hb, 0, none⟩), .pointer (some ⟨fb, 0, none⟩), .pointer (some ⟨cb, 0, none⟩), .bool true]) ∧ CatI w0 w' fb cb 1 0 0 [] rs := by
  refine (c_fresh h).mono ?_
  rintro e w' ⟨hb, F, X, A, ι, cb, mb, n, he, hf, hc, ht, -, hm, hfi, hfb⟩
  refine ⟨hb, F.fb, cb, he, F, X, A, ι, mb, n, [], rfl, hf, hc, ?_⟩
  have d8 : dat (8 + 107 * ([] : List Tp).length) = 1 := rfl
  exact ⟨ht, catL0, catR0, (fun s hs => by cases hs), (fun d hd => by cases hd), rfl, by omega, by omega, by rw [d8]; omega, by simp, fun t ht => by cases ht⟩
theorem CatI.frm {w0 : Gnd} {w w' : World} {fb cb next used ops : Nat} {L : List Tp} {rs : List Res} (h : CatI w0 w fb cb next used ops L rs) (hf : Frm NoB w w') : CatI w0 w' fb cb next used ops L rs := by
  obtain ⟨F, X, A, ι, mb, n, D, h1, h2, h3, h4⟩ := h
  exact ⟨F, X, A, ι, mb, n, D, h1, h2.frm hf, h3, h4⟩
def Named (nm : ByteArray) (b : Bool) : Prop := ∀ W, Calls Tryz.prog 40 #[.string nm] W fun e w' => e = .returned (.bool b) ∧ Frm NoB W w'
theorem named {nm : ByteArray} (h : NameOk nm) : Named nm true := fun W => d_Name W nm h
def findT (o : Option Tp) : Value := match o with
  | some t => .tuple #[.agg t.cells, .bool true]
  | none => .tuple #[.agg (tpz ByteArray.empty 0 0 0 0 0 false 0), .bool false]
end
section
open Go.ChangeMaps Go.MapKept Go.RowKit
variable {w0 : Gnd} {w : World} {rs : List Res} {X : Sys} {F : FH} {A : Path → Option Nd} {ι : Path → Nat}
set_option maxHeartbeats 1000000 in
set_option maxRecDepth 100000 in
theorem c_Find0 (h : Fs w0 w F X A ι rs) {cb mb i : Nat} {next : Int} (hr : rs[i]? = some (catS cb F.fb next mb)) {nm : ByteArray} (hn : nm.size ≤ 50) (hN : Named nm true) (q0 : ByteArray) (q1 q2 q3 q4 q5 : Int) (q6 : Bool) (q7 : Int) (ok : Bool)
    (hlk : ∀ z rs', Fs w0 z F X A ι (rs' ++ rs) → (Instr.lookup 91 (.map (some mb)) (.agg ((keyB nm).map B8).toArray) true).run Tryz.prog z = .ok (.tuple #[.agg #[.string q0, .int .i64 q1, .int .i64 q2, .int .i64 q3, .int .i64 q4, .int .i64 q5, .bool q6, .int .i64 q7], .bool ok]) z) :
    Calls Tryz.prog 23 #[.pointer (some ⟨cb, 0, none⟩), .string nm] w fun e w' => e = .returned (.tuple #[.agg (tpz q0 q1 q2 q3 q4 q5 q6 q7), .bool ok]) ∧ Fs w0 w' F X A ι rs := by
  have hh := h.newArr (tpz ByteArray.empty 0 0 0 0 0 false 0) 31 neTp
  obtain ⟨y, hy⟩ : ∃ y, w.alloc (.cells (tpz ByteArray.empty 0 0 0 0 0 false 0) 31 (0, 0)) = y := ⟨_, rfl⟩
  obtain ⟨b1, hb1⟩ : ∃ b1, w.heap.size = b1 := ⟨_, rfl⟩
  rw [hy, hb1] at hh
  have HY := Lib.hid (And.intro hy hb1)
  have HN := Lib.hid (hN y)
  have HH := Lib.hid hh
  have KL : Hid (∀ W, Fs w0 W F X A ι (arr b1 (tpz ByteArray.empty 0 0 0 0 0 false 0) 31 neTp :: rs) → W.cell? ⟨cb, 3, none⟩ = some (.map (some mb)) ∧ (Instr.lookup 91 (.map (some mb)) (.agg ((keyB nm).map B8).toArray) true).run Tryz.prog W = .ok (.tuple #[.agg #[.string q0, .int .i64 q1, .int .i64 q2, .int .i64 q3, .int .i64 q4, .int .i64 q5, .bool q6, .int .i64 q7], .bool ok]) W) := Lib.hid fun W hW =>
    ⟨(hW.arrCell (i := i + 1) hr 3).trans rfl, hlk W [_] hW⟩
  have KO : Hid (∀ W, Calls Tryz.prog 42 #[.string nm] W fun e w' => e = .returned (.agg ((keyB nm).map B8).toArray) ∧ Frm NoB W w') := Lib.hid fun W => c_of W nm hn
  clear h hr hn hN hlk hh hy hb1
  go_enter Tryz.func23, Tryz.ntmps23
  go_upto_region 1 with (refine allocRow rfl _ _ zeroTp rfl ?_)
  rw [HY.out.1, HY.out.2]
  clear HY
  go_wp2_with fail
  refine HN.out.mono ?_
  clear HN
  rintro e w3 ⟨rfl, hf⟩
  have HH3 := Lib.hid (HH.out.frm hf)
  have HHd := Lib.hid (HH3.out.frm (Frm.refl NoB w3).drew)
  clear hf HH
  obtain ⟨k1, k2⟩ := KL.out _ HH3.out
  go_upto_region 3 with fail
  go_cut [6, 7] from 16 (fun t6 t7 wx => ∃ g, t6 = .pointer (some ⟨g, 0, none⟩) ∧ t7 = .bool ok ∧ Fs w0 wx F X A ι (arr g (tpz q0 q1 q2 q3 q4 q5 q6 q7) 31 neTp :: arr b1 (tpz ByteArray.empty 0 0 0 0 0 false 0) 31 neTp :: rs))
  case first =>
    refine wp_region_held_drew (S := (fun y => y.cell? ⟨cb, 3, none⟩ = some (.map (some mb)) ∧ (Instr.lookup 91 (.map (some mb)) (.agg ((keyB nm).map B8).toArray) true).run Tryz.prog y = .ok (.tuple #[.agg #[.string q0, .int .i64 q1, .int .i64 q2, .int .i64 q3, .int .i64 q4, .int .i64 q5, .bool q6, .int .i64 q7], .bool ok]) y)) (by kernel_rfl) (KL.out _ HHd.out) (fun hHeld => ?_)
    refine wpAnyH_take (i := 0) (v := ?v0_1) rfl (by kernel_rfl) (by kernel_rfl) (by kernel_rfl) (fun _ _ _ h => h) (Or.inl ⟨by rfl, ?hy0_1⟩) (by assumption) ?rest0_1
    case hy0_1 => (intro w hSw; (try dsimp only at hSw); go_simp; (try with_reducible rfl))
    try simp only [Act.put, List.setIfInBounds_toArray, List.set_cons_zero, List.set_cons_succ]
    refine wpAnyH_take (i := 1) (v := ?v1_2) rfl (by kernel_rfl) (by kernel_rfl) (by kernel_rfl) (fun _ _ _ h => h) (Or.inl ⟨by rfl, ?hy1_2⟩) (by assumption) ?rest1_2
    case hy1_2 => (intro w hSw; (try dsimp only at hSw); go_simp; (try with_reducible rfl))
    try simp only [Act.put, List.setIfInBounds_toArray, List.set_cons_zero, List.set_cons_succ]
    refine wpAnyH_take (i := 2) (v := ?v2_3) rfl (by kernel_rfl) (by kernel_rfl) (by kernel_rfl) (fun _ _ _ h => h) (Or.inl ⟨by rfl, ?hy2_3⟩) (by assumption) ?rest2_3
    case hy2_3 => (intro w hSw; (try dsimp only at hSw); go_simp; (try with_reducible rfl))
    try simp only [Act.put, List.setIfInBounds_toArray, List.set_cons_zero, List.set_cons_succ]
    refine wpAnyH_take (i := 3) (v := ?v3_4) rfl (by kernel_rfl) (by kernel_rfl) (by kernel_rfl) (fun _ _ _ h => h) (Or.inl ⟨by rfl, ?hy3_4⟩) (by assumption) ?rest3_4
    case hy3_4 => (intro w hSw; (try dsimp only at hSw); go_simp; (try with_reducible rfl))
    try simp only [Act.put, List.setIfInBounds_toArray, List.set_cons_zero, List.set_cons_succ]
    refine wpAnyH_take (i := 4) (v := ?v4_5) rfl (by kernel_rfl) (by kernel_rfl) (by kernel_rfl) (fun _ _ _ h => h) (Or.inl ⟨by rfl, ?hy4_5⟩) (by assumption) ?rest4_5
    case hy4_5 => (intro w hSw; (try dsimp only at hSw); go_simp; (try with_reducible rfl))
    try simp only [Act.put, List.setIfInBounds_toArray, List.set_cons_zero, List.set_cons_succ]
    refine wpAnyH_ready (rs := [5, 10]) (by kernel_rfl) (by simp) ?_
    refine AllReadyH.cons rfl (fun K hK => ?_) ?_
    · go_simp
      refine (KO.out _).mono ?_
      rintro e w4 ⟨rfl, hf4⟩
      go_wp2_with fail
      have HH4 := Lib.hid (HHd.out.frm hf4)
      clear hf4
      refine hK.out _ _ (KL.out _ HH4.out) (fun hHeld => ?_)
      clear hK K
      try simp only [Act.put, List.setIfInBounds_toArray, List.set_cons_zero, List.set_cons_succ]
      refine wpAnyH_take (i := 6) (v := ?v6_6) rfl (by kernel_rfl) (by kernel_rfl) (by kernel_rfl) (fun _ _ _ h => h) (Or.inl ⟨by rfl, ?hy6_6⟩) (by assumption) ?rest6_6
      case hy6_6 => (intro w hSw; (try dsimp only at hSw); go_simp; (try with_reducible rfl))
      try simp only [Act.put, List.setIfInBounds_toArray, List.set_cons_zero, List.set_cons_succ]
      refine wpAnyH_take (i := 7) (v := ?v7_7) rfl (by kernel_rfl) (by kernel_rfl) (by kernel_rfl) (fun _ _ _ h => h) (Or.inl ⟨by rfl, ?hy7_7⟩) (by assumption) ?rest7_7
      case hy7_7 => (intro w hSw; (try dsimp only at hSw); go_simp; (try with_reducible rfl))
      try simp only [Act.put, List.setIfInBounds_toArray, List.set_cons_zero, List.set_cons_succ]
      refine wpAnyH_take (i := 8) (v := ?v8_8) rfl (by kernel_rfl) (by kernel_rfl) (by kernel_rfl) (fun _ _ _ h => h) (Or.inl ⟨by rfl, ?hy8_8⟩) (by assumption) ?rest8_8
      case hy8_8 => (intro w hSw; (try dsimp only at hSw); go_simp; (try with_reducible rfl))
      try simp only [Act.put, List.setIfInBounds_toArray, List.set_cons_zero, List.set_cons_succ]
      refine wpAnyH_take (i := 9) (v := ?v9_9) rfl (by kernel_rfl) (by kernel_rfl) (by kernel_rfl) (fun _ _ _ h => h) (Or.inl ⟨by rfl, ?hy9_9⟩) (by assumption) ?rest9_9
      case hy9_9 => (intro w hSw; (try dsimp only at hSw); go_simp; (try with_reducible rfl))
      change wpAnyH _ _ _ _ _ _ _ (Act.put _ (some 25) _) _
      try simp only [Act.put, List.setIfInBounds_toArray, List.set_cons_zero, List.set_cons_succ]
      refine wpAnyH_ready (rs := [10]) (by kernel_rfl) (by simp) ?_
      refine AllReadyH.cons rfl (fun K hK => ?_) AllReadyH.nil
      go_simp
      have HA := Lib.hid (HH4.out.newArr (tpz ByteArray.empty 0 0 0 0 0 false 0) 31 neTp)
      refine hK.out _ _ (KL.out _ (HA.out.drop 1)) (fun hHeld => ?_)
      clear hK K
      try simp only [Act.put, List.setIfInBounds_toArray, List.set_cons_zero, List.set_cons_succ]
      refine wpAnyH_ready (rs := [11]) (by kernel_rfl) (by simp) ?_
      refine AllReadyH.cons rfl (fun K hK => ?_) AllReadyH.nil
      rw [if_pos (by rfl)]
      refine wp_store_row 31 _ _ rfl w4.heap.size (tpz q0 q1 q2 q3 q4 q5 q6 q7) rfl rfl _ _ (HA.out.block (i := 0) rfl) (infoTp _ _ _ _ _ _ _ _) rfl (oneTp _ _ _ _ _ _ _ _) ?_
      have HB := Lib.hid (HA.out.setRow 0 (c' := (tpz q0 q1 q2 q3 q4 q5 q6 q7)) rfl)
      refine hK.out _ _ (KL.out _ (HB.out.drop 1)) (fun hHeld => ?_)
      clear hK K
      try simp only [Act.put, List.setIfInBounds_toArray, List.set_cons_zero, List.set_cons_succ]
      refine wpAnyH_take (i := 12) (v := ?v12_10) rfl (by kernel_rfl) (by kernel_rfl) (by kernel_rfl) (fun _ _ _ h => h) (Or.inl ⟨by rfl, ?hy12_10⟩) (by assumption) ?rest12_10
      case hy12_10 => (intro w hSw; (try dsimp only at hSw); go_simp; (try with_reducible rfl))
      change wpAnyH _ _ _ _ _ _ _ (Act.put _ (some 7) _) _
      try simp only [Act.put, List.setIfInBounds_toArray, List.set_cons_zero, List.set_cons_succ]
      refine wpAnyH_done (by kernel_rfl) ?_ _
      go_wp2_with fail
      go_meet
      exact ⟨_, rfl, rfl, HB.out⟩
    · refine AllReadyH.cons rfl (fun K hK => ?_) AllReadyH.nil
      go_simp
      have HA := Lib.hid ((HH3.out.newArr (tpz ByteArray.empty 0 0 0 0 0 false 0) 31 neTp).frm (Frm.refl NoB _).drew)
      refine hK.out _ _ (KL.out _ (HA.out.drop 1)) (fun hHeld => ?_)
      clear hK K
      try simp only [Act.put, List.setIfInBounds_toArray, List.set_cons_zero, List.set_cons_succ]
      obtain ⟨wa, hwa⟩ : ∃ wa, (w3.alloc (.cells (tpz ByteArray.empty 0 0 0 0 0 false 0) 31 (0, 0))).drew = wa := ⟨_, rfl⟩
      obtain ⟨ga, hga⟩ : ∃ ga, w3.heap.size = ga := ⟨_, rfl⟩
      change wpAnyH _ _ _ _ _ _ _ _ ((w3.alloc (.cells (tpz ByteArray.empty 0 0 0 0 0 false 0) 31 (0, 0))).drew)
      have hHeld2 := hHeld
      clear hHeld
      have hHeld := KL.out _ (HA.out.drop 1)
      clear hHeld2
      rw [hwa, hga] at HA
      rw [hwa] at hHeld
      rw [hwa, hga]
      clear hwa hga
      refine wpAnyH_ready (rs := [5]) (by kernel_rfl) (by simp) ?_
      refine AllReadyH.cons rfl (fun K hK => ?_) AllReadyH.nil
      go_simp
      refine (KO.out _).mono ?_
      rintro e w4 ⟨rfl, hf4⟩
      go_wp2_with fail
      have HH4 := Lib.hid (HA.out.frm hf4)
      clear hf4 HA
      refine hK.out _ _ (KL.out _ (HH4.out.drop 1)) (fun hHeld => ?_)
      clear hK K
      try simp only [Act.put, List.setIfInBounds_toArray, List.set_cons_zero, List.set_cons_succ]
      refine wpAnyH_take (i := 6) (v := ?v6_11) rfl (by kernel_rfl) (by kernel_rfl) (by kernel_rfl) (fun _ _ _ h => h) (Or.inl ⟨by rfl, ?hy6_11⟩) (by assumption) ?rest6_11
      case hy6_11 => (intro w hSw; (try dsimp only at hSw); go_simp; (try with_reducible rfl))
      try simp only [Act.put, List.setIfInBounds_toArray, List.set_cons_zero, List.set_cons_succ]
      refine wpAnyH_take (i := 7) (v := ?v7_12) rfl (by kernel_rfl) (by kernel_rfl) (by kernel_rfl) (fun _ _ _ h => h) (Or.inl ⟨by rfl, ?hy7_12⟩) (by assumption) ?rest7_12
      case hy7_12 => (intro w hSw; (try dsimp only at hSw); go_simp; (try with_reducible rfl))
      try simp only [Act.put, List.setIfInBounds_toArray, List.set_cons_zero, List.set_cons_succ]
      refine wpAnyH_take (i := 8) (v := ?v8_13) rfl (by kernel_rfl) (by kernel_rfl) (by kernel_rfl) (fun _ _ _ h => h) (Or.inl ⟨by rfl, ?hy8_13⟩) (by assumption) ?rest8_13
      case hy8_13 => (intro w hSw; (try dsimp only at hSw); go_simp; (try with_reducible rfl))
      try simp only [Act.put, List.setIfInBounds_toArray, List.set_cons_zero, List.set_cons_succ]
      refine wpAnyH_take (i := 9) (v := ?v9_14) rfl (by kernel_rfl) (by kernel_rfl) (by kernel_rfl) (fun _ _ _ h => h) (Or.inl ⟨by rfl, ?hy9_14⟩) (by assumption) ?rest9_14
      case hy9_14 => (intro w hSw; (try dsimp only at hSw); go_simp; (try with_reducible rfl))
      change wpAnyH _ _ _ _ _ _ _ (Act.put _ (some 25) _) _
      try simp only [Act.put, List.setIfInBounds_toArray, List.set_cons_zero, List.set_cons_succ]
      refine wpAnyH_ready (rs := [11]) (by kernel_rfl) (by simp) ?_
      refine AllReadyH.cons rfl (fun K hK => ?_) AllReadyH.nil
      rw [if_pos (by rfl)]
      refine wp_store_row 31 _ _ rfl ga (tpz q0 q1 q2 q3 q4 q5 q6 q7) rfl rfl _ _ (HH4.out.block (i := 0) rfl) (infoTp _ _ _ _ _ _ _ _) rfl (oneTp _ _ _ _ _ _ _ _) ?_
      have HB := Lib.hid (HH4.out.setRow 0 (c' := (tpz q0 q1 q2 q3 q4 q5 q6 q7)) rfl)
      refine hK.out _ _ (KL.out _ (HB.out.drop 1)) (fun hHeld => ?_)
      clear hK K
      try simp only [Act.put, List.setIfInBounds_toArray, List.set_cons_zero, List.set_cons_succ]
      refine wpAnyH_take (i := 12) (v := ?v12_15) rfl (by kernel_rfl) (by kernel_rfl) (by kernel_rfl) (fun _ _ _ h => h) (Or.inl ⟨by rfl, ?hy12_15⟩) (by assumption) ?rest12_15
      case hy12_15 => (intro w hSw; (try dsimp only at hSw); go_simp; (try with_reducible rfl))
      change wpAnyH _ _ _ _ _ _ _ (Act.put _ (some 7) _) _
      try simp only [Act.put, List.setIfInBounds_toArray, List.set_cons_zero, List.set_cons_succ]
      refine wpAnyH_done (by kernel_rfl) ?_ _
      go_wp2_with fail
      go_meet
      exact ⟨_, rfl, rfl, HB.out⟩
  case rest =>
    obtain ⟨g, rfl, rfl, hcut⟩ := hcut
    have HG := Lib.hid (hcut.block (i := 0) rfl)
    have HB1 := Lib.hid (hcut.block (i := 1) rfl)
    have HB := Lib.hid (hcut.setRow 1 (c' := tpz q0 q1 q2 q3 q4 q5 q6 q7) rfl)
    clear hcut KL KO HH3 HHd k1 k2
    go_wp2_with (first | (refine loadTp rfl _ rfl g rfl q0 q1 q2 q3 q4 q5 q6 q7 HG.out ?_) | (refine storeTp rfl _ _ rfl b1 q0 q1 q2 q3 q4 q5 q6 q7 rfl rfl _ rfl HB1.out ?_))
    have hld := run_loadVar_row (P := Tryz.prog) _ b1 31 31 (tpz q0 q1 q2 q3 q4 q5 q6 q7) (0, 0) _ (HB.out.block (i := 1) rfl) Tryz.underlying31 rfl (infoTp _ _ _ _ _ _ _ _)
    (try simp only [Exit.inBlock, Exit.then])
    exact bodyPost_ret (v := .tuple #[.agg (tpz q0 q1 q2 q3 q4 q5 q6 q7), .bool ok]) (results_ct Tryz.results23 _ _ ⟨b1, 0, none⟩ rfl _ hld) rfl ⟨rfl, HB.out.drop 2⟩
theorem c_Find (h : Fs w0 w F X A ι rs) {cb mb i j : Nat} {next : Int} {L : List Tp} (hr : rs[i]? = some (catS cb F.fb next mb)) (hr2 : rs[j]? = some (catM mb L)) {nm : ByteArray} (hn : nm.size ≤ 50) (hN : Named nm true) {o : Option Tp} (ho : mapL L (keyB nm) = o) :
    Calls Tryz.prog 23 #[.pointer (some ⟨cb, 0, none⟩), .string nm] w fun e w' => e = .returned (findT o) ∧ Fs w0 w' F X A ι rs := by
  have hm : ∀ z rs', Fs w0 z F X A ι (rs' ++ rs) → (Instr.lookup 91 (.map (some mb)) (.agg ((keyB nm).map B8).toArray) true).run Tryz.prog z = .ok (.tuple #[((o.map fun t => Value.agg t.cells).getD (.agg (tpz ByteArray.empty 0 0 0 0 0 false 0))), .bool (o.map fun t => Value.agg t.cells).isSome]) z := fun z rs' hz => by
    have hz := hz.sub (List.sublist_append_right rs' rs)
    have this := (hz.catAt hr2).lookup_ok kindCKey Tryz.underlying91 (a := keyB nm) (keyB_length nm hn) zeroTp z rfl
    have e : tpV (mapL L) (keyB nm) = o.map fun t => Value.agg t.cells := by unfold tpV; rw [ho]
    rw [e] at this
    exact this
  cases o with
  | none => exact c_Find0 h hr hn hN ByteArray.empty 0 0 0 0 0 false 0 false hm
  | some t =>
    obtain ⟨a, b, c, d, e, f, g, k⟩ := t
    exact c_Find0 h hr hn hN a b c d e f g k true hm
end
section
open Go.ChangeMaps Go.MapKept Go.RowKit
theorem neStg : ¬ U8T (29 : TypeId) := by decide
theorem app_get {α : Type} (a b : List α) (i : Nat) : (a ++ b)[a.length + i]? = b[i]? := by rw [List.getElem?_append_right (Nat.le_add_right _ _), Nat.add_sub_cancel_left]
theorem entCreate1 : EntersF Tryz.prog 45 := entersF_of Tryz.func45 (by kernel_rfl) rfl
end
section
open Go.ChangeMaps Go.MapKept Go.RowKit
variable {w0 : Gnd} {w : World} {rs : List Res} {X : Sys} {F : FH} {A : Path → Option Nd} {ι : Path → Nat}
attribute [local go_sem] run_mf in
theorem Fs.perm2 (h : Fs w0 w F X A ι rs) {rs' : List Res} (hp : rs.Perm rs') : Fs w0 w F X A ι rs' := by
  obtain ⟨⟨k, l, ha, hl⟩, hr⟩ := h
  exact ⟨⟨k, l, ha.perm ((hp.cons _).cons _), hl⟩, hr⟩
end
end Go.Proofs.YtlemndledcmhiaaGreatDoor
