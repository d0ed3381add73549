/-
  What the last commit changed, in memory; settle.
-/
import Derived.Test.YtkanfpmmgaipnaaJrnL
import Derived.StillTailTactics
namespace Go.Proofs.Ytkanfpmmgaipnaa
set_option linter.unusedVariables false
open Go.ChangeMaps Go.MapKept Go.RowKit

theorem keyTyPlace : Try.prog.keyType 143 = true := by kernel_rfl
theorem cellsPlace : Try.prog.cellsOf 143 = 2 := by kernel_rfl
theorem keyOf_place (a b : Int) (wa : okI a) (wb : okI b) :
    keyOf Try.prog 143 (.agg #[.int .i64 a, .int .i64 b]) = some (.string (keyBytes [.int .i64 a, .int .i64 b])) := by
  obtain ⟨d, hd⟩ := typesSz
  unfold keyOf
  simp only [Try.underlying143]
  rw [if_pos (by simp [keyTyPlace, Value.formed, Try.underlying143, cellsPlace]), hd]
  unfold Program.keyLits
  simp only [Try.underlying143, Value.cells]
  rw [if_pos (by rw [cellsPlace]; exact ⟨rfl, by decide +kernel⟩)]
  simp only [List.mapM_cons, List.mapM_nil, cellsInt, List.drop_zero, List.take_succ_cons, List.take_zero, List.drop_succ_cons, keyLits_int _ _ wa, keyLits_int _ _ wb]
  rfl

theorem kindPlace : KeyKind Try.prog 143 PairK okP := by
  have K : WideMaps.KeyLaw Try.prog 143 := deep_law_laid laidOutP (m := 2) (by omega) (by decide +kernel) (by kernel_rfl) (by kernel_rfl)
  refine ⟨Go.Maps.Keyed.of_law K, fun a ha => ⟨_, keyOf_place a.1 a.2 ha.1 ha.2⟩, fun a b h => ?_⟩
  simp only [PairK, Value.agg.injEq] at h
  have h0 := congrArg (fun x => x[0]?) h
  have h1 := congrArg (fun x => x[1]?) h
  simp at h0 h1
  exact Prod.ext h0 h1

/-- The map of what the last commit changed: by slot and block. -/
def chg (mb sl : Nat) (dt : List Blk) : Res where
  M := Only mb
  inv := fun w => ∃ n f, MapAt PairK okP w mb n f ∧ ∀ (i : Nat) b, dt[i]? = some b → ∃ v, f ((sl : Int), (i : Int)) = some v ∧ BytesAt w v b AnyB
  lt := fun w H x hx => by obtain rfl : x = mb := hx; obtain ⟨n, f, h, _⟩ := H; exact h.lt
  dry := fun w H x hx c e => by
    obtain rfl : x = mb := hx
    obtain ⟨n, f, ⟨es, clock, h, _⟩, _⟩ := H
    rw [h] at e; cases e
  keep := fun w w' N H hf hd ha => by
    obtain ⟨n, f, h, hb⟩ := H
    refine ⟨n, f, h.of_block (hf.block mb h.lt (ha mb rfl)), fun i b hi => ?_⟩
    obtain ⟨v, h1, h2⟩ := hb i b hi
    exact ⟨v, h1, h2.of_block fun x c _ hc => hf.block x (lt_of_block hc) (fun hN => hd x (lt_of_block hc) hN c hc)⟩

theorem okI_small (i : Nat) (h : i < 1000000) : okI (i : Int) := (okI_iff _).2 (by omega)

theorem St.chgNew {w0 w : World} {rs : List Res} (h : St w0 w rs) (sl : Nat) : St w0 (w.alloc (.map #[] 0)) (chg w.heap.size sl [] :: rs) :=
  h.make ((Frm.refl _ _).alloc _) (chg w.heap.size sl []) ⟨0, _, MapAt.made w, fun i b hi => by simp at hi⟩ (fun x hx => by obtain rfl : x = w.heap.size := hx; exact Nat.le_refl _)

/-- What a lookup in it answers. -/
theorem St.chgLook {w0 w : World} {rs : List Res} (h : St w0 w rs) {i mb sl : Nat} {dt : List Blk} (hr : rs[i]? = some (chg mb sl dt)) (k : Nat) {b : Blk} (hb : dt[k]? = some b) (hk : k < 1000000) (hs : sl < 1000000) :
    ∃ v, (∀ W, W.heap[mb]? = w.heap[mb]? → (Instr.lookup 136 (.map (some mb)) (.agg #[.int .i64 sl, .int .i64 k]) false).run Try.prog W = .ok v W) ∧ BytesAt w v b AnyB := by
  obtain ⟨n, f, hm, hv⟩ := h.get hr
  obtain ⟨v, h1, h2⟩ := hv k b hb
  refine ⟨v, fun W hW => ?_, h2⟩
  have := hm.lookup kindPlace Try.underlying136 (a := ((sl : Int), (k : Int))) ⟨okI_small _ hs, okI_small _ hk⟩ zeroBytes W hW
  rw [h1] at this
  exact this

/-! ### Writes and flushes, as ops -/

theorem S_WriteOp {w0 w : World} {rs : List Res} (h : St w0 w rs) (i j : Nat) {H : Hdl} {D : DSt} {v : Value} {bs : Blk} (hr : rs[i]? = some (dev H D)) (hv : rs[j]? = some (byt v bs)) (k : Int) (ho : D.ops < 4611686018427387904) (h0 : 0 ≤ k) (hk : k < D.n) (hbs : bs.length = 512) :
    Calls Try.prog 31 #[.pointer (some ⟨H.b, 0, none⟩), .int .i64 k, v] w fun e w' => e = .returned (.int .i64 (endD [.wr k.toNat bs] D)) ∧ St w0 w' (rs.set i (dev H (runD [.wr k.toNat bs] D))) := by
  by_cases ho2 : D.off = true
  · rw [endD_yes ho2, runD_yes ho2]
    exact S_WriteOff h i hr k v ho ho2
  · rw [endD_no ho2, runD_no ho2]
    exact S_Write h i j hr hv k ho (by simpa using ho2) h0 hk hbs

theorem S_FlushOp {w0 w : World} {rs : List Res} (h : St w0 w rs) (i : Nat) {H : Hdl} {D : DSt} (hr : rs[i]? = some (dev H D)) (ho : D.ops < 4611686018427387903) :
    Calls Try.prog 33 #[.pointer (some ⟨H.b, 0, none⟩)] w fun e w' => e = .returned (.int .i64 (endD [.fl] D)) ∧ St w0 w' (rs.set i (dev H (runD [.fl] D))) := by
  by_cases ho2 : D.off = true
  · rw [endD_yes ho2, runD_yes ho2]
    exact S_FlushOff h i hr (by omega) ho2
  · rw [endD_no ho2, runD_no ho2]
    exact S_Flush h i hr ho (by simpa using ho2)

/-- The number of a slot, where a number's remainder is known. -/
theorem slot_is (w : World) (n s : Nat) (hn : n < 18446744073709551616) (hs : n % 4 = s) :
    Calls Try.prog 89 #[.int .u64 n] w fun e w' => e = .returned (.int .i64 s) ∧ w' = w := by
  subst hs
  exact (slot_any w n hn).mono fun _ _ ⟨a, b⟩ => ⟨b, a.symm⟩

/-- What settle answers and leaves. -/
def OpsRet (w0 : World) (rs : List Res) (a : Nat) (H : Hdl) (l : List DOp) (D : DSt) (e : Ending) (w' : World) : Prop :=
  e = .returned (.int .i64 (endD l D)) ∧ St w0 w' (rs.set a (dev H (runD l D)))

set_option maxRecDepth 100000 in
theorem S_settle {w0 w : World} {rs : List Res} (h : St w0 w rs) (a i p q : Nat) {H : Hdl} {D : DSt} {jb mb last sl : Nat} {ov : Value} {o : List Nat} {dt : List Blk} {c : Array Value} {ht : (138 : TypeId) ≠ 5} (hr : rs[a]? = some (dev H D)) (hj : rs[i]? = some (arr jb c 138 ht))
    (hov : rs[p]? = some (rowI ov o)) (hmb : rs[q]? = some (chg mb sl dt)) (hc0 : c[0]? = some (.pointer (some ⟨H.b, 0, none⟩))) (hc2 : c[2]? = some (.int .u64 last)) (hc4 : c[4]? = some ov) (hc5 : c[5]? = some (.map (some mb)))
    (hsl : last % 4 = sl) (hla : last < 18446744073709551616) (hlen : dt.length = o.length) (ho60 : o.length ≤ 60) (hho : ∀ k ∈ o, k < D.n) (hb512 : ∀ b ∈ dt, b.length = 512) (ho : D.ops < 1000000000) (hia : i ≠ a) (hpa : p ≠ a) (hqa : q ≠ a) :
    Calls Try.prog 92 #[.pointer (some ⟨jb, 0, none⟩)] w (OpsRet w0 rs a H (settleOps o dt) D) := by
  have H0 := Lib.hid h
  obtain ⟨oa, ocap, rfl⟩ := h.rowILen hov
  have c4 : w.cell? ⟨jb, 4, none⟩ = some (.slice oa o.length ocap) := (h.arrCell hj 4).trans hc4
  have KC : Hid (∀ W X, St w0 W (rs.set a X) → W.cell? ⟨jb, 0, none⟩ = some (.pointer (some ⟨H.b, 0, none⟩)) ∧ W.cell? ⟨jb, 2, none⟩ = some (.int .u64 last) ∧ W.cell? ⟨jb, 5, none⟩ = some (.map (some mb))) := Lib.hid fun W X hW =>
    ⟨(hW.arrCell (i := i) (by rw [List.getElem?_set_ne (Ne.symm hia)]; exact hj) 0).trans hc0, (hW.arrCell (i := i) (by rw [List.getElem?_set_ne (Ne.symm hia)]; exact hj) 2).trans hc2, (hW.arrCell (i := i) (by rw [List.getElem?_set_ne (Ne.symm hia)]; exact hj) 5).trans hc5⟩
  obtain ⟨ha1, ha2⟩ := List.getElem?_eq_some_iff.1 hr
  have hrs : rs.set a (dev H D) = rs := by rw [← ha2]; exact List.set_getElem_self ha1
  have HRS := Lib.hid hrs
  have HSL : Hid (∀ W, Calls Try.prog 89 #[.int .u64 last] W fun e w' => e = .returned (.int .i64 sl) ∧ w' = W) := Lib.hid fun W => slot_is W last sl hla hsl
  have hsl4 : sl < 4 := by omega
  have HHO := Lib.hid hho
  have HLEN := Lib.hid hlen
  have H512 := Lib.hid hb512
  have HX : Hid (∀ X, (rs.set a X)[a]? = some X) := Lib.hid fun X => List.getElem?_set_self ha1
  have HOV : Hid (∀ X, (rs.set a X)[p]? = some (rowI (.slice oa o.length ocap) o)) := Lib.hid fun X => by rw [List.getElem?_set_ne (Ne.symm hpa)]; exact hov
  have HMB : Hid (∀ X, (rs.set a X)[q]? = some (chg mb sl dt)) := Lib.hid fun X => by rw [List.getElem?_set_ne (Ne.symm hqa)]; exact hmb
  have HD := Lib.hid ho
  clear h hrs ha2 ha1 hr hj hov hmb hc0 hc2 hc4 hc5 hho hlen hb512 hsl hla ho
  go_enter Try.func92, Try.ntmps92
  go_wp2_with fail
  go_loopw [2, 3, 4, 5, 11] (fun _ _ _ _ t wr => ∃ k : Nat, k ≤ o.length ∧ t = .int .i64 k ∧ endD (settleOps (o.take k) (dt.take k)) D = 0 ∧ St w0 wr (rs.set a (dev H (runD (settleOps (o.take k) (dt.take k)) D)))) (fun _ _ _ _ t _ => o.length - (intOf t).toNat)
  case atStart => exact ⟨0, Nat.zero_le _, rfl, by simp [settleOps, endD], by simp only [List.take_zero, settleOps, runD]; rw [HRS.out]; exact H0.out⟩
  case round =>
    clear H0 HRS c4
    obtain ⟨k, hk, rfl, he, hst⟩ := hrel
    have HST := Lib.hid hst
    have HE := Lib.hid he
    clear hst he
    by_cases hlt : k < o.length
    · have hk0 : (0 : Int) ≤ (k : Int) := Int.natCast_nonneg _
      have hk1 : (k : Int) < (o.length : Int) := by omega
      obtain ⟨x, hx⟩ : ∃ x, o[k]? = some x := ⟨_, List.getElem?_eq_getElem hlt⟩
      obtain ⟨b, hb⟩ : ∃ b, dt[k]? = some b := ⟨_, List.getElem?_eq_getElem (by rw [HLEN.out]; exact hlt)⟩
      obtain ⟨gb, go, rfl, hgb, hcx⟩ := HST.out.rowICell (HOV.out _) hx
      obtain ⟨v, hlk0, hbv⟩ := HST.out.chgLook (HMB.out _) k hb (by omega) (by omega)
      have hlk : (Instr.lookup 136 (.map (some mb)) (.agg #[.int .i64 sl, .int .i64 k]) false).run Try.prog wr.drew = .ok v wr.drew := hlk0 _ rfl
      have hxn : x < D.n := HHO.out x (List.mem_of_getElem? hx)
      have hbl : b.length = 512 := H512.out b (List.mem_of_getElem? hb)
      obtain ⟨E, hE⟩ : ∃ E, runD (settleOps (o.take k) (dt.take k)) D = E := ⟨_, rfl⟩
      have HS := Lib.hid (settleOps_take o dt k x b hx hb)
      rw [hE] at HST
      have hEn : E.n = D.n := hE ▸ runD_n _ _
      have hEo : E.ops ≤ 1000001000 := by
        have h1 := runD_ops (settleOps (o.take k) (dt.take k)) D
        rw [hE, settleOps_length _ _ (by rw [List.length_take, List.length_take, HLEN.out])] at h1
        have h2 := HD.out
        rw [List.length_take] at h1
        omega
      have HAP := Lib.hid (runD_append (settleOps (o.take k) (dt.take k)) [.wr x b] D HE.out)
      rw [hE, ← HS.out] at HAP
      have hkc := KC.out _ _ HST.out
      obtain ⟨k0, k2, k5⟩ := hkc
      have HW : Hid (Calls Try.prog 31 #[.pointer (some ⟨H.b, 0, none⟩), .int .i64 x, v] wr.drew fun e w' => e = .returned (.int .i64 (endD [.wr x b] E)) ∧ St w0 w' (rs.set a (dev H (runD [.wr x b] E)))) := by
        have h1 : St w0 wr.drew (byt v b :: rs.set a (dev H E)) := (HST.out.make (Frm.refl _ _) (byt v b) hbv (fun _ h => h.elim)).frm0 ((Frm.refl NoB wr).drew)
        have := S_WriteOp h1 (a + 1) 0 (HX.out _) rfl (x : Int) (by omega) (by omega) (by omega) hbl
        refine Lib.hid (this.mono fun e w' ⟨h1, h2⟩ => ⟨h1, ?_⟩)
        have h3 := h2.drop 1
        rw [show (x : Int).toNat = x from by omega] at h3
        simp only [List.set_cons_succ, List.drop_succ_cons, List.drop_zero, List.set_set] at h3
        exact h3
      clear hx hb hE hEn hEo hbl hxn hbv hlk0 hgb
      go_wp2_with fail
      refine wp_region_still_tail 17 (by kernel_rfl) (by kernel_rfl) ?_
      simp only [List.take_succ_cons, List.take_zero, List.drop_succ_cons, List.drop_zero]
      repeat still_step
      still_call (HSL.out _)
      repeat still_step
      refine wpStill_nil ?_
      change wpList _ _ _ _ _ wr.drew
      go_wp2_with fail
      refine HW.out.mono ?_
      rintro e w2 ⟨he, h2⟩
      rcases endD_cases [.wr x b] E with e0 | e9
      · rw [e0] at he
        subst he
        have hend : endD (settleOps (o.take (k + 1)) (dt.take (k + 1))) D = 0 := HAP.out.2.trans e0
        rw [← HAP.out.1] at h2
        have H2 := Lib.hid h2
        have HE2 := Lib.hid hend
        clear h2 hend e0 HW hlk k0 k2 k5 hcx
        go_wp2
        first | exact ⟨⟨k + 1, hlt, by go_num, HE2.out, H2.out⟩, by simp [intOf]; omega⟩ | (go_roundw; case rel => first | exact ⟨k + 1, hlt, by go_num, HE2.out, H2.out⟩ | ((repeat apply Exists.intro); exact ⟨⟨k + 1, hlt, by go_num, HE2.out, H2.out⟩, rfl⟩); case measure => simp [intOf]; omega)
      · rw [e9] at he
        subst he
        have hst2 := runD_stop (settleOps (o.take (k + 1)) (dt.take (k + 1))) (settleOps (o.drop (k + 1)) (dt.drop (k + 1))) D (HAP.out.2.trans e9)
        have hsp := settleOps_split o dt (k + 1)
        rw [hsp] at hst2
        rw [← HAP.out.1, ← hst2.1] at h2
        have H2 := Lib.hid h2
        have HE2 := Lib.hid hst2.2
        clear h2 e9 HW hlk k0 k2 k5 hcx hst2 hsp
        go_wp2
        go_ret
        exact ⟨by rw [HE2.out]; rfl, H2.out⟩
    · have hk1 : ¬ (k : Int) < (o.length : Int) := by omega
      have hkl : k = o.length := by omega
      have HE2 : Hid (endD (settleOps o dt) D = 0) := Lib.hid (by have := HE.out; rw [hkl, List.take_length, ← HLEN.out, List.take_length] at this; exact this)
      have H2 : Hid (St w0 wr (rs.set a (dev H (runD (settleOps o dt) D)))) := Lib.hid (by have := HST.out; rw [hkl, List.take_length, ← HLEN.out, List.take_length] at this; exact this)
      clear hkl HE HST
      go_wp2
      go_ret
      exact ⟨by rw [HE2.out]; rfl, H2.out⟩
end Go.Proofs.Ytkanfpmmgaipnaa
