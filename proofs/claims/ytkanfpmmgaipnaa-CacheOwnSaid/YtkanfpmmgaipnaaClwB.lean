/-
  The cache's Read and Write.
-/
import Derived.Test.YtkanfpmmgaipnaaClwA
import Derived.Deep.MidRow
namespace Go.Proofs.Ytkanfpmmgaipnaa
set_option linter.unusedVariables false
open Go.ChangeMaps Go.MapKept Go.RowKit

section
variable {w0 : Gnd} {w : World} {rs : List Res} {cb wb : Nat} {op ov : Bool} {l : WrL} {H : Hdl} {jh : JHdl} {J : JSt}

/-- What the cache tells of a home. -/
def cview (l : WrL) (v : Nat → Blk) (k : Int) : Blk := (look l k).getD (v k.toNat)

set_option maxRecDepth 100000 in
theorem S_cRead (h : St w0 w (cst cb jh.jb op ov wb :: wrt wb l :: jrn H jh J :: rs)) (a : Nat) {D : DSt} (hr : rs[a]? = some (dev H D)) (hJ : JOk D.n J) (ho : D.ops < 1000000000) (k : Int) (hk0 : 245 ≤ k) (hk1 : k < (D.n : Int)) (hn : D.n ≤ 65536) (h512 : ∀ p ∈ l, p.2.length = 512) :
    Calls Try.prog 66 #[.pointer (some ⟨cb, 0, none⟩), .int .i64 k] w fun e w' => ∃ v, e = .returned (.tuple #[v, .int .i64 0]) ∧ St w0 w' (byt v (cview l (jview J D) k) :: cst cb jh.jb op ov wb :: wrt wb l :: jrn H jh J :: rs) := by
  have hok : okI k := (okI_iff k).2 (by omega)
  have hB : ((look l k).getD zeros).length = 512 := by
    cases hl : look l k with
    | none => exact zeros_length
    | some b => exact h512 _ (look_in hl)
  obtain ⟨B, hBe⟩ : ∃ B, (look l k).getD zeros = B := ⟨_, rfl⟩
  have hlk := h.wrtLook (i := 1) rfl hok w rfl
  rw [hBe] at hB hlk
  have c0 : w.cell? ⟨cb, 0, none⟩ = some (.pointer (some ⟨jh.jb, 0, none⟩)) := (h.arrCell (i := 0) rfl 0).trans rfl
  have c3 : w.cell? ⟨cb, 3, none⟩ = some (.map (some wb)) := (h.arrCell (i := 0) rfl 3).trans rfl
  have HR := Lib.hid (S_cReady h)
  have HN := Lib.hid (block_alloc_new w (.cells zc 152 (0, 0)))
  have hf3 : Frm NoB w (w.alloc (.cells (B.map B8).toArray 152 (0, 0))) := (Frm.refl _ _).alloc _
  have H3 := Lib.hid (h.frm0 hf3)
  have HY := Lib.hid ((h.mkByt hf3 (arr_at w B hB)))
  have HJR := Lib.hid (S_JR (show St w0 _ (jrn H jh J :: cst cb jh.jb op ov wb :: wrt wb l :: rs) from H3.out.perm (List.perm_append_comm (l₁ := [_, _]) (l₂ := [_]) |>.append_right _)) (a + 2) hr hJ ho k hk0 hk1)
  have c0' : (w.alloc (.cells (B.map B8).toArray 152 (0, 0))).cell? ⟨cb, 0, none⟩ = some (.pointer (some ⟨jh.jb, 0, none⟩)) := (H3.out.arrCell (i := 0) rfl 0).trans rfl
  obtain ⟨s, hs⟩ : ∃ s, (look l k).isSome = s := ⟨_, rfl⟩
  rw [hs] at hlk
  have HS := Lib.hid hs
  have HBE := Lib.hid hBe
  have HBB := Lib.hid hB
  clear h hr hJ ho hk0 hk1 hn h512 hok hB hBe hf3 H3 hs
  go_enter Try.func66, Try.ntmps66
  go_wp2_with fail
  refine HR.out.mono ?_
  rintro e w2 ⟨rfl, rfl⟩
  go_upto_region 4 with (first | refine allocArr rfl rfl ?_ | refine storeArr rfl _ _ rfl w.heap.size B HBB.out rfl rfl zc zc_size HN.out ?_)
  rw [setRow_new]
  clear hlk c0 c3 HR HN
  obtain ⟨w3, hw3⟩ : ∃ w3, w3 = w.alloc (.cells (B.map B8).toArray 152 (0, 0)) := ⟨_, rfl⟩
  rw [← hw3] at HY HJR c0' ⊢
  clear hw3
  generalize w.heap.size = nb at *
  cases s with
  | true =>
    go_wp2_with fail
    go_ret2
    refine ⟨_, rfl, ?_⟩
    have e : cview l (jview J D) k = B := by
      unfold cview
      rw [← HBE.out]
      cases hl : look l k with
      | none => have := HS.out; rw [hl] at this; cases this
      | some b => rfl
    rw [e]
    exact HY.out
  | false =>
    have e : cview l (jview J D) k = jview J D k.toNat := by
      unfold cview
      cases hl : look l k with
      | none => rfl
      | some b => have := HS.out; rw [hl] at this; cases this
    have HE := Lib.hid e
    clear e
    go_wp2_with fail
    refine HJR.out.mono ?_
    clear HJR
    rintro e w4 ⟨v, rfl, h4⟩
    have H4 := Lib.hid h4
    clear h4
    go_wp2
    go_ret2
    refine ⟨_, rfl, ?_⟩
    rw [HE.out]
    exact H4.out.perm (List.Perm.cons _ (List.perm_append_comm (l₁ := [_]) (l₂ := [_, _]) |>.append_right _))

theorem S_cWriteShut (h : St w0 w (cst cb jh.jb false ov wb :: rs)) (k : Int) (v : Value) :
    Calls Try.prog 59 #[.pointer (some ⟨cb, 0, none⟩), .int .i64 k, v] w fun e w' => e = .returned (.int .i64 8) ∧ St w0 w' (cst cb jh.jb false ov wb :: rs) := by
  have HO := Lib.hid (S_cOpen h)
  have H0 := Lib.hid h
  clear h
  go_enter Try.func59, Try.ntmps59
  go_wp2_with fail
  refine HO.out.mono ?_
  rintro e w2 ⟨rfl, rfl⟩
  go_wp2_with fail
  go_ret
  exact ⟨rfl, H0.out⟩

theorem arrayAt_of {vb vo vc n : Nat} (hn : n = 512) (W : World) : (Instr.arrayAt 152 (.slice (some ⟨vb, vo, none⟩) n vc)).run Try.prog W = .ok (.pointer (some ⟨vb, vo, none⟩)) W := by
  subst hn
  unfold Instr.arrayAt
  rw [Sem.run_bind, run_underlying Try.underlying152 W]
  rfl

theorem BytesAt.rangeB {w : World} {vb vo n vc : Nat} {d : Blk} {R : Nat → Prop} (h : BytesAt w (.slice (some ⟨vb, vo, none⟩) n vc) d R) : w.rangeAt vb vo (d.map B8) := by
  obtain ⟨b', o', cap', c, e, h2, h3, h4, h5⟩ := h
  injection e with e1 e2 e3
  injection e1 with e1
  injection e1 with e1 e4
  subst e1 e4
  intro j u hu
  rw [List.getElem?_map] at hu
  cases hd : d[j]? with
  | none => rw [hd] at hu; cases hu
  | some x =>
    rw [hd] at hu
    have hj := (List.getElem?_eq_some_iff.1 hd).1
    have := h4 j hj
    rw [List.getD_eq_getElem?_getD, hd] at this
    rw [h3.cell, this]
    exact hu

set_option maxRecDepth 100000 in
theorem S_cWriteIn (h : St w0 w (cst cb jh.jb true ov wb :: wrt wb l :: jrn H jh J :: rs)) (a j : Nat) {D : DSt} (hr : rs[a]? = some (dev H D)) {v : Value} {d : Blk} (hv : rs[j]? = some (byt v d)) (hd : d.length = 512) (hJ : JOk D.n J) (ho : D.ops < 1000000000) (k : Int) (hk0 : 245 ≤ k) (hk1 : k < (D.n : Int)) (hn : D.n ≤ 65536) (hL : l.length ≤ 1000) (h512 : ∀ p ∈ l, p.2.length = 512) :
    Calls Try.prog 59 #[.pointer (some ⟨cb, 0, none⟩), .int .i64 k, v] w fun e w' =>
      ((((look l k).isSome = true ∨ l.length < 60) ∧ e = .returned (.int .i64 0) ∧ St w0 w' (cst cb jh.jb true ov wb :: wrt wb (putW l k d) :: jrn H jh J :: rs)) ∨
       (look l k = none ∧ 60 ≤ l.length ∧ e = .returned (.int .i64 2) ∧ St w0 w' (cst cb jh.jb true true wb :: wrt wb l :: jrn H jh J :: rs))) := by
  have hok : okI k := (okI_iff k).2 (by omega)
  have hB : ((look l k).getD zeros).length = 512 := by
    cases hl : look l k with
    | none => exact zeros_length
    | some b => exact h512 _ (look_in hl)
  obtain ⟨vb, vo, vc, rfl, _⟩ := (h.get (i := j + 3) hv).cells
  rw [hd] at hv ⊢
  have c0 : w.cell? ⟨cb, 0, none⟩ = some (.pointer (some ⟨jh.jb, 0, none⟩)) := (h.arrCell (i := 0) rfl 0).trans rfl
  have HO := Lib.hid (S_cOpen h)
  have HJR := Lib.hid (S_JR (show St w0 _ (jrn H jh J :: cst cb jh.jb true ov wb :: wrt wb l :: rs) from h.perm (List.perm_append_comm (l₁ := [_, _]) (l₂ := [_]) |>.append_right _)) (a + 2) hr hJ ho k hk0 hk1)
  have HV := Lib.hid hv
  have HBB := Lib.hid hB
  have HOK := Lib.hid hok
  have HD := Lib.hid hd
  have hl1 : ((l.length : Nat) : Int) ≤ 1000 := by omega
  have hl0 : (0 : Int) ≤ ((l.length : Nat) : Int) := Int.natCast_nonneg _
  clear h hr hv hJ ho hk0 hk1 hn h512 hok hB hd hL
  go_enter Try.func59, Try.ntmps59
  go_wp2_with fail
  refine HO.out.mono ?_
  rintro e w2 ⟨rfl, rfl⟩
  clear HO
  go_wp2_with fail
  refine HJR.out.mono ?_
  clear HJR c0
  rintro e w3 ⟨v3, rfl, h3⟩
  have H3 := Lib.hid (show St w0 w3 (cst cb jh.jb true ov wb :: wrt wb l :: jrn H jh J :: rs) from (h3.drop 1).perm (List.perm_append_comm (l₁ := [_]) (l₂ := [_, _]) |>.append_right _))
  clear h3
  obtain ⟨B, hBe⟩ : ∃ B, (look l k).getD zeros = B := ⟨_, rfl⟩
  obtain ⟨s, hs⟩ : ∃ s, (look l k).isSome = s := ⟨_, rfl⟩
  have hlk := H3.out.wrtLook (i := 1) rfl HOK.out w3 rfl
  rw [hBe, hs] at hlk
  rw [hBe] at HBB
  have HS := Lib.hid hs
  have c3 : w3.cell? ⟨cb, 3, none⟩ = some (.map (some wb)) := (H3.out.arrCell (i := 0) rfl 3).trans rfl
  have HN := Lib.hid (block_alloc_new w3 (.cells zc 152 (0, 0)))
  clear hBe hs
  go_upto_region 7 with (first | refine allocArr rfl rfl ?_ | refine storeArr rfl _ _ rfl w3.heap.size B HBB.out rfl rfl zc zc_size HN.out ?_)
  rw [setRow_new]
  have H4 := Lib.hid (H3.out.frm0 ((Frm.refl NoB w3).alloc (.cells (B.map B8).toArray 152 (0, 0))))
  obtain ⟨w4, hw4⟩ : ∃ w4, w4 = w3.alloc (.cells (B.map B8).toArray 152 (0, 0)) := ⟨_, rfl⟩
  rw [← hw4] at H4 ⊢
  clear hw4 hlk c3 HN H3
  generalize w3.heap.size = nb at *
  have c3 : w4.cell? ⟨cb, 3, none⟩ = some (.map (some wb)) := (H4.out.arrCell (i := 0) rfl 3).trans rfl
  have hln := fun ty => H4.out.wrtLen (i := 1) rfl ty w4 rfl
  have hput : ((look l k).isSome = true ∨ l.length < 60) → Hid (∃ o, (Instr.mapUpdate 149 (.map (some wb)) (.int .i64 k) (.agg (d.map B8).toArray)).run Try.prog w4.drew = .ok () (setBlock w4.drew wb o) ∧ St w0 (setBlock w4.drew wb o) (cst cb jh.jb true ov wb :: wrt wb (putW l k d) :: jrn H jh J :: rs)) := fun _ => Lib.hid (by
    obtain ⟨o, q1, q2⟩ := (H4.out.frm0 ((Frm.refl NoB w4).drew)).wrtPut 1 rfl HOK.out d
    exact ⟨o, q1 w4.drew rfl, q2⟩)
  have HPUT := Lib.hid hput
  clear hput
  have KA : Hid (∀ y, Frm NoB w4 y → y.cell? ⟨cb, 3, none⟩ = some (.map (some wb)) ∧ y.rangeAt vb vo (d.map B8)) := Lib.hid fun y hy =>
    ⟨((H4.out.frm0 hy).arrCell (i := 0) rfl 3).trans rfl, BytesAt.rangeB ((H4.out.frm0 hy).get (i := j + 3) HV.out)⟩
  by_cases hroom : (look l k).isSome = true ∨ l.length < 60
  · obtain ⟨o, q, h5⟩ := (HPUT.out hroom).out
    have H5 := Lib.hid h5
    have hS5 : (setBlock w4.drew wb o).cell? ⟨cb, 3, none⟩ = some (.map (some wb)) ∧ (setBlock w4.drew wb o).rangeAt vb vo (d.map B8) := ⟨(h5.arrCell (i := 0) rfl 3).trans rfl, BytesAt.rangeB (h5.get (i := j + 3) HV.out)⟩
    have HRM := Lib.hid hroom
    clear h5 HPUT
    have hU : Try.prog.underlying 152 = some (.array 512 5) := Try.underlying152
    have hI : (Try.prog.info? 152).map (·.size) = some (d.map B8).length := by rw [List.length_map, HD.out]; kernel_rfl
    have hsp := fun W => arrayAt_of (vb := vb) (vo := vo) (vc := vc) rfl W
    obtain ⟨k1, k2⟩ := KA.out w4 (Frm.refl _ _)
    cases s with
    | true =>
      clear hroom
      go_upto_region 10 with (fail)
      go_region_held3 (fun y => y.cell? ⟨cb, 3, none⟩ = some (.map (some wb)) ∧ y.rangeAt vb vo (d.map B8))
        (first | exact hS5 | (refine KA.out _ ?_; first | assumption | exact (Frm.refl NoB w4).drew))
        (first
          | fail
          | fail)
      all_goals
        go_wp2
        go_ret
        exact .inl ⟨HRM.out, rfl, H5.out⟩
    | false =>
      have h60 : ¬ (60 : Int) ≤ ((l.length : Nat) : Int) := by
        have := HS.out
        rcases hroom with h | h
        · rw [h] at this; cases this
        · omega
      clear hroom
      go_upto_region 10 with (fail)
      go_region_held3 (fun y => y.cell? ⟨cb, 3, none⟩ = some (.map (some wb)) ∧ y.rangeAt vb vo (d.map B8))
        (first | exact hS5 | (refine KA.out _ ?_; first | assumption | exact (Frm.refl NoB w4).drew))
        (first
          | fail
          | fail)
      all_goals
        go_wp2
        go_ret
        exact .inl ⟨HRM.out, rfl, H5.out⟩
  · have hs : s = false := by
      have := HS.out
      cases s with
      | true => exact absurd (.inl this) hroom
      | false => rfl
    subst hs
    have h60 : (60 : Int) ≤ ((l.length : Nat) : Int) := by
      have : ¬ l.length < 60 := fun h => hroom (.inr h)
      omega
    have HNO := Lib.hid hroom
    clear hroom HPUT KA
    have c2 : w4.cell? ⟨cb, 2, none⟩ = some (.bool ov) := (H4.out.arrCell (i := 0) rfl 2).trans rfl
    have f2 : w4.frozen? ⟨cb, 2, none⟩ = false := H4.out.arrFree (i := 0) rfl 2
    have H5 := Lib.hid (H4.out.setArr 0 rfl 2 (.bool true))
    go_wp2_with fail
    go_ret
    refine .inr ⟨?_, ?_, rfl, H5.out⟩
    · have := HS.out
      cases hl : look l k with
      | none => rfl
      | some b => rw [hl] at this; cases this
    · have : ¬ l.length < 60 := fun h => HNO.out (.inr h)
      omega

set_option maxRecDepth 100000 in
theorem S_cWriteFar (h : St w0 w (cst cb jh.jb true ov wb :: wrt wb l :: jrn H jh J :: rs)) (a : Nat) {D : DSt} (hr : rs[a]? = some (dev H D)) (k : Int) (hk : k < 245 ∨ (D.n : Int) ≤ k) (v : Value) :
    Calls Try.prog 59 #[.pointer (some ⟨cb, 0, none⟩), .int .i64 k, v] w fun e w' => e = .returned (.int .i64 1) ∧ St w0 w' (cst cb jh.jb true ov wb :: wrt wb l :: jrn H jh J :: rs) := by
  have c0 : w.cell? ⟨cb, 0, none⟩ = some (.pointer (some ⟨jh.jb, 0, none⟩)) := (h.arrCell (i := 0) rfl 0).trans rfl
  have HO := Lib.hid (S_cOpen h)
  have HJR := Lib.hid (S_JRFar (show St w0 _ (jrn H jh J :: cst cb jh.jb true ov wb :: wrt wb l :: rs) from h.perm (List.perm_append_comm (l₁ := [_, _]) (l₂ := [_]) |>.append_right _)) (a + 2) hr k hk)
  have H0 := Lib.hid h
  clear h hr hk
  go_enter Try.func59, Try.ntmps59
  go_wp2_with fail
  refine HO.out.mono ?_
  rintro e w2 ⟨rfl, rfl⟩
  clear HO
  go_wp2_with fail
  refine HJR.out.mono ?_
  clear HJR c0
  rintro e w3 ⟨rfl, rfl⟩
  go_wp2_with fail
  go_ret
  exact ⟨rfl, H0.out⟩

set_option maxRecDepth 100000 in
theorem S_cWriteLen (h : St w0 w (cst cb jh.jb true ov wb :: wrt wb l :: jrn H jh J :: rs)) (a j : Nat) {D : DSt} (hr : rs[a]? = some (dev H D)) {v : Value} {d : Blk} (hv : rs[j]? = some (byt v d)) (hd : d.length ≠ 512) (hJ : JOk D.n J) (ho : D.ops < 1000000000) (k : Int) (hk0 : 245 ≤ k) (hk1 : k < (D.n : Int)) :
    Calls Try.prog 59 #[.pointer (some ⟨cb, 0, none⟩), .int .i64 k, v] w fun e w' => e = .returned (.int .i64 1) ∧ St w0 w' (cst cb jh.jb true ov wb :: wrt wb l :: jrn H jh J :: rs) := by
  obtain ⟨vb, vo, vc, rfl, _⟩ := (h.get (i := j + 3) hv).cells
  have c0 : w.cell? ⟨cb, 0, none⟩ = some (.pointer (some ⟨jh.jb, 0, none⟩)) := (h.arrCell (i := 0) rfl 0).trans rfl
  have HO := Lib.hid (S_cOpen h)
  have HJR := Lib.hid (S_JR (show St w0 _ (jrn H jh J :: cst cb jh.jb true ov wb :: wrt wb l :: rs) from h.perm (List.perm_append_comm (l₁ := [_, _]) (l₂ := [_]) |>.append_right _)) (a + 2) hr hJ ho k hk0 hk1)
  obtain ⟨m, hm⟩ : ∃ m, d.length = m := ⟨_, rfl⟩
  rw [hm] at hd ⊢
  have hd2 : (((m : Nat) : Int) != 512) = true := by rw [bne_iff_ne]; omega
  clear h hr hv hJ ho hk0 hk1 hd hm
  go_enter Try.func59, Try.ntmps59
  go_wp2_with fail
  refine HO.out.mono ?_
  rintro e w2 ⟨rfl, rfl⟩
  clear HO
  go_wp2_with fail
  refine HJR.out.mono ?_
  clear HJR c0
  rintro e w3 ⟨v3, rfl, h3⟩
  have H3 := Lib.hid (show St w0 w3 (cst cb jh.jb true ov wb :: wrt wb l :: jrn H jh J :: rs) from (h3.drop 1).perm (List.perm_append_comm (l₁ := [_]) (l₂ := [_, _]) |>.append_right _))
  clear h3
  go_wp2_with fail
  go_ret
  exact ⟨rfl, H3.out⟩
end
end Go.Proofs.Ytkanfpmmgaipnaa
