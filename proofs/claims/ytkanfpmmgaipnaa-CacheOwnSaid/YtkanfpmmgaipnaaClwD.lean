/-
  bollardlaw5: fresh, is, awake; a cache that is none; CacheNothing.
-/
import Derived.Test.YtkanfpmmgaipnaaClwC
import Derived.Test.YtkanfpmmgaipnaaJlwD
namespace Go.Proofs.Ytkanfpmmgaipnaa
set_option linter.unusedVariables false
open Go.ChangeMaps Go.MapKept Go.RowKit

theorem neS5 : ¬ U8T (95 : TypeId) := by decide

/-- What the homes are, through what was written. -/
def cvw (l : WrL) (s : Nat → Blk) : Nat → Blk := fun k => (look l (k : Int)).getD (s k)

set_option maxRecDepth 100000 in
theorem S_fresh5 {w0 : Gnd} {w : World} {rs : List Res} (h : St w0 w rs) :
    Calls Try.prog 57 #[] w fun e w' => ∃ H jh J D cb wb, e = .returned (.tuple #[.pointer (some ⟨H.b, 0, none⟩), .pointer (some ⟨cb, 0, none⟩), .bool true]) ∧ St w0 w' (cst cb jh.jb false false wb :: wrt wb [] :: jrn H jh J :: dev H D :: rs) ∧ Live 325 1 0 J D (fun _ => zeros) ∧ D.lim = none ∧ D.ops ≤ 100 := by
  have HN := Lib.hid (S_New h 325 (by omega) (by omega))
  clear h
  go_enter Try.func57, Try.ntmps57
  go_wp2_with fail
  refine HN.out.mono ?_
  clear HN
  rintro e w1 ⟨H, rfl, h1⟩
  have H1 := Lib.hid h1
  clear h1
  go_wp2_with fail
  refine (S_Format H1.out 0 rfl (by decide) (by decide) rfl (by rfl) (by decide)).mono ?_
  rintro e w2 ⟨rfl, h2⟩
  obtain ⟨f1, f2, f3⟩ := fmt_tells 325 (by omega) (by omega)
  have h2 : St w0 w2 (dev H (fmtD (DSt.new 325) 0 7) :: rs) := h2
  obtain ⟨g1, g2, g3⟩ := fmtD_ok (DSt.new 325) 0 rfl 7
  have HO := Lib.hid (S_OpenL h2 0 rfl f3 (g1.trans (show (DSt.new 325).n = 325 from rfl)) f2 f1 (by omega) (by omega) (by omega) (by rw [g2]; decide) g3)
  have HG : Hid ((fmtD (DSt.new 325) 0 7).ops = 7) := Lib.hid g2
  clear h2 f1 f2 f3 g1 g2 g3 H1
  go_wp2_with fail
  refine HO.out.mono ?_
  clear HO
  rintro e w3 ⟨jh, J, D, rfl, h3, hl, hlim, hops⟩
  have HL := Lib.hid hl
  have HLI := Lib.hid hlim
  have HOP : Hid (D.ops ≤ 100) := Lib.hid (by have := HG.out; omega)
  have HC := Lib.hid (S_cNew (show St w0 w3 (jrn H jh J :: dev H D :: rs) from h3) jh.jb)
  clear h3 hl hlim hops HG
  go_wp2_with fail
  refine HC.out.mono ?_
  clear HC
  rintro e w4 ⟨cb, wb, rfl, h4⟩
  have H4 := Lib.hid h4
  clear h4
  go_wp2
  go_ret3
  exact ⟨H, jh, J, D, cb, wb, rfl, H4.out, HL.out, HLI.out, HOP.out⟩

set_option maxRecDepth 100000 in
theorem S_is5 {w0 : Gnd} {w : World} {rs : List Res} {H : Hdl} {jh : JHdl} {J : JSt} {cb wb : Nat} {op ov : Bool} {l : WrL} (h : St w0 w (cst cb jh.jb op ov wb :: wrt wb l :: jrn H jh J :: rs)) (a : Nat) {D : DSt} (hr : rs[a]? = some (dev H D)) {g m : Nat} {s : Nat → Blk} (hL : Live 325 g m J D s) (hg : g < 18446744073709551616) (hm : m < 18446744073709551615) (ho : D.ops < 1000000000) (h512 : ∀ p ∈ l, p.2.length = 512) (f : Nat → Int) :
    Calls Try.prog 65 #[.pointer (some ⟨cb, 0, none⟩), .agg (stC 80 f)] w fun e w' => e = .returned (.bool (isTo (cvw l s) f 80)) ∧ St w0 w' (cst cb jh.jb op ov wb :: wrt wb l :: jrn H jh J :: rs) := by
  have H0 := Lib.hid (show St w0 _ (cst cb jh.jb op ov wb :: wrt wb l :: jrn H jh J :: arr w.heap.size (stC 80 f) 95 neS5 :: rs) from (h.newArr (stC 80 f) 95 neS5).perm (List.perm_append_comm (l₁ := [_]) (l₂ := [_, _, _]) |>.append_right _))
  have HFIN : Hid (∀ W sb, St w0 W (cst cb jh.jb op ov wb :: wrt wb l :: jrn H jh J :: arr sb (stC 80 f) 95 neS5 :: rs) → St w0 W (cst cb jh.jb op ov wb :: wrt wb l :: jrn H jh J :: rs)) := Lib.hid fun W sb hW => hW.sub (List.Sublist.cons_cons _ (List.Sublist.cons_cons _ (List.Sublist.cons_cons _ (List.Sublist.cons _ (List.Sublist.refl _)))))
  have HR := Lib.hid hr
  have HL := Lib.hid hL
  have HG := Lib.hid (And.intro hg (And.intro hm ho))
  have H512 := Lib.hid h512
  clear h hr hL hg hm ho h512
  go_enter Try.func65, Try.ntmps65
  go_wp2_with fail
  generalize w.heap.size = sb at *
  go_loopw [5, 6, 7] (fun t _ _ wr => ∃ k : Nat, k ≤ 80 ∧ t = .int .i64 k ∧ isTo (cvw l s) f k = true ∧ St w0 wr (cst cb jh.jb op ov wb :: wrt wb l :: jrn H jh J :: arr sb (stC 80 f) 95 neS5 :: rs)) (fun t _ _ _ => 80 - (intOf t).toNat)
  case atStart => exact ⟨0, Nat.zero_le _, rfl, rfl, H0.out⟩
  case round =>
    clear H0
    obtain ⟨k, hk, rfl, hto, hst⟩ := hrel
    have HST := Lib.hid hst
    have HTO := Lib.hid hto
    clear hst hto
    by_cases hlt : k < 80
    · have hk0 : (0 : Int) ≤ (k : Int) := Int.natCast_nonneg _
      have hk1 : (k : Int) < 80 := by omega
      have HRD := Lib.hid (S_cRead HST.out (a + 1) HR.out (HL.out.ok HG.out.1 HG.out.2.1) HG.out.2.2 (245 + (k : Int)) (by omega) (by rw [HL.out.dn]; omega) (by rw [HL.out.dn]; omega) H512.out)
      have HV : Hid (cview l (jview J D) (245 + (k : Int)) = cvw l s (245 + k)) := Lib.hid (by
        unfold cview cvw
        rw [show (245 + (k : Int)).toNat = 245 + k from by omega, show (245 + (k : Int)) = ((245 + k : Nat) : Int) from by omega, HL.out.view (245 + k) (by omega) (by omega)])
      obtain ⟨b, hb⟩ : ∃ b, cvw l s (245 + k) = b := ⟨_, rfl⟩
      rw [hb] at HV
      have HBB := Lib.hid hb
      have HBL : Hid (b.length = 512) := Lib.hid (by
        rw [← hb]
        unfold cvw
        cases hl : look l ((245 + k : Nat) : Int) with
        | none =>
          show (s (245 + k)).length = 512
          rw [← HL.out.view (245 + k) (by omega) (by omega)]
          exact over_length _ _ _ _ (HL.out.ok HG.out.1 HG.out.2.1).b512 (fun k => DSt.last_length HL.out.wf k)
        | some b => exact H512.out _ (look_in hl))
      clear hb
      go_wp2_with fail
      refine HRD.out.mono ?_
      clear HRD
      rintro e w4 ⟨v, rfl, h4⟩
      rw [HV.out] at h4
      have H4 := Lib.hid h4
      have c1 : w4.cell? ⟨sb, k, none⟩ = some (.int .i64 (f k)) := (h4.arrCell (i := 4) rfl k).trans (stC_get 80 f k hlt)
      clear h4 HST
      go_wp2_with fail
      clear c1
      refine (S_Block H4.out (f k)).mono ?_
      rintro e w5 ⟨u, rfl, h5⟩
      have H5 := Lib.hid h5
      clear h5 H4
      go_wp2_with fail
      refine (S_Bytes H5.out 1 0 rfl rfl (by rw [HBL.out]; omega)).mono ?_
      rintro e w6 ⟨rfl, h6⟩
      have H6 := Lib.hid (h6.drop 2)
      clear h6 H5
      by_cases heq : (b == blockOf (f k)) = true
      · rw [heq]
        have HT2 : Hid (isTo (cvw l s) f (k + 1) = true) := Lib.hid (by
          show (isTo (cvw l s) f k && cvw l s (245 + k) == blockOf (f k)) = true
          rw [HTO.out, HBB.out, heq]; rfl)
        clear heq
        go_wp2
        first | exact ⟨⟨k + 1, hlt, by go_num, HT2.out, H6.out⟩, by simp [intOf]; omega⟩ | (go_roundw; case rel => first | exact ⟨k + 1, hlt, by go_num, HT2.out, H6.out⟩ | ((repeat apply Exists.intro); exact ⟨⟨k + 1, hlt, by go_num, HT2.out, H6.out⟩, rfl⟩); case measure => simp [intOf]; omega)
      · have heq : (b == blockOf (f k)) = false := by simpa using heq
        rw [heq]
        have HT2 : Hid (isTo (cvw l s) f 80 = false) := Lib.hid (isTo_stop (by rw [HBB.out]; exact heq) 80 hlt)
        clear heq
        go_wp2
        go_ret
        exact ⟨by rw [HT2.out]; rfl, HFIN.out _ _ H6.out⟩
    · have hk1 : ¬ (k : Int) < 80 := by omega
      have HT2 : Hid (isTo (cvw l s) f 80 = true) := Lib.hid (by have : k = 80 := by omega
                                                                 rw [← this]; exact HTO.out)
      go_wp2
      go_ret
      exact ⟨by rw [HT2.out]; rfl, HFIN.out _ _ HST.out⟩

set_option maxHeartbeats 1000000 in
set_option maxRecDepth 100000 in
theorem awake5_any {w0 : Gnd} {w : World} {rs : List Res} (h : St w0 w rs) : Calls Try.prog 56 #[] w fun e w' => e = .returned (.bool true) ∧ St w0 w' rs := by
  have HF := Lib.hid (S_fresh5 h)
  clear h
  go_enter Try.func56, Try.ntmps56
  go_wp2_with fail
  refine HF.out.mono ?_
  clear HF
  rintro e w1 ⟨H, jh, J, D, cb, wb, rfl, h1, hl, hlim, hops⟩
  have H1 := Lib.hid h1
  have HL := Lib.hid hl
  have HOP := Lib.hid hops
  clear h1 hl hlim hops
  go_wp2_with fail
  refine (S_cBegin H1.out).mono ?_
  rintro e w2 ⟨rfl, h2⟩
  have H2 := Lib.hid (show St w0 w2 (cst cb jh.jb true false wb :: wrt wb [] :: jrn H jh J :: dev H D :: rs) from h2)
  clear h2 H1
  go_wp2_with fail
  refine (S_Block H2.out 7).mono ?_
  rintro e w3 ⟨u, rfl, h3⟩
  have H3 := Lib.hid (show St w0 w3 (cst cb jh.jb true false wb :: wrt wb [] :: jrn H jh J :: byt u (blockOf 7) :: dev H D :: rs) from h3.perm (List.perm_append_comm (l₁ := [_]) (l₂ := [_, _, _]) |>.append_right _))
  clear h3 H2
  go_wp2_with fail
  refine (S_cWriteIn H3.out 1 0 rfl rfl (blockOf_length 7) (HL.out.ok (by omega) (by omega)) (by have := HOP.out; omega) 300 (by omega) (by rw [HL.out.dn]; decide) (by rw [HL.out.dn]; decide) (by simp) (fun _ h => by cases h)).mono ?_
  rintro e w4 (⟨_, rfl, h4⟩ | ⟨_, hx, _⟩)
  case inr => exact absurd hx (by simp)
  have H4 := Lib.hid (show St w0 w4 (cst cb jh.jb true false wb :: wrt wb (putW [] 300 (blockOf 7)) :: jrn H jh J :: dev H D :: rs) from h4.sub (List.Sublist.cons_cons _ (List.Sublist.cons_cons _ (List.Sublist.cons_cons _ (List.Sublist.cons _ (List.Sublist.refl _))))))
  clear h4 H3
  go_wp2_with fail
  refine (S_cOpen H4.out).mono ?_
  rintro e w5 ⟨rfl, rfl⟩
  go_wp2_with fail
  refine (S_cDirty H4.out).mono ?_
  rintro e w5 ⟨rfl, rfl⟩
  rw [show (putW [] 300 (blockOf 7)).length = 1 from rfl]
  go_wp2_with fail
  refine (S_cAbort H4.out).mono ?_
  rintro e w5 ⟨rfl, h5⟩
  have H5 := Lib.hid (show St w0 w5 (cst cb jh.jb false false wb :: wrt wb [] :: jrn H jh J :: dev H D :: rs) from h5)
  clear h5 H4
  have HRD := Lib.hid (S_cRead H5.out 0 rfl (HL.out.ok (by omega) (by omega)) (by have := HOP.out; omega) 300 (by omega) (by rw [HL.out.dn]; decide) (by rw [HL.out.dn]; decide) (fun _ h => by cases h))
  have HV : Hid (cview [] (jview J D) 300 = blockOf 0) := Lib.hid (by
    unfold cview
    exact (HL.out.view 300 (by omega) (by omega)).trans rfl)
  rw [HV.out] at HRD
  go_wp2_with fail
  refine HRD.out.mono ?_
  clear HRD HV H5
  rintro e w6 ⟨v6, rfl, h6⟩
  have H6 := Lib.hid h6
  clear h6
  go_wp2_with fail
  refine (S_Block H6.out 0).mono ?_
  rintro e w7 ⟨u7, rfl, h7⟩
  have H7 := Lib.hid h7
  clear h7 H6
  go_wp2_with fail
  refine (S_Bytes H7.out 1 0 rfl rfl (by rw [blockOf_length]; omega)).mono ?_
  rintro e w8 ⟨rfl, h8⟩
  rw [show (blockOf 0 == blockOf 0) = true from beq_self_eq_true _]
  have H8 := Lib.hid (show St w0 w8 (cst cb jh.jb false false wb :: wrt wb [] :: jrn H jh J :: dev H D :: rs) from h8.drop 2)
  clear h8 H7
  go_wp2_with fail
  refine (S_cCommitShut H8.out).mono ?_
  rintro e w9 ⟨rfl, h9⟩
  have H9 := Lib.hid h9
  clear h9 H8
  go_wp2
  go_ret
  exact ⟨rfl, H9.out.drop 4⟩

/-! ### A cache that is none -/

theorem cReadyN (w : World) : Calls Try.prog 98 #[.pointer none] w fun e w' => w = w' ∧ e = .returned (.bool false) := by
  go_enter Try.func98, Try.ntmps98
  go_wp2
  go_ret
  exact ⟨rfl, rfl⟩

theorem cOpenN (w : World) : Calls Try.prog 63 #[.pointer none] w fun e w' => w = w' ∧ e = .returned (.bool false) := by
  go_enter Try.func63, Try.ntmps63
  go_wp2
  go_ret
  exact ⟨rfl, rfl⟩

theorem cDirtyN (w : World) : Calls Try.prog 64 #[.pointer none] w fun e w' => w = w' ∧ e = .returned (.int .i64 0) := by
  go_enter Try.func64, Try.ntmps64
  go_wp2
  go_ret
  exact ⟨rfl, rfl⟩

theorem cReadN (w : World) (k : Int) : Calls Try.prog 66 #[.pointer none, .int .i64 k] w fun e w' => w = w' ∧ e = .returned (.tuple #[.slice none 0 0, .int .i64 1]) := by
  go_enter Try.func66, Try.ntmps66
  go_wp2_with fail
  refine (cReadyN w).mono ?_
  rintro e w2 ⟨rfl, rfl⟩
  go_wp2
  go_ret2
  exact ⟨rfl, rfl⟩

theorem cBeginN (w : World) : Calls Try.prog 58 #[.pointer none] w fun e w' => w = w' ∧ e = .returned (.int .i64 8) := by
  go_enter Try.func58, Try.ntmps58
  go_wp2_with fail
  refine (cReadyN w).mono ?_
  rintro e w2 ⟨rfl, rfl⟩
  go_wp2
  go_ret
  exact ⟨rfl, rfl⟩

theorem cWriteN (w : World) (k : Int) (v : Value) : Calls Try.prog 59 #[.pointer none, .int .i64 k, v] w fun e w' => w = w' ∧ e = .returned (.int .i64 8) := by
  go_enter Try.func59, Try.ntmps59
  go_wp2_with fail
  refine (cOpenN w).mono ?_
  rintro e w2 ⟨rfl, rfl⟩
  go_wp2
  go_ret
  exact ⟨rfl, rfl⟩

theorem cCommitN (w : World) : Calls Try.prog 61 #[.pointer none] w fun e w' => w = w' ∧ e = .returned (.int .i64 8) := by
  go_enter Try.func61, Try.ntmps61
  go_wp2_with fail
  refine (cOpenN w).mono ?_
  rintro e w2 ⟨rfl, rfl⟩
  go_wp2
  go_ret
  exact ⟨rfl, rfl⟩

theorem cAbortN (w : World) : Calls Try.prog 62 #[.pointer none] w fun e w' => w = w' ∧ e = .returned (.int .i64 8) := by
  go_enter Try.func62, Try.ntmps62
  go_wp2_with fail
  refine (cOpenN w).mono ?_
  rintro e w2 ⟨rfl, rfl⟩
  go_wp2
  go_ret
  exact ⟨rfl, rfl⟩

set_option maxRecDepth 100000 in
theorem cacheNothing_any (w : World) (k : Int) (a : Option Addr) (n c : Nat) :
    Calls Try.prog 23 #[.int .i64 k, .slice a n c] w fun e w' => e = .returned (.bool true) ∧ Frm NoB w w' := by
  go_enter Try.func23, Try.ntmps23
  go_wp2_with fail
  refine (cReadN _ _).mono ?_
  rintro e w2 ⟨rfl, rfl⟩
  go_wp2_with fail
  refine (cBeginN _).mono ?_
  rintro e w2 ⟨rfl, rfl⟩
  go_wp2_with fail
  refine (cWriteN _ _ _).mono ?_
  rintro e w2 ⟨rfl, rfl⟩
  go_wp2_with fail
  refine (cCommitN _).mono ?_
  rintro e w2 ⟨rfl, rfl⟩
  go_wp2_with fail
  refine (cAbortN _).mono ?_
  rintro e w2 ⟨rfl, rfl⟩
  go_wp2_with fail
  refine (cDirtyN _).mono ?_
  rintro e w2 ⟨rfl, rfl⟩
  go_wp2_with fail
  refine (cOpenN _).mono ?_
  rintro e w2 ⟨rfl, rfl⟩
  go_wp2_with fail
  refine (awake5_any (St.start w)).mono ?_
  rintro e w5 ⟨rfl, h5⟩
  have HF5 := Lib.hid h5.base
  clear h5
  go_wp2
  go_ret
  exact ⟨rfl, HF5.out⟩
end Go.Proofs.Ytkanfpmmgaipnaa
