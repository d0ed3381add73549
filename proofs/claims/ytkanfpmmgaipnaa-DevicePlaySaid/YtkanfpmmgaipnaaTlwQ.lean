/-
  bollardlaw3: does.
-/
import Derived.Test.YtkanfpmmgaipnaaTlwP
namespace Go.Proofs.Ytkanfpmmgaipnaa
set_option linter.unusedVariables false
set_option linter.unusedSimpArgs false
open Go.ChangeMaps Go.MapKept Go.RowKit

theorem neSt3 : ¬ U8T (56 : TypeId) := by decide

def nts (y : Nat) : Blk := List.replicate y 0
theorem nts_length (y : Nat) : (nts y).length = y := by simp [nts]

theorem nts_at (w : World) (y : Nat) : BytesAt (w.alloc (.cells (madeCells #[.int .u8 0] y) 5 (0, 0))) (.slice (some ⟨w.heap.size, 0, none⟩) y y) (nts y) (Fresh w) := by
  refine ⟨w.heap.size, 0, y, madeCells #[.int .u8 0] y, by rw [nts_length], by rw [nts_length]; exact Nat.le_refl _, IsC.of8 (block_alloc_new _ _), fun i hi => ?_, Nat.le_refl _⟩
  rw [nts_length] at hi
  rw [Nat.zero_add, ← Array.getElem?_toList, madeCells_one, List.getElem?_replicate, if_pos hi]
  unfold nts
  rw [List.getD_eq_getElem?_getD, List.getElem?_replicate, if_pos hi]
  rfl

theorem run_makeN (y : Nat) (hy : y ≤ 600) (W : World) : (Instr.makeSlice 31 (.int .i64 (y : Int)) (.int .i64 (y : Int))).run Try.prog W = .ok (.slice (some ⟨W.heap.size, 0, none⟩) y y) (W.alloc (.cells (madeCells #[.int .u8 0] y) 5 (0, 0))) := by
  obtain ⟨i0, hi0, hz0, hz1, hz2⟩ := info_parts infoU8
  have := run_make (P := Try.prog) W 31 5 i0 _ Try.underlying31 hi0 hz0 .i64 .i64 y y (by omega) (by omega) (by rw [hz2]; omega) (by omega)
  rw [hz1, Nat.mul_one, Int.toNat_natCast] at this
  exact this

/-- Both devices, as one state. -/
def Two (w0 : Gnd) (w : World) (H : Hdl) (rb : Nat) (D : DSt) (rs : List Res) : Prop :=
  ∃ bv pv ds ps last, St w0 w (dev H D :: (refL rb bv pv ds ps (D.ops : Int) last ++ rs)) ∧ RefOk D ds ps last

def Does3 (w0 : Gnd) (D : DSt) (rs : List Res) (e : Ending) (w' : World) : Prop :=
  ∃ H' rb', e = .returned (.tuple #[.pointer (some ⟨Hdl.b H', 0, none⟩), .pointer (some ⟨rb', 0, none⟩), .bool true]) ∧ Two w0 w' H' rb' D rs

theorem RefOk.cut {D : DSt} {ds : List Blk} {ps : List (Value × List Blk)} {last : Int} (h : RefOk D ds ps last) (n : Int) : RefOk (D.cut n) ds ps ((D.ops : Int) + min (max n 0) 1152921504606846976) :=
  ⟨h.nb, h.np, h.base, h.pend, LastOk.cut D n (by have := h.ops; omega), h.n40, h.ops⟩

section
variable {w0 : Gnd} {w : World} {rs : List Res}

set_option maxRecDepth 100000 in
set_option maxHeartbeats 4000000 in
theorem does3_any {H : Hdl} {rb : Nat} {D : DSt} (h : Two w0 w H rb D rs) (hD : D.Wf) (ho : D.ops + 1 ≤ 1000) (p : Ply) (hp : PlyOk p) (u : Value) (hu : ∀ y, Frm NoB w0.w y → Elems y u (p.2.2.2.map IntK)) :
    Calls Try.prog 43 #[.pointer (some ⟨H.b, 0, none⟩), .pointer (some ⟨rb, 0, none⟩), .agg #[.int .i64 p.1, .int .i64 p.2.1, .int .i64 p.2.2.1, u]] w fun e w' => Does3 w0 (stepD D p) rs e w' := by
  obtain ⟨bv, pv, ds, ps, last, h, hR⟩ := h
  obtain ⟨kd, A, B, pk⟩ := p
  obtain ⟨hok1, hok2, hok3, hpk, hpl⟩ := hp
  simp only at hok1 hok2 hok3 hpk hpl hu
  obtain ⟨ua, uc, rfl, -⟩ := hu w h.base
  rw [List.length_map] at hu ⊢
  have HU := Lib.hid hu
  have HD := Lib.hid hD
  have HR := Lib.hid hR
  have HPK := Lib.hid hpk
  have HPL := Lib.hid hpl
  have HOK2 := Lib.hid hok2
  have HOK1 := (okI_iff kd).1 hok1
  have HA := Lib.hid (h.newArr #[.int .i64 kd, .int .i64 A, .int .i64 B, .slice ua pk.length uc] 56 neSt3)
  have H0 := Lib.hid h
  obtain ⟨hok10, hok11⟩ := HOK1
  clear h hR hD hu hpk hpl hok1 hok2 hok3
  go_enter Try.func43, Try.ntmps43
  by_cases k1 : kd = 1
  · subst k1
    have ES : Hid (stepD D (1, A, B, pk) = D.write A (blockOf B)) := Lib.hid rfl
    have KS : Hid (∀ y i X bx, St w0 y X → X[i]? = some (arr bx #[.int .i64 1, .int .i64 A, .int .i64 B, .slice ua pk.length uc] 56 neSt3) → y.cell? ⟨bx, 1, none⟩ = some (.int .i64 A) ∧ y.cell? ⟨bx, 2, none⟩ = some (.int .i64 B)) := Lib.hid fun y i X bx hy hi => ⟨(hy.arrCell hi 1).trans rfl, (hy.arrCell hi 2).trans rfl⟩
    go_upto_region 3 with (fail)
    obtain ⟨y1, hy1⟩ : ∃ y, y = w.alloc (.cells #[.int .i64 1, .int .i64 A, .int .i64 B, .slice ua pk.length uc] 56 (0, 0)) := ⟨_, rfl⟩
    rw [← hy1] at HA ⊢
    clear hy1
    generalize w.heap.size = bx at *
    obtain ⟨c1, c2⟩ := KS.out _ 0 _ bx HA.out rfl
    go_region_held3 (fun y => y.cell? ⟨bx, 1, none⟩ = some (.int .i64 A) ∧ y.cell? ⟨bx, 2, none⟩ = some (.int .i64 B))
      (first | exact KS.out _ 2 _ _ h6 rfl | exact KS.out _ 2 _ _ h5 rfl | exact KS.out _ 1 _ _ h3 rfl | exact KS.out _ 1 _ _ h2 rfl | exact KS.out _ 0 _ _ (HA.out.frm0 (Frm.refl NoB y1).drew) rfl)
      (first
        | (go_at_call 79; (with_reducible refine (S_rWrite (St.flip (A := [byt v5 (blockOf B), byt v2 (blockOf B), arr bx #[.int .i64 1, .int .i64 A, .int .i64 B, .slice ua pk.length uc] 56 neSt3, dev H (D.write A (blockOf B))]) h5) HD.out HR.out ho (i := 0) rfl A HOK2.out (by rw [blockOf_length]; omega)).mono ?_); rintro e w6 ⟨rfl, ps6, h6', hr6⟩; have h6 := St.flip (B := [byt v5 (blockOf B), byt v2 (blockOf B), arr bx #[.int .i64 1, .int .i64 A, .int .i64 B, .slice ua pk.length uc] 56 neSt3, dev H (D.write A (blockOf B))]) h6')
        | (go_at_call 32; (with_reducible refine (S_Block h3 B).mono ?_); rintro e w5 ⟨v5, rfl, h5⟩)
        | (go_at_call 31; (with_reducible refine (S_dWrite h2 2 0 rfl rfl A (by omega) (by rw [blockOf_length]; omega)).mono ?_); rintro e w3 ⟨rfl, h3⟩)
        | (go_at_call 32; (with_reducible refine (S_Block (HA.out.frm0 (Frm.refl NoB y1).drew) B).mono ?_); rintro e w2 ⟨v2, rfl, h2⟩))
    have HF : Hid (Two w0 w6 H rb (D.write A (blockOf B)) rs) := Lib.hid ⟨_, _, _, _, _, h6.drop 3, hr6⟩
    clear h6' h6 hr6 h5 h3 h2 KS c1 c2 HA H0
    go_wp2
    go_ret3
    exact ⟨H, rb, rfl, by rw [ES.out]; exact HF.out⟩
  have b1 : (kd == 1) = false := by simpa using k1
  by_cases k2 : kd = 2
  · subst k2
    have ES : Hid (stepD D (2, A, B, pk) = D.flush) := Lib.hid rfl
    go_upto_region 5 with (fail)
    obtain ⟨y1, hy1⟩ : ∃ y, y = w.alloc (.cells #[.int .i64 2, .int .i64 A, .int .i64 B, .slice ua pk.length uc] 56 (0, 0)) := ⟨_, rfl⟩
    rw [← hy1] at HA ⊢
    clear hy1
    generalize w.heap.size = bx at *
    have HS := Lib.hid (S_dFlush HA.out 1 rfl (by omega))
    go_wp2_with fail
    refine HS.out.mono ?_
    rintro e w3 ⟨rfl, h3⟩
    have HS2 := Lib.hid (S_rFlush (St.flip (A := [arr bx #[.int .i64 2, .int .i64 A, .int .i64 B, .slice ua pk.length uc] 56 neSt3, dev H D.flush]) h3) HD.out HR.out ho)
    clear HS h3
    go_wp2_with fail
    refine HS2.out.mono ?_
    rintro e w4 ⟨rfl, ds4, ps4, h4, hr4⟩
    have HF : Hid (Two w0 w4 H rb D.flush rs) := Lib.hid ⟨_, _, _, _, _, (St.flip (B := [arr bx #[.int .i64 2, .int .i64 A, .int .i64 B, .slice ua pk.length uc] 56 neSt3, dev H D.flush]) h4).drop 1, hr4⟩
    clear h4 hr4 HS2
    go_wp2
    go_ret3
    exact ⟨H, rb, rfl, by rw [ES.out]; exact HF.out⟩
  have b2 : (kd == 2) = false := by simpa using k2
  by_cases k3 : kd = 3
  · subst k3
    have ES : Hid (stepD D (3, A, B, pk) = D.cut A) := Lib.hid rfl
    go_upto_region 7 with (fail)
    obtain ⟨y1, hy1⟩ : ∃ y, y = w.alloc (.cells #[.int .i64 3, .int .i64 A, .int .i64 B, .slice ua pk.length uc] 56 (0, 0)) := ⟨_, rfl⟩
    rw [← hy1] at HA ⊢
    clear hy1
    generalize w.heap.size = bx at *
    have c1 : y1.cell? ⟨bx, 1, none⟩ = some (.int .i64 A) := (HA.out.arrCell (i := 0) rfl 1).trans rfl
    have HS := Lib.hid (S_Cut HA.out 1 rfl A HOK2.out)
    go_wp2_with fail
    refine HS.out.mono ?_
    rintro e w3 ⟨rfl, h3⟩
    have c1 : w3.cell? ⟨bx, 1, none⟩ = some (.int .i64 A) := (h3.arrCell (i := 0) rfl 1).trans rfl
    have HS2 := Lib.hid (S_rCut (rs := bsR bv ds :: rowR 124 neBb 1 pv ps.length (ps.map (·.1)) :: (pnL ps ++ ([arr bx #[.int .i64 3, .int .i64 A, .int .i64 B, .slice ua pk.length uc] 56 neSt3, dev H (D.cut A)] ++ rs))) (St.flip (A := [arr bx #[.int .i64 3, .int .i64 A, .int .i64 B, .slice ua pk.length uc] 56 neSt3, dev H (D.cut A)]) (B := refL rb bv pv ds ps (D.ops : Int) last) h3) ⟨by omega, by omega⟩ A HOK2.out)
    clear HS h3
    go_wp2_with fail
    refine HS2.out.mono ?_
    rintro e w4 ⟨rfl, h4⟩
    have HF : Hid (Two w0 w4 H rb (D.cut A) rs) := Lib.hid ⟨bv, pv, ds, ps, _, (St.flip (A := refL rb bv pv ds ps (D.ops : Int) ((D.ops : Int) + min (max A 0) 1152921504606846976)) (B := [arr bx #[.int .i64 3, .int .i64 A, .int .i64 B, .slice ua pk.length uc] 56 neSt3, dev H (D.cut A)]) h4).drop 1, HR.out.cut A⟩
    clear h4 HS2
    go_wp2
    go_ret3
    exact ⟨H, rb, rfl, by rw [ES.out]; exact HF.out⟩
  have b3 : (kd == 3) = false := by simpa using k3
  by_cases k4 : kd = 4
  · subst k4
    have ES : Hid (stepD D (4, A, B, pk) = D.crash pk) := Lib.hid rfl
    have KS : Hid (∀ y i X bx, St w0 y X → X[i]? = some (arr bx #[.int .i64 4, .int .i64 A, .int .i64 B, .slice ua pk.length uc] 56 neSt3) → y.cell? ⟨bx, 3, none⟩ = some (.slice ua pk.length uc)) := Lib.hid fun y i X bx hy hi => (hy.arrCell hi 3).trans rfl
    have HP63 : Hid (pk.length ≤ 9223372036854775807) := Lib.hid (by have := HPL.out; unfold maxLen at this; omega)
    go_upto_region 10 with (fail)
    obtain ⟨y1, hy1⟩ : ∃ y, y = w.alloc (.cells #[.int .i64 4, .int .i64 A, .int .i64 B, .slice ua pk.length uc] 56 (0, 0)) := ⟨_, rfl⟩
    rw [← hy1] at HA ⊢
    clear hy1
    generalize w.heap.size = bx at *
    have c1 := KS.out _ 0 _ bx HA.out rfl
    go_region_held3 (fun y => y.cell? ⟨bx, 3, none⟩ = some (.slice ua pk.length uc))
      (first | exact KS.out _ 1 _ _ h6 rfl | exact KS.out _ 1 _ _ h3 rfl | exact KS.out _ 0 _ _ (HA.out.frm0 (Frm.refl NoB y1).drew) rfl)
      (first
        | (go_at_call 82; (with_reducible refine (S_rCrash (St.flip (A := [dev H3 (D.crash pk), arr bx #[.int .i64 4, .int .i64 A, .int .i64 B, .slice ua pk.length uc] 56 neSt3, dev H D]) h3) HD.out HR.out (.slice ua pk.length uc) pk HU.out HPK.out HPL.out).mono ?_); rintro e w6 ⟨rb6, bv6, pv6, ds6, ps6, rfl, h6', hr6⟩; have h6 := (St.flip (B := [dev H3 (D.crash pk), arr bx #[.int .i64 4, .int .i64 A, .int .i64 B, .slice ua pk.length uc] 56 neSt3, dev H D]) (h6'.sub ((List.Sublist.refl _).append (List.sublist_append_right _ _)))))
        | (go_at_call 34; (with_reducible refine (S_Crash (HA.out.frm0 (Frm.refl NoB y1).drew) 1 rfl (by omega) (.slice ua pk.length uc) pk (HU.out _ (HA.out.frm0 (Frm.refl NoB y1).drew).base) HPK.out HP63.out).mono ?_); rintro e w3 ⟨H3, rfl, h3⟩))
    have HF : Hid (Two w0 w6 H3 rb6 (D.crash pk) rs) := Lib.hid ⟨_, _, _, _, _, h6.sub (List.Sublist.cons_cons _ (List.Sublist.cons _ (List.Sublist.cons _ (List.Sublist.refl _)))), hr6⟩
    clear h6' h6 hr6 h3 KS c1 HA H0
    go_wp2
    go_ret3
    exact ⟨H3, rb6, rfl, by rw [ES.out]; exact HF.out⟩
  have b4 : (kd == 4) = false := by simpa using k4
  by_cases k5 : kd = 5
  · subst k5
    have ES : Hid (stepD D (5, A, B, pk) = D) := Lib.hid rfl
    go_upto_region 12 with (fail)
    obtain ⟨y1, hy1⟩ : ∃ y, y = w.alloc (.cells #[.int .i64 5, .int .i64 A, .int .i64 B, .slice ua pk.length uc] 56 (0, 0)) := ⟨_, rfl⟩
    rw [← hy1] at HA ⊢
    clear hy1
    generalize w.heap.size = bx at *
    have HS := Lib.hid (S_Copy HA.out 1 rfl)
    go_wp2_with fail
    refine HS.out.mono ?_
    rintro e w3 ⟨H3, rfl, h3⟩
    have HS2 := Lib.hid (S_rCopy (St.flip (A := [dev H3 D, arr bx #[.int .i64 5, .int .i64 A, .int .i64 B, .slice ua pk.length uc] 56 neSt3, dev H D]) h3) HD.out HR.out)
    clear HS h3
    go_wp2_with fail
    refine HS2.out.mono ?_
    rintro e w6 ⟨rb6, bv6, pv6, ds6, ps6, rfl, h6', hr6⟩
    have h6 := (St.flip (B := [dev H3 D, arr bx #[.int .i64 5, .int .i64 A, .int .i64 B, .slice ua pk.length uc] 56 neSt3, dev H D]) (h6'.sub ((List.Sublist.refl _).append (List.sublist_append_right _ _))))
    have HF : Hid (Two w0 w6 H3 rb6 D rs) := Lib.hid ⟨_, _, _, _, _, h6.sub (List.Sublist.cons_cons _ (List.Sublist.cons _ (List.Sublist.cons _ (List.Sublist.refl _)))), hr6⟩
    clear h6' h6 hr6 HS2
    go_wp2
    go_ret3
    exact ⟨H3, rb6, rfl, by rw [ES.out]; exact HF.out⟩
  have b5 : (kd == 5) = false := by simpa using k5
  by_cases k6 : kd = 6
  · subst k6
    obtain ⟨q, hq⟩ : ∃ q : Nat, A % 600 = (q : Int) := ⟨(A % 600).toNat, by omega⟩
    have hq6 : q ≤ 600 := by omega
    have hq0 : (0 : Int) ≤ (q : Int) := Int.natCast_nonneg _
    have ES : Hid (stepD D (6, A, B, pk) = D.write 0 (nts q)) := Lib.hid (by show D.write 0 (List.replicate (A % 600).toNat 0) = _; rw [hq]; rfl)
    have HQ := Lib.hid hq
    have HQ6 := Lib.hid hq6
    clear hq
    go_upto_region 14 with (fail)
    obtain ⟨y1, hy1⟩ : ∃ y, y = w.alloc (.cells #[.int .i64 6, .int .i64 A, .int .i64 B, .slice ua pk.length uc] 56 (0, 0)) := ⟨_, rfl⟩
    rw [← hy1] at HA ⊢
    clear hy1
    generalize w.heap.size = bx at *
    have c1 : y1.cell? ⟨bx, 1, none⟩ = some (.int .i64 A) := (HA.out.arrCell (i := 0) rfl 1).trans rfl
    go_wp2_with fail
    refine (Round_any _ A 600 HOK2.out (by omega) (by omega)).mono ?_
    rintro e w2 ⟨rfl, rfl⟩
    rw [HQ.out]
    have hmk := run_makeN q hq6
    have H2 := Lib.hid (HA.out.mkByt ((Frm.refl NoB y1).alloc _) (nts_at y1 q))
    go_upto_region 15 with (fail)
    obtain ⟨y2, hy2⟩ : ∃ y, y = y1.alloc (.cells (madeCells #[.int .u8 0] q) 5 (0, 0)) := ⟨_, rfl⟩
    rw [← hy2] at H2 ⊢
    clear hy2 hmk c1
    generalize y1.heap.size = mb at *
    have HS := Lib.hid (S_dWrite H2.out 2 0 rfl rfl 0 (by omega) (by rw [nts_length]; omega))
    go_wp2_with fail
    refine HS.out.mono ?_
    rintro e w3 ⟨rfl, h3⟩
    have HS2 := Lib.hid (S_rWrite (St.flip (A := [byt (.slice (some ⟨mb, 0, none⟩) q q) (nts q), arr bx #[.int .i64 6, .int .i64 A, .int .i64 B, .slice ua pk.length uc] 56 neSt3, dev H (D.write 0 (nts q))]) h3) HD.out HR.out ho (i := 0) rfl 0 ((okI_iff 0).2 (by omega)) (by rw [nts_length]; omega))
    clear HS h3
    go_wp2_with fail
    refine HS2.out.mono ?_
    rintro e w6 ⟨rfl, ps6, h6', hr6⟩
    have h6 := St.flip (B := [byt (.slice (some ⟨mb, 0, none⟩) q q) (nts q), arr bx #[.int .i64 6, .int .i64 A, .int .i64 B, .slice ua pk.length uc] 56 neSt3, dev H (D.write 0 (nts q))]) h6'
    have HF : Hid (Two w0 w6 H rb (D.write 0 (nts q)) rs) := Lib.hid ⟨_, _, _, _, _, h6.drop 2, hr6⟩
    clear h6' h6 hr6 HS2
    go_wp2
    go_ret3
    exact ⟨H, rb, rfl, by rw [ES.out]; exact HF.out⟩
  have b6 : (kd == 6) = false := by simpa using k6
  have ES : Hid (stepD D (kd, A, B, pk) = D) := Lib.hid (by unfold stepD; rw [if_neg k1, if_neg k2, if_neg k3, if_neg k4, if_neg k5, if_neg k6])
  have HF : Hid (Two w0 (w.alloc (.cells #[.int .i64 kd, .int .i64 A, .int .i64 B, .slice ua pk.length uc] 56 (0, 0))) H rb D rs) := Lib.hid ⟨_, _, _, _, _, HA.out.drop 1, HR.out⟩
  go_wp2
  go_ret3
  exact ⟨H, rb, rfl, by rw [ES.out]; exact HF.out⟩
end
end Go.Proofs.Ytkanfpmmgaipnaa
