/-
  DeviceCuts, walked.
-/
import Derived.Test.YtkanfpmmgaipnaaLawA
namespace Go.Proofs.Ytkanfpmmgaipnaa
set_option linter.unusedVariables false
open Go.ChangeMaps Go.MapKept Go.RowKit

/-- Two devices behind i rounds: the first is cut behind n ops, the second was written to as long as the first took writes. -/
structure Twin (n : Int) (i : Nat) (A B : DSt) : Prop where
  n0 : 0 ≤ n
  na : A.n = 9
  nb : B.n = 9
  oa : A.ops = i
  ob : B.ops ≤ i
  lb : B.lim = none
  la : A.lim = some (n.toNat - i)
  last : ∀ k, A.last k = B.last k

theorem Twin.on {n : Int} {i : Nat} {A B : DSt} (h : Twin n i A B) (hi : (i : Int) < n) : A.off = false := by
  unfold DSt.off; rw [h.la]; exact beq_eq_false_iff_ne.2 (fun e => by injection e; omega)
theorem Twin.isOff {n : Int} {i : Nat} {A B : DSt} (h : Twin n i A B) (hi : n ≤ (i : Int)) : A.off = true := by
  unfold DSt.off; rw [h.la]; exact beq_iff_eq.2 (congrArg some (by omega))
theorem Twin.both {n : Int} {i : Nat} {A B : DSt} (h : Twin n i A B) (hi : (i : Int) < n) (k : Nat) (b : Blk) : Twin n (i + 1) (A.op.put k b) (B.op.put k b) := by
  refine ⟨h.n0, h.na, h.nb, congrArg (· + 1) h.oa, Nat.succ_le_succ h.ob, ?_, ?_, fun j => ?_⟩
  · show B.lim.map (· - 1) = none
    rw [h.lb]; rfl
  · show A.lim.map (· - 1) = some (n.toNat - (i + 1))
    rw [h.la]; rfl
  · by_cases e : j = k
    · subst e; rw [last_put_same, last_put_same]
    · rw [last_put_other _ _ e, last_put_other _ _ e]; exact h.last j
theorem Twin.one {n : Int} {i : Nat} {A B : DSt} (h : Twin n i A B) (hi : n ≤ (i : Int)) : Twin n (i + 1) A.op B := by
  refine ⟨h.n0, h.na, h.nb, congrArg (· + 1) h.oa, Nat.le_succ_of_le h.ob, h.lb, ?_, h.last⟩
  show A.lim.map (· - 1) = some (n.toNat - (i + 1))
  rw [h.la]; rfl
theorem Twin.start {n : Int} (h : 0 ≤ n) : Twin n 0 ((DSt.new 9).cut n) (DSt.new 9) := ⟨h, rfl, rfl, rfl, Nat.le_refl _, rfl, rfl, fun _ => rfl⟩

set_option maxRecDepth 100000 in
theorem cuts_any (w : World) (u : Value) (l : List Int) (n : Int) (hu : Elems w u (l.map IntK)) (hl : ∀ x ∈ l, okI x) (hn : okI n) :
    Calls Try.prog 7 #[u, .int .i64 n] w fun e w' => e = .returned (.bool true) ∧ Frm NoB w w' := by
  have H0 := Lib.hid (St.start w)
  obtain ⟨a, cap, rfl, ha⟩ := hu
  have HA := Lib.hid ha
  have HL := Lib.hid hl
  have HN := Lib.hid hn
  rw [List.length_map] at *
  clear ha hl hn
  by_cases hbig : 60 < l.length ∨ n < 0 ∨ 100 < n
  · have HW := Lib.hid (awake3_any H0.out)
    by_cases h1 : 60 < l.length
    · have h1' : (60 : Int) < (l.length : Int) := by omega
      clear hbig
      go_enter Try.func7, Try.ntmps7
      go_wp2_with (go_at_call 28; refine HW.out.mono ?_; rintro e w2 ⟨rfl, h⟩)
      go_ret
      exact ⟨rfl, h.base⟩
    · have h1' : ¬ (60 : Int) < (l.length : Int) := by omega
      by_cases h2 : n < 0
      · clear hbig
        go_enter Try.func7, Try.ntmps7
        go_wp2_with (go_at_call 28; refine HW.out.mono ?_; rintro e w2 ⟨rfl, h⟩)
        go_ret
        exact ⟨rfl, h.base⟩
      · have h3 : (100 : Int) < n := by omega
        clear hbig
        go_enter Try.func7, Try.ntmps7
        go_wp2_with (go_at_call 28; refine HW.out.mono ?_; rintro e w2 ⟨rfl, h⟩)
        go_ret
        exact ⟨rfl, h.base⟩
  · have h1' : ¬ (60 : Int) < (l.length : Int) := by omega
    have h1 : l.length ≤ 60 := by omega
    have h2 : ¬ n < 0 := by omega
    have h3 : ¬ (100 : Int) < n := by omega
    clear hbig
    go_enter Try.func7, Try.ntmps7
    go_wp2_with fail
    refine (S_New H0.out 9 (by omega) (by omega)).mono ?_
    rintro e w1 ⟨da, rfl, h⟩
    have H1 := Lib.hid h
    clear h H0
    go_wp2_with fail
    refine (S_New H1.out 9 (by omega) (by omega)).mono ?_
    rintro e w2 ⟨db, rfl, h⟩
    have H2 := Lib.hid h
    clear h H1
    go_wp2_with fail
    refine (S_Cut H2.out 1 rfl n HN.out).mono ?_
    rintro e w3 ⟨rfl, h⟩
    have H3 := Lib.hid (show St w w3 [dev db (DSt.new 9), dev da ((DSt.new 9).cut n)] from h)
    have HT0 := Lib.hid (Twin.start (n := n) (by omega))
    clear h H2
    go_wp2_with fail
    go_loopw [9, 10, 11] (fun t _ _ wr => ∃ i : Nat, i ≤ l.length ∧ t = .int .i64 i ∧ ∃ DA DB, Twin n i DA DB ∧ St w wr [dev db DB, dev da DA]) (fun t _ _ _ => l.length - (intOf t).toNat)
    case atStart => exact ⟨0, Nat.zero_le _, rfl, _, _, HT0.out, H3.out⟩
    case round =>
      clear H3 HT0
      obtain ⟨i, hi, rfl, DA, DB, ht, hst⟩ := hrel
      have HST := Lib.hid hst
      have HT := Lib.hid ht
      clear hst ht
      by_cases hlt : i < l.length
      · obtain ⟨x, hx⟩ : ∃ x, l[i]? = some x := ⟨_, List.getElem?_eq_getElem hlt⟩
        obtain ⟨blk, off, rfl, hb, hcell⟩ := HA.out i (IntK x) (by rw [List.getElem?_map, hx]; rfl)
        have hcell' : wr.cell? ⟨blk, off + i, none⟩ = some (.int .i64 x) := by
          rw [← hcell]; exact HST.out.base.cell hb (fun e => e)
        have hokx : okI x := HL.out x (List.mem_of_getElem? hx)
        have hx0 := Int.emod_nonneg x (by omega : (9 : Int) ≠ 0)
        have hx1 := Int.emod_lt_of_pos x (by omega : (0 : Int) < 9)
        obtain ⟨k, hk⟩ : ∃ k : Nat, x % 9 = (k : Int) := ⟨(x % 9).toNat, by omega⟩
        have hk6 : (k : Int) < 9 := by omega
        have hk0 : (0 : Int) ≤ (k : Int) := by omega
        have HR : Hid (∀ W, Calls Try.prog 30 #[.int .i64 x, .int .i64 9] W fun e w' => W = w' ∧ e = .returned (.int .i64 k)) := Lib.hid fun W => by
          rw [← hk]; exact Round_any W x 9 hokx (by omega) (by omega)
        have hi0 : (0 : Int) ≤ (i : Int) := Int.natCast_nonneg _
        have hi1 : (i : Int) < (l.length : Int) := by omega
        clear hk hx hcell hx0 hx1 hb
        by_cases hin : (i : Int) < n
        · have HOFF : Hid (DA.off = false) := Lib.hid (HT.out.on hin)
          have HT2 := Lib.hid (HT.out.both hin k (blockOf i))
          have hin2 : ¬ n ≤ (i : Int) := by omega
          go_wp2_with fail
          refine (HR.out _).mono ?_
          rintro e w2 ⟨rfl, rfl⟩
          go_wp2_with fail
          refine (S_Block HST.out (i : Int)).mono ?_
          rintro e w2 ⟨v1, rfl, h⟩
          have H2 := Lib.hid h
          clear h
          go_wp2_with fail
          refine (S_Write H2.out 2 0 rfl rfl (k : Int) (by rw [HT.out.oa]; omega) HOFF.out hk0 (by rw [HT.out.na]; exact hk6) (blockOf_length _)).mono ?_
          rintro e w3 ⟨rfl, h⟩
          have H3 := Lib.hid (h.drop 1)
          clear h H2
          go_wp2_with fail
          refine (S_Block H3.out (i : Int)).mono ?_
          rintro e w4 ⟨v2, rfl, h⟩
          have H4 := Lib.hid h
          clear h H3
          go_wp2_with fail
          refine (S_Write H4.out 1 0 rfl rfl (k : Int) (by have := HT.out.ob; omega) (off_of_lim HT.out.lb) hk0 (by rw [HT.out.nb]; exact hk6) (blockOf_length _)).mono ?_
          rintro e w5 ⟨rfl, h⟩
          have H5 := Lib.hid (h.drop 1)
          clear h H4
          go_wp2
          first | exact ⟨⟨i + 1, hlt, by go_num, _, _, HT2.out, H5.out⟩, by simp [intOf]; omega⟩ | (go_roundw; case rel => first | exact ⟨i + 1, hlt, by go_num, _, _, HT2.out, H5.out⟩ | ((repeat apply Exists.intro); exact ⟨⟨i + 1, hlt, by go_num, _, _, HT2.out, H5.out⟩, rfl⟩); case measure => simp [intOf]; omega)
        · have HOFF : Hid (DA.off = true) := Lib.hid (HT.out.isOff (by omega))
          have HT2 := Lib.hid (HT.out.one (by omega))
          have hin2 : n ≤ (i : Int) := by omega
          go_wp2_with fail
          refine (HR.out _).mono ?_
          rintro e w2 ⟨rfl, rfl⟩
          go_wp2_with fail
          refine (S_Block HST.out (i : Int)).mono ?_
          rintro e w2 ⟨v1, rfl, h⟩
          have H2 := Lib.hid h
          clear h
          go_wp2_with fail
          refine (S_WriteOff H2.out 2 rfl (k : Int) v1 (by rw [HT.out.oa]; omega) HOFF.out).mono ?_
          rintro e w3 ⟨rfl, h⟩
          have H3 := Lib.hid (h.drop 1)
          clear h H2
          go_wp2
          first | exact ⟨⟨i + 1, hlt, by go_num, _, _, HT2.out, H3.out⟩, by simp [intOf]; omega⟩ | (go_roundw; case rel => first | exact ⟨i + 1, hlt, by go_num, _, _, HT2.out, H3.out⟩ | ((repeat apply Exists.intro); exact ⟨⟨i + 1, hlt, by go_num, _, _, HT2.out, H3.out⟩, rfl⟩); case measure => simp [intOf]; omega)
      · have hlt' : ¬ (i : Int) < (l.length : Int) := by omega
        obtain rfl : i = l.length := by omega
        go_wp2_with fail
        go_loopw [12, 13, 14, 15, 16] (fun t _ _ _ _ wr => ∃ j : Nat, j ≤ 9 ∧ t = .int .i64 j ∧ St w wr [dev db DB, dev da DA]) (fun t _ _ _ _ _ => 9 - (intOf t).toNat)
        case atStart => exact ⟨0, Nat.zero_le _, rfl, HST.out⟩
        case round =>
          clear HST
          obtain ⟨j, hj, rfl, hst⟩ := hrel
          have HST := Lib.hid hst
          clear hst
          by_cases hlt2 : j < 9
          · have hj0 : (0 : Int) ≤ (j : Int) := Int.natCast_nonneg _
            have hj1 : (j : Int) < 9 := by omega
            go_wp2_with fail
            refine (S_Read HST.out 1 rfl (j : Int) hj0 (by rw [HT.out.na]; exact hj1) (by rw [HT.out.oa]; omega)).mono ?_
            rintro e w10 ⟨v10, rfl, h⟩
            have H10 := Lib.hid h
            clear h
            go_wp2_with fail
            refine (S_Read H10.out 1 rfl (j : Int) hj0 (by rw [HT.out.nb]; exact hj1) (by have := HT.out.ob; omega)).mono ?_
            rintro e w11 ⟨v11, rfl, h⟩
            have H11 := Lib.hid h
            clear h H10
            go_wp2_with fail
            refine (S_Bytes H11.out 1 0 rfl rfl (by rw [DSt.last_length (H11.out.get (i := 3) rfl).wf]; omega)).mono ?_
            rintro e w12 ⟨rfl, h⟩
            rw [show (DA.last ((j : Int)).toNat == DB.last ((j : Int)).toNat) = true from by rw [HT.out.last]; exact beq_iff_eq.2 rfl]
            have H7 := Lib.hid (h.drop 2)
            clear h H11
            go_wp2
            first | exact ⟨⟨j + 1, hlt2, by go_num, H7.out⟩, by simp [intOf]; omega⟩ | (go_roundw; case rel => first | exact ⟨j + 1, hlt2, by go_num, H7.out⟩ | ((repeat apply Exists.intro); exact ⟨⟨j + 1, hlt2, by go_num, H7.out⟩, rfl⟩); case measure => simp [intOf]; omega)
          · have hj7 : ¬ (j : Int) < 9 := by omega
            clear hlt2 hj
            go_wp2_with fail
            refine (S_Ops HST.out 1 rfl).mono ?_
            rintro e w9 ⟨rfl, rfl⟩
            rw [HT.out.oa]
            go_wp2_with fail
            refine (awake3_any HST.out).mono ?_
            rintro e w10 ⟨rfl, h⟩
            have H10 := Lib.hid h.base
            clear h
            go_wp2
            go_ret
            exact ⟨rfl, H10.out⟩
end Go.Proofs.Ytkanfpmmgaipnaa
