/-
  DeviceSelf, walked.
-/
import Derived.Test.YtkanfpmmgaipnaaLawA
namespace Go.Proofs.Ytkanfpmmgaipnaa
set_option linter.unusedVariables false
open Go.ChangeMaps Go.MapKept Go.RowKit

theorem ne48 : (46 : TypeId) ≠ 5 := by decide

structure Good (o : Nat) (D : DSt) : Prop where
  n : D.n = 5
  ops : D.ops ≤ o
  lim : D.lim = none

theorem Good.wrote {o : Nat} {D : DSt} (h : Good o D) (k : Nat) (b : Blk) : Good (o + 1) (D.op.put k b) :=
  ⟨h.n, Nat.succ_le_succ h.ops, by show D.lim.map (· - 1) = none; rw [h.lim]; rfl⟩
theorem Good.flushed {o : Nat} {D : DSt} (h : Good o D) : Good (o + 1) D.op.flushed :=
  ⟨h.n, Nat.succ_le_succ h.ops, by show D.lim.map (· - 1) = none; rw [h.lim]; rfl⟩
theorem Good.more {o p : Nat} {D : DSt} (h : Good o D) (hp : o ≤ p) : Good p D := ⟨h.n, Nat.le_trans h.ops hp, h.lim⟩

/-- The first j blocks hold one byte each. -/
structure Paint (c : Int) (o j : Nat) (D : DSt) : Prop where
  n : D.n = 5
  ops : D.ops = o + j
  lim : D.lim = none
  last : ∀ k, k < j → D.last k = blockOf c

theorem Paint.next {c : Int} {o j : Nat} {D : DSt} (h : Paint c o j D) : Paint c o (j + 1) (D.op.put j (blockOf c)) :=
  ⟨h.n, congrArg (· + 1) h.ops, by show D.lim.map (· - 1) = none; rw [h.lim]; rfl, fun k hk => by
    by_cases e : k = j
    · subst e; exact last_put_same _ _ _
    · rw [last_put_other _ _ e]; exact h.last k (by omega)⟩

set_option maxRecDepth 100000 in
theorem self_any (w : World) (u v : Value) (l picks : List Int) (hu : Elems w u (l.map IntK)) (hv : Elems w v (picks.map IntK)) (hl : ∀ x ∈ l, okI x) (hp : ∀ x ∈ picks, okI x) :
    Calls Try.prog 8 #[u, v] w fun e w' => e = .returned (.bool true) ∧ Frm NoB w w' := by
  have H0 := Lib.hid (St.start w)
  have HV := Lib.hid hv
  obtain ⟨a, cap, rfl, ha⟩ := hu
  obtain ⟨b, capb, rfl, _⟩ := hv
  have HA := Lib.hid ha
  have HL := Lib.hid hl
  have HP := Lib.hid hp
  rw [List.length_map, List.length_map] at *
  clear ha hl hp
  by_cases hbig : 40 < l.length ∨ 100 < picks.length
  · have HW := Lib.hid (awake3_any H0.out)
    by_cases h1 : 40 < l.length
    · have h1' : (40 : Int) < (l.length : Int) := by omega
      clear hbig
      go_enter Try.func8, Try.ntmps8
      go_wp2_with (go_at_call 28; refine HW.out.mono ?_; rintro e w2 ⟨rfl, h⟩)
      go_ret
      exact ⟨rfl, h.base⟩
    · have h1' : ¬ (40 : Int) < (l.length : Int) := by omega
      have h2' : (100 : Int) < (picks.length : Int) := by omega
      clear hbig
      go_enter Try.func8, Try.ntmps8
      go_wp2_with (go_at_call 28; refine HW.out.mono ?_; rintro e w2 ⟨rfl, h⟩)
      go_ret
      exact ⟨rfl, h.base⟩
  · have h1' : ¬ (40 : Int) < (l.length : Int) := by omega
    have h2' : ¬ (100 : Int) < (picks.length : Int) := by omega
    have h1 : l.length ≤ 40 := by omega
    have h2 : picks.length ≤ 100 := by omega
    clear hbig
    go_enter Try.func8, Try.ntmps8
    go_wp2_with fail
    refine (S_New H0.out 5 (by omega) (by omega)).mono ?_
    rintro e w1 ⟨d, rfl, h⟩
    have H1 := Lib.hid h
    clear h H0
    go_wp2_with fail
    go_loopw [7] (fun t wr => ∃ i : Nat, i ≤ l.length ∧ t = .int .i64 i ∧ ∃ D, Good (2 * i) D ∧ St w wr [dev d D]) (fun t _ => l.length - (intOf t).toNat)
    case atStart => exact ⟨0, Nat.zero_le _, rfl, _, ⟨rfl, Nat.zero_le _, rfl⟩, H1.out⟩
    case round =>
      clear H1
      obtain ⟨i, hi, rfl, D, hg, hst⟩ := hrel
      have HST := Lib.hid hst
      have HG := Lib.hid hg
      clear hst hg
      by_cases hlt : i < l.length
      · by_cases h4 : (i : Int) % 4 = 3
        · have H4 := Lib.hid h4
          clear h4
          obtain ⟨x, hx⟩ : ∃ x, l[i]? = some x := ⟨_, List.getElem?_eq_getElem hlt⟩
          obtain ⟨blk, off, rfl, hb, hcell⟩ := HA.out i (IntK x) (by rw [List.getElem?_map, hx]; rfl)
          have hcell' : wr.cell? ⟨blk, off + i, none⟩ = some (.int .i64 x) := by
            rw [← hcell]; exact HST.out.base.cell hb (fun e => e)
          have hokx : okI x := HL.out x (List.mem_of_getElem? hx)
          have hx0 := Int.emod_nonneg x (by omega : (5 : Int) ≠ 0)
          have hx1 := Int.emod_lt_of_pos x (by omega : (0 : Int) < 5)
          obtain ⟨k, hk⟩ : ∃ k : Nat, x % 5 = (k : Int) := ⟨(x % 5).toNat, by omega⟩
          have hk6 : (k : Int) < 5 := by omega
          have hk0 : (0 : Int) ≤ (k : Int) := by omega
          have HR : Hid (∀ W, Calls Try.prog 30 #[.int .i64 x, .int .i64 5] W fun e w' => W = w' ∧ e = .returned (.int .i64 k)) := Lib.hid fun W => by
            rw [← hk]; exact Round_any W x 5 hokx (by omega) (by omega)
          have HK := Lib.hid hk
          have HX := Lib.hid hx
          have hi0 : (0 : Int) ≤ (i : Int) := Int.natCast_nonneg _
          have hi1 : (i : Int) < (l.length : Int) := by omega
          clear hk hx hcell hx0 hx1 hb
          go_wp2_with fail
          refine (HR.out _).mono ?_
          rintro e w2 ⟨rfl, rfl⟩
          go_wp2_with fail
          refine (S_Block HST.out ((i : Int) + 1)).mono ?_
          rintro e w2 ⟨v1, rfl, h⟩
          have H2 := Lib.hid h
          clear h
          go_wp2_with fail
          refine (S_Write H2.out 1 0 rfl rfl (k : Int) (by have := HG.out.ops; omega) (off_of_lim HG.out.lim) hk0 (by rw [HG.out.n]; exact hk6) (blockOf_length _)).mono ?_
          rintro e w3 ⟨rfl, h⟩
          have H3 := Lib.hid h
          clear h H2
          have H3' := Lib.hid (H3.out.drop 1)
          have HG2 := Lib.hid (HG.out.wrote k (blockOf ((i : Int) + 1)))
          clear H3
          have h4 : ((i : Int) % 4 == 3) = true := beq_iff_eq.2 H4.out
          have h4' := H4.out
          go_wp2_with fail
          refine (S_Flush H3'.out 0 rfl (Nat.lt_of_le_of_lt HG2.out.ops (by omega)) (off_of_lim HG2.out.lim)).mono ?_
          rintro e w4 ⟨rfl, h⟩
          have H5 := Lib.hid h
          have HG3 := Lib.hid (HG2.out.flushed.more (show 2 * i + 1 + 1 ≤ 2 * (i + 1) from by omega))
          clear h
          go_wp2
          first | exact ⟨⟨i + 1, hlt, by go_num, _, HG3.out, H5.out⟩, by simp [intOf]; omega⟩ | (go_roundw; case rel => first | exact ⟨i + 1, hlt, by go_num, _, HG3.out, H5.out⟩ | ((repeat apply Exists.intro); exact ⟨⟨i + 1, hlt, by go_num, _, HG3.out, H5.out⟩, rfl⟩); case measure => simp [intOf]; omega)
        · have H4 := Lib.hid h4
          clear h4
          obtain ⟨x, hx⟩ : ∃ x, l[i]? = some x := ⟨_, List.getElem?_eq_getElem hlt⟩
          obtain ⟨blk, off, rfl, hb, hcell⟩ := HA.out i (IntK x) (by rw [List.getElem?_map, hx]; rfl)
          have hcell' : wr.cell? ⟨blk, off + i, none⟩ = some (.int .i64 x) := by
            rw [← hcell]; exact HST.out.base.cell hb (fun e => e)
          have hokx : okI x := HL.out x (List.mem_of_getElem? hx)
          have hx0 := Int.emod_nonneg x (by omega : (5 : Int) ≠ 0)
          have hx1 := Int.emod_lt_of_pos x (by omega : (0 : Int) < 5)
          obtain ⟨k, hk⟩ : ∃ k : Nat, x % 5 = (k : Int) := ⟨(x % 5).toNat, by omega⟩
          have hk6 : (k : Int) < 5 := by omega
          have hk0 : (0 : Int) ≤ (k : Int) := by omega
          have HR : Hid (∀ W, Calls Try.prog 30 #[.int .i64 x, .int .i64 5] W fun e w' => W = w' ∧ e = .returned (.int .i64 k)) := Lib.hid fun W => by
            rw [← hk]; exact Round_any W x 5 hokx (by omega) (by omega)
          have HK := Lib.hid hk
          have HX := Lib.hid hx
          have hi0 : (0 : Int) ≤ (i : Int) := Int.natCast_nonneg _
          have hi1 : (i : Int) < (l.length : Int) := by omega
          clear hk hx hcell hx0 hx1 hb
          go_wp2_with fail
          refine (HR.out _).mono ?_
          rintro e w2 ⟨rfl, rfl⟩
          go_wp2_with fail
          refine (S_Block HST.out ((i : Int) + 1)).mono ?_
          rintro e w2 ⟨v1, rfl, h⟩
          have H2 := Lib.hid h
          clear h
          go_wp2_with fail
          refine (S_Write H2.out 1 0 rfl rfl (k : Int) (by have := HG.out.ops; omega) (off_of_lim HG.out.lim) hk0 (by rw [HG.out.n]; exact hk6) (blockOf_length _)).mono ?_
          rintro e w3 ⟨rfl, h⟩
          have H3 := Lib.hid h
          clear h H2
          have H3' := Lib.hid (H3.out.drop 1)
          have HG2 := Lib.hid ((HG.out.wrote k (blockOf ((i : Int) + 1))).more (show 2 * i + 1 ≤ 2 * (i + 1) from by omega))
          clear H3
          have h4 : ((i : Int) % 4 == 3) = false := beq_eq_false_iff_ne.2 H4.out
          have h4' := H4.out
          go_wp2
          first | exact ⟨⟨i + 1, hlt, by go_num, _, HG2.out, H3'.out⟩, by simp [intOf]; omega⟩ | (go_roundw; case rel => first | exact ⟨i + 1, hlt, by go_num, _, HG2.out, H3'.out⟩ | ((repeat apply Exists.intro); exact ⟨⟨i + 1, hlt, by go_num, _, HG2.out, H3'.out⟩, rfl⟩); case measure => simp [intOf]; omega)
      · have hlt' : ¬ (i : Int) < (l.length : Int) := by omega
        have HG1 := Lib.hid (HG.out.more (show 2 * i ≤ 80 from by omega))
        clear HG hlt hi
        go_wp2_with fail
        have h := HST.out.newBArr #[.slice none 0 0, .slice none 0 0, .slice none 0 0, .slice none 0 0, .slice none 0 0] 46 ne48 D.last
        have H3 := Lib.hid h
        clear h HST
        generalize wr.heap.size = b8 at *
        go_loopw [9] (fun t wr => ∃ j : Nat, j ≤ 5 ∧ t = .int .i64 j ∧ ∃ c, St w wr [bArr b8 c 46 ne48 j D.last, dev d D] ∧ c.size = 5) (fun t _ => 5 - (intOf t).toNat)
        case atStart => exact ⟨0, Nat.zero_le _, rfl, _, H3.out, rfl⟩
        case round =>
          clear H3
          obtain ⟨j, hj, rfl, c, hst, hcs⟩ := hrel
          have HST := Lib.hid hst
          have HCS := Lib.hid hcs
          clear hst hcs
          by_cases hlt : j < 5
          · have hj0 : (0 : Int) ≤ (j : Int) := Int.natCast_nonneg _
            have hj1 : (j : Int) < 5 := by omega
            go_wp2_with fail
            refine (S_Read HST.out 1 rfl (j : Int) hj0 (by rw [HG1.out.n]; exact hj1) (by have := HG1.out.ops; omega)).mono ?_
            rintro e w4 ⟨v4, rfl, h⟩
            have H4 := Lib.hid h
            clear h
            obtain ⟨bq, oq, cq, rfl, _, _⟩ := (H4.out.get (i := 0) rfl).cells
            have hfree := H4.out.bArrFree (i := 1) rfl j
            have hcl : w4.cell? ⟨b8, j, none⟩ = some (c[j]'(by rw [HCS.out]; exact hlt)) := (H4.out.bArrCell (i := 1) rfl j).trans (Array.getElem?_eq_getElem _)
            obtain ⟨u4, hcl⟩ : ∃ u4, w4.cell? ⟨b8, j, none⟩ = some u4 := ⟨_, hcl⟩
            go_wp2
            have h5 := (H4.out.setBArr 1 0 rfl (by rw [HCS.out]; exact hlt) rfl rfl).drop 1
            have h6 : ∀ V, (c.setIfInBounds j V).size = 5 := fun V => by rw [Array.size_setIfInBounds]; exact HCS.out
            first | exact ⟨⟨j + 1, hlt, by go_num, _, h5, h6 _⟩, by simp [intOf]; omega⟩ | (go_roundw; case rel => first | exact ⟨j + 1, hlt, by go_num, _, h5, h6 _⟩ | ((repeat apply Exists.intro); exact ⟨⟨j + 1, hlt, by go_num, _, h5, h6 _⟩, rfl⟩); case measure => simp [intOf]; omega)
          · have HST' : Hid (St w wr [bArr b8 c 46 ne48 5 D.last, dev d D]) := Lib.hid (by rw [show 5 = j from by omega]; exact HST.out)
            clear HST
            have HST := HST'
            clear HST'
            have hj7 : ¬ (j : Int) < 5 := by omega
            clear hlt hj
            go_wp2_with fail
            refine (S_Ops HST.out 1 rfl).mono ?_
            rintro e w5 ⟨rfl, rfl⟩
            go_wp2_with fail
            refine (S_Crash HST.out 1 rfl (by have := HG1.out.ops; omega) _ picks (HV.out.frm HST.out.base) HP.out (by omega)).mono ?_
            rintro e w6 ⟨da, rfl, h⟩
            have H6 := Lib.hid h
            clear h HST
            go_wp2_with fail
            refine (S_Copy H6.out 2 rfl).mono ?_
            rintro e w7 ⟨db, rfl, h⟩
            have H7 := Lib.hid (show St w w7 [dev db D, dev da (D.crash picks), bArr b8 c 46 ne48 5 D.last, dev d D] from h)
            have HPA : Hid (Paint 201 0 0 (D.crash picks)) := Lib.hid ⟨HG1.out.n, rfl, rfl, fun _ h => by omega⟩
            have HPB : Hid (Paint 202 D.ops 0 D) := Lib.hid ⟨HG1.out.n, rfl, HG1.out.lim, fun _ h => by omega⟩
            clear h H6
            go_wp2_with fail
            go_loopw [13] (fun t wr => ∃ j : Nat, j ≤ 5 ∧ t = .int .i64 j ∧ ∃ A B, Paint 201 0 j A ∧ Paint 202 D.ops j B ∧ St w wr [dev db B, dev da A, bArr b8 c 46 ne48 5 D.last, dev d D]) (fun t _ => 5 - (intOf t).toNat)
            case atStart => exact ⟨0, Nat.zero_le _, rfl, _, _, HPA.out, HPB.out, H7.out⟩
            case round =>
              clear H7 HPA HPB
              obtain ⟨j, hj, rfl, A, B, hpa, hpb, hst⟩ := hrel
              have HST := Lib.hid hst
              have HPA := Lib.hid hpa
              have HPB := Lib.hid hpb
              clear hst hpa hpb
              by_cases hlt2 : j < 5
              · have hj0 : (0 : Int) ≤ (j : Int) := Int.natCast_nonneg _
                have hj1 : (j : Int) < 5 := by omega
                go_wp2_with fail
                refine (S_Block HST.out 201).mono ?_
                rintro e w8 ⟨v8, rfl, h⟩
                have H8 := Lib.hid h
                clear h
                go_wp2_with fail
                refine (S_Write H8.out 2 0 rfl rfl (j : Int) (by rw [HPA.out.ops]; omega) (off_of_lim HPA.out.lim) hj0 (by rw [HPA.out.n]; exact hj1) (blockOf_length _)).mono ?_
                rintro e w9 ⟨rfl, h⟩
                have H9 := Lib.hid (h.drop 1)
                clear h H8
                go_wp2_with fail
                refine (S_Block H9.out 202).mono ?_
                rintro e w10 ⟨v10, rfl, h⟩
                have H10 := Lib.hid h
                clear h H9
                go_wp2_with fail
                refine (S_Write H10.out 1 0 rfl rfl (j : Int) (by rw [HPB.out.ops]; have := HG1.out.ops; omega) (off_of_lim HPB.out.lim) hj0 (by rw [HPB.out.n]; exact hj1) (blockOf_length _)).mono ?_
                rintro e w11 ⟨rfl, h⟩
                have H11 := Lib.hid (h.drop 1)
                have HPA2 := Lib.hid HPA.out.next
                have HPB2 := Lib.hid HPB.out.next
                clear h H10
                go_wp2
                first | exact ⟨⟨j + 1, hlt2, by go_num, _, _, HPA2.out, HPB2.out, H11.out⟩, by simp [intOf]; omega⟩ | (go_roundw; case rel => first | exact ⟨j + 1, hlt2, by go_num, _, _, HPA2.out, HPB2.out, H11.out⟩ | ((repeat apply Exists.intro); exact ⟨⟨j + 1, hlt2, by go_num, _, _, HPA2.out, HPB2.out, H11.out⟩, rfl⟩); case measure => simp [intOf]; omega)
              · have hj7' : ¬ (j : Int) < 5 := by omega
                have HPA1 : Hid (Paint 201 0 5 A) := Lib.hid (by rw [show 5 = j from by omega]; exact HPA.out)
                have HPB1 : Hid (Paint 202 D.ops 5 B) := Lib.hid (by rw [show 5 = j from by omega]; exact HPB.out)
                clear hlt2 hj HPA HPB
                go_wp2_with fail
                go_loopw [14, 15, 16, 17, 18, 19, 20] (fun t _ _ _ _ _ _ wr => ∃ j : Nat, j ≤ 5 ∧ t = .int .i64 j ∧ St w wr [dev db B, dev da A, bArr b8 c 46 ne48 5 D.last, dev d D]) (fun t _ _ _ _ _ _ _ => 5 - (intOf t).toNat)
                case atStart => exact ⟨0, Nat.zero_le _, rfl, HST.out⟩
                case round =>
                  clear HST
                  obtain ⟨j, hj, rfl, hst⟩ := hrel
                  have HST := Lib.hid hst
                  clear hst
                  by_cases hlt3 : j < 5
                  · have hj0 : (0 : Int) ≤ (j : Int) := Int.natCast_nonneg _
                    have hj1 : (j : Int) < 5 := by omega
                    go_wp2_with fail
                    refine (S_Read HST.out 3 rfl (j : Int) hj0 (by rw [HG1.out.n]; exact hj1) (by have := HG1.out.ops; omega)).mono ?_
                    rintro e w12 ⟨v12, rfl, h⟩
                    have H12 := Lib.hid h
                    clear h
                    go_wp2_with fail
                    refine (S_Read H12.out 2 rfl (j : Int) hj0 (by rw [HPA1.out.n]; exact hj1) (by rw [HPA1.out.ops]; omega)).mono ?_
                    rintro e w13 ⟨v13, rfl, h⟩
                    have H13 := Lib.hid h
                    clear h H12
                    go_wp2_with fail
                    refine (S_Read H13.out 2 rfl (j : Int) hj0 (by rw [HPB1.out.n]; exact hj1) (by rw [HPB1.out.ops]; have := HG1.out.ops; omega)).mono ?_
                    rintro e w14 ⟨v14, rfl, h⟩
                    obtain ⟨u6, hu6, h'⟩ := h.getBArr (i := 5) rfl j hlt3
                    have H14 := Lib.hid h'
                    clear h h' H13
                    go_wp2_with fail
                    refine (S_Bytes H14.out 3 0 rfl rfl (by rw [DSt.last_length (H14.out.get (i := 7) rfl).wf]; omega)).mono ?_
                    rintro e w15 ⟨rfl, h⟩
                    rw [show (D.last ((j : Int)).toNat == D.last j) = true from beq_iff_eq.2 rfl]
                    have H15 := Lib.hid (h.drop 1)
                    clear h H14 hu6
                    go_wp2_with fail
                    refine (S_Block H15.out 201).mono ?_
                    rintro e w16 ⟨v16, rfl, h⟩
                    have H16 := Lib.hid h
                    clear h H15
                    go_wp2_with fail
                    refine (S_Bytes H16.out 2 0 rfl rfl (by rw [DSt.last_length (H16.out.get (i := 5) rfl).wf]; omega)).mono ?_
                    rintro e w17 ⟨rfl, h⟩
                    rw [show (A.last ((j : Int)).toNat == blockOf 201) = true from beq_iff_eq.2 (HPA1.out.last j hlt3)]
                    have H17 := Lib.hid (h.drop 1)
                    clear h H16
                    go_wp2_with fail
                    refine (S_Block H17.out 202).mono ?_
                    rintro e w18 ⟨v18, rfl, h⟩
                    have H18 := Lib.hid h
                    clear h H17
                    go_wp2_with fail
                    refine (S_Bytes H18.out 1 0 rfl rfl (by rw [DSt.last_length (H18.out.get (i := 4) rfl).wf]; omega)).mono ?_
                    rintro e w19 ⟨rfl, h⟩
                    rw [show (B.last ((j : Int)).toNat == blockOf 202) = true from beq_iff_eq.2 (HPB1.out.last j hlt3)]
                    have H19 := Lib.hid (h.drop 4)
                    clear h H18
                    go_wp2
                    first | exact ⟨⟨j + 1, hlt3, by go_num, H19.out⟩, by simp [intOf]; omega⟩ | (go_roundw; case rel => first | exact ⟨j + 1, hlt3, by go_num, H19.out⟩ | ((repeat apply Exists.intro); exact ⟨⟨j + 1, hlt3, by go_num, H19.out⟩, rfl⟩); case measure => simp [intOf]; omega)
                  · have hj8 : ¬ (j : Int) < 5 := by omega
                    clear hlt3 hj
                    have ho0 : (0 : Int) ≤ (D.ops : Int) := Int.natCast_nonneg _
                    have ho1 : (D.ops : Int) ≤ 80 := by have := HG1.out.ops; omega
                    go_wp2_with fail
                    refine (S_Ops HST.out 3 rfl).mono ?_
                    rintro e w20 ⟨rfl, rfl⟩
                    go_wp2_with fail
                    refine (S_Ops HST.out 1 rfl).mono ?_
                    rintro e w20 ⟨rfl, rfl⟩
                    rw [show ((A.ops : Nat) : Int) = 5 from by rw [HPA1.out.ops]; rfl]
                    go_wp2_with fail
                    refine (S_Ops HST.out 0 rfl).mono ?_
                    rintro e w20 ⟨rfl, rfl⟩
                    rw [show ((B.ops : Nat) : Int) = (D.ops : Int) + 5 from by rw [HPB1.out.ops]; omega]
                    go_wp2_with fail
                    refine (awake3_any HST.out).mono ?_
                    rintro e w21 ⟨rfl, h⟩
                    have H21 := Lib.hid h.base
                    clear h
                    go_wp2
                    go_ret
                    exact ⟨rfl, H21.out⟩
end Go.Proofs.Ytkanfpmmgaipnaa
