/-
  DeviceNone, walked.
-/
import Derived.Test.YtkanfpmmgaipnaaLawA
namespace Go.Proofs.Ytkanfpmmgaipnaa
set_option linter.unusedVariables false
open Go.ChangeMaps Go.MapKept Go.RowKit

theorem ne39 : (39 : TypeId) ≠ 5 := by decide
def succN (i : Nat) : Int := (i : Int) + 1
def hundN (i : Nat) : Int := 100 + (i : Int)

set_option maxRecDepth 100000 in
theorem none_any (w : World) (u v : Value) (l m : List Int) (hu : Elems w u (l.map IntK)) (hv : Elems w v (m.map IntK)) (hl : ∀ x ∈ l, okI x) (hm : ∀ x ∈ m, okI x) :
    Calls Try.prog 4 #[u, v] w fun e w' => e = .returned (.bool true) ∧ Frm NoB w w' := by
  have H0 := Lib.hid (St.start w)
  obtain ⟨a, cap, rfl, ha⟩ := hu
  obtain ⟨b, capb, rfl, hb⟩ := hv
  have HA := Lib.hid ha
  have HB := Lib.hid hb
  have HL := Lib.hid hl
  have HM := Lib.hid hm
  rw [List.length_map, List.length_map] at *
  clear ha hb hl hm
  by_cases hbig : 40 < l.length ∨ 40 < m.length
  · have HW := Lib.hid (awake3_any H0.out)
    by_cases h1 : 40 < l.length
    · have h1' : (40 : Int) < (l.length : Int) := by omega
      clear hbig
      go_enter Try.func4, Try.ntmps4
      go_wp2_with (go_at_call 28; refine HW.out.mono ?_; rintro e w2 ⟨rfl, h⟩)
      go_ret
      exact ⟨rfl, h.base⟩
    · have h1' : ¬ (40 : Int) < (l.length : Int) := by omega
      have h2' : (40 : Int) < (m.length : Int) := by omega
      clear hbig
      go_enter Try.func4, Try.ntmps4
      go_wp2_with (go_at_call 28; refine HW.out.mono ?_; rintro e w2 ⟨rfl, h⟩)
      go_ret
      exact ⟨rfl, h.base⟩
  · have h1' : ¬ (40 : Int) < (l.length : Int) := by omega
    have h2' : ¬ (40 : Int) < (m.length : Int) := by omega
    have h1 : l.length ≤ 40 := by omega
    have h2 : m.length ≤ 40 := by omega
    clear hbig
    go_enter Try.func4, Try.ntmps4
    go_wp2_with fail
    refine (S_New H0.out 7 (by omega) (by omega)).mono ?_
    rintro e w1 ⟨d, rfl, h⟩
    have H1 := Lib.hid h
    clear h H0
    go_wp2_with fail
    go_loopw [7] (fun t wr => ∃ i : Nat, i ≤ l.length ∧ t = .int .i64 i ∧ St w wr [dev d (wrs 7 succN (DSt.new 7) 0 (l.take i))]) (fun t _ => l.length - (intOf t).toNat)
    case atStart => exact ⟨0, Nat.zero_le _, rfl, H1.out⟩
    case round =>
      clear H1
      obtain ⟨i, hi, rfl, hst⟩ := hrel
      have HST := Lib.hid hst
      clear hst
      by_cases hlt : i < l.length
      · have HOPSI : Hid ((wrs 7 succN (DSt.new 7) 0 (l.take i)).ops < 4611686018427387904) := Lib.hid (by rw [wrs_ops, List.length_take]; show 0 + _ < _; omega)
        have HOFFI : Hid ((wrs 7 succN (DSt.new 7) 0 (l.take i)).off = false) := Lib.hid (off_of_lim (wrs_lim _ _ _ _ _ rfl))
        have HNI : Hid ((wrs 7 succN (DSt.new 7) 0 (l.take i)).n = 7) := Lib.hid (wrs_n _ _ _ _ _)
        obtain ⟨x, hx⟩ : ∃ x, l[i]? = some x := ⟨_, List.getElem?_eq_getElem hlt⟩
        obtain ⟨blk, off, rfl, hb, hcell⟩ := HA.out i (IntK x) (by rw [List.getElem?_map, hx]; rfl)
        have hcell' : wr.cell? ⟨blk, off + i, none⟩ = some (.int .i64 x) := by
          rw [← hcell]; exact HST.out.base.cell hb (fun e => e)
        have hokx : okI x := HL.out x (List.mem_of_getElem? hx)
        have hx0 := Int.emod_nonneg x (by omega : (7 : Int) ≠ 0)
        have hx1 := Int.emod_lt_of_pos x (by omega : (0 : Int) < 7)
        obtain ⟨k, hk⟩ : ∃ k : Nat, x % 7 = (k : Int) := ⟨(x % 7).toNat, by omega⟩
        have hk6 : (k : Int) < 7 := by omega
        have hk0 : (0 : Int) ≤ (k : Int) := by omega
        have HR : Hid (∀ W, Calls Try.prog 30 #[.int .i64 x, .int .i64 7] W fun e w' => W = w' ∧ e = .returned (.int .i64 k)) := Lib.hid fun W => by
          rw [← hk]; exact Round_any W x 7 hokx (by omega) (by omega)
        have HK := Lib.hid hk
        have HX := Lib.hid hx
        have hi0 : (0 : Int) ≤ (i : Int) := Int.natCast_nonneg _
        have hi1 : (i : Int) < (l.length : Int) := by omega
        clear hk hx hcell hx0 hx1 hb
        go_wp2_with fail
        refine (HR.out _).mono ?_
        rintro e w2 ⟨rfl, rfl⟩
        go_wp2_with fail
        refine (S_Block HST.out ((i : Int) + 1)).mono ?_
        rintro e w2 ⟨v1, rfl, h⟩
        have H2 := Lib.hid h
        clear h
        go_wp2_with fail
        refine (S_Write H2.out 1 0 rfl rfl (k : Int) HOPSI.out HOFFI.out hk0 (by rw [HNI.out]; exact hk6) (blockOf_length _)).mono ?_
        rintro e w3 ⟨rfl, h⟩
        have H3 := Lib.hid h
        clear h H2
        have hD := wrs_take 7 succN (DSt.new 7) l i x HX.out
        rw [HK.out] at hD
        have H4 : Hid (St w w3 [dev d (wrs 7 succN (DSt.new 7) 0 (l.take (i + 1)))]) := Lib.hid (by rw [hD]; exact H3.out.drop 1)
        clear hD H3
        go_wp2
        first | exact ⟨⟨i + 1, hlt, by go_num, H4.out⟩, by simp [intOf]; omega⟩ | (go_roundw; case rel => first | exact ⟨i + 1, hlt, by go_num, H4.out⟩ | ((repeat apply Exists.intro); exact ⟨⟨i + 1, hlt, by go_num, H4.out⟩, rfl⟩); case measure => simp [intOf]; omega)
      · obtain rfl : i = l.length := by omega
        have HST2 : Hid (St w wr [dev d (wrs 7 succN (DSt.new 7) 0 l)]) := Lib.hid (by have := HST.out; rw [List.take_length] at this; exact this)
        have HO1 : Hid ((wrs 7 succN (DSt.new 7) 0 l).ops ≤ 40) := Lib.hid (by rw [wrs_ops]; show 0 + _ ≤ _; omega)
        have HL1 : Hid ((wrs 7 succN (DSt.new 7) 0 l).lim = none) := Lib.hid (wrs_lim _ _ _ _ _ rfl)
        have HN1 : Hid ((wrs 7 succN (DSt.new 7) 0 l).n = 7) := Lib.hid (wrs_n _ _ _ _ _)
        clear HST
        generalize wrs 7 succN (DSt.new 7) 0 l = D1 at *
        go_wp2_with fail
        refine (S_Flush HST2.out 0 rfl (by have := HO1.out; omega) (off_of_lim HL1.out)).mono ?_
        rintro e w2 ⟨rfl, h⟩
        have H2 := Lib.hid (show St w w2 [dev d D1.op.flushed] from h)
        have HP2 : Hid (∀ k, D1.op.flushed.pend k = []) := Lib.hid fun _ => rfl
        have HO2 : Hid (D1.op.flushed.ops ≤ 41) := Lib.hid (by have := HO1.out; show D1.ops + 1 ≤ 41; omega)
        have HL2 : Hid (D1.op.flushed.lim = none) := Lib.hid (by show D1.lim.map (· - 1) = none; rw [HL1.out]; rfl)
        have HN2 : Hid (D1.op.flushed.n = 7) := Lib.hid HN1.out
        clear h HST2 HO1 HL1 HN1
        generalize D1.op.flushed = D2 at *
        go_wp2_with fail
        have h := H2.out.newBArr #[.slice none 0 0, .slice none 0 0, .slice none 0 0, .slice none 0 0, .slice none 0 0, .slice none 0 0, .slice none 0 0] 39 ne39 D2.last
        have H3 := Lib.hid h
        clear h H2
        generalize w2.heap.size = b8 at *
        go_loopw [9] (fun t wr => ∃ j : Nat, j ≤ 7 ∧ t = .int .i64 j ∧ ∃ c, St w wr [bArr b8 c 39 ne39 j D2.last, dev d D2] ∧ c.size = 7) (fun t _ => 7 - (intOf t).toNat)
        case atStart => exact ⟨0, Nat.zero_le _, rfl, _, H3.out, rfl⟩
        case round =>
          clear H3
          obtain ⟨j, hj, rfl, c, hst, hcs⟩ := hrel
          have HST := Lib.hid hst
          have HCS := Lib.hid hcs
          clear hst hcs
          by_cases hlt : j < 7
          · have hj0 : (0 : Int) ≤ (j : Int) := Int.natCast_nonneg _
            have hj1 : (j : Int) < 7 := by omega
            go_wp2_with fail
            refine (S_Read HST.out 1 rfl (j : Int) hj0 (by rw [HN2.out]; exact hj1) (by have := HO2.out; omega)).mono ?_
            rintro e w4 ⟨v4, rfl, h⟩
            have H4 := Lib.hid h
            clear h
            obtain ⟨bq, oq, cq, rfl, _, _⟩ := (H4.out.get (i := 0) rfl).cells
            have hfree := H4.out.bArrFree (i := 1) rfl j
            have hcl : w4.cell? ⟨b8, j, none⟩ = some (c[j]'(by rw [HCS.out]; exact hlt)) := (H4.out.bArrCell (i := 1) rfl j).trans (Array.getElem?_eq_getElem _)
            obtain ⟨u4, hcl⟩ : ∃ u4, w4.cell? ⟨b8, j, none⟩ = some u4 := ⟨_, hcl⟩
            go_wp2
            have h5 := (H4.out.setBArr 1 0 rfl (by rw [HCS.out]; exact hlt) rfl rfl).drop 1
            have h6 : ∀ V, (c.setIfInBounds j V).size = 7 := fun V => by rw [Array.size_setIfInBounds]; exact HCS.out
            first | exact ⟨⟨j + 1, hlt, by go_num, _, h5, h6 _⟩, by simp [intOf]; omega⟩ | (go_roundw; case rel => first | exact ⟨j + 1, hlt, by go_num, _, h5, h6 _⟩ | ((repeat apply Exists.intro); exact ⟨⟨j + 1, hlt, by go_num, _, h5, h6 _⟩, rfl⟩); case measure => simp [intOf]; omega)
          · have HST' : Hid (St w wr [bArr b8 c 39 ne39 7 D2.last, dev d D2]) := Lib.hid (by rw [show 7 = j from by omega]; exact HST.out)
            clear HST
            have HST := HST'
            clear HST'
            have hj7 : ¬ (j : Int) < 7 := by omega
            clear hlt hj
            go_wp2_with fail
            go_loopw [10] (fun t wr => ∃ i : Nat, i ≤ m.length ∧ t = .int .i64 i ∧ St w wr [bArr b8 c 39 ne39 7 D2.last, dev d (wrs 7 hundN D2 0 (m.take i))]) (fun t _ => m.length - (intOf t).toNat)
            case atStart => exact ⟨0, Nat.zero_le _, rfl, HST.out⟩
            case round =>
              clear HST
              obtain ⟨i, hi, rfl, hst⟩ := hrel
              have HST := Lib.hid hst
              clear hst
              by_cases hlt : i < m.length
              · have HOPSI : Hid ((wrs 7 hundN D2 0 (m.take i)).ops < 4611686018427387904) := Lib.hid (by rw [wrs_ops, List.length_take]; have := HO2.out; omega)
                have HOFFI : Hid ((wrs 7 hundN D2 0 (m.take i)).off = false) := Lib.hid (off_of_lim (wrs_lim _ _ _ _ _ HL2.out))
                have HNI : Hid ((wrs 7 hundN D2 0 (m.take i)).n = 7) := Lib.hid ((wrs_n _ _ _ _ _).trans HN2.out)
                obtain ⟨x, hx⟩ : ∃ x, m[i]? = some x := ⟨_, List.getElem?_eq_getElem hlt⟩
                obtain ⟨blk, off, rfl, hb, hcell⟩ := HB.out i (IntK x) (by rw [List.getElem?_map, hx]; rfl)
                have hcell' : wr.cell? ⟨blk, off + i, none⟩ = some (.int .i64 x) := by
                  rw [← hcell]; exact HST.out.base.cell hb (fun e => e)
                have hokx : okI x := HM.out x (List.mem_of_getElem? hx)
                have hx0 := Int.emod_nonneg x (by omega : (7 : Int) ≠ 0)
                have hx1 := Int.emod_lt_of_pos x (by omega : (0 : Int) < 7)
                obtain ⟨k, hk⟩ : ∃ k : Nat, x % 7 = (k : Int) := ⟨(x % 7).toNat, by omega⟩
                have hk6 : (k : Int) < 7 := by omega
                have hk0 : (0 : Int) ≤ (k : Int) := by omega
                have HR : Hid (∀ W, Calls Try.prog 30 #[.int .i64 x, .int .i64 7] W fun e w' => W = w' ∧ e = .returned (.int .i64 k)) := Lib.hid fun W => by
                  rw [← hk]; exact Round_any W x 7 hokx (by omega) (by omega)
                have HK := Lib.hid hk
                have HX := Lib.hid hx
                have hi0 : (0 : Int) ≤ (i : Int) := Int.natCast_nonneg _
                have hi1 : (i : Int) < (m.length : Int) := by omega
                clear hk hx hcell hx0 hx1 hb
                go_wp2_with fail
                refine (HR.out _).mono ?_
                rintro e w2 ⟨rfl, rfl⟩
                go_wp2_with fail
                refine (S_Block HST.out (100 + (i : Int))).mono ?_
                rintro e w2 ⟨v1, rfl, h⟩
                have H2 := Lib.hid h
                clear h
                go_wp2_with fail
                refine (S_Write H2.out 2 0 rfl rfl (k : Int) HOPSI.out HOFFI.out hk0 (by rw [HNI.out]; exact hk6) (blockOf_length _)).mono ?_
                rintro e w3 ⟨rfl, h⟩
                have H3 := Lib.hid h
                clear h H2
                have hD := wrs_take 7 hundN D2 m i x HX.out
                rw [HK.out] at hD
                have H4 : Hid (St w w3 [bArr b8 c 39 ne39 7 D2.last, dev d (wrs 7 hundN D2 0 (m.take (i + 1)))]) := Lib.hid (by rw [hD]; exact H3.out.drop 1)
                clear hD H3
                go_wp2
                first | exact ⟨⟨i + 1, hlt, by go_num, H4.out⟩, by simp [intOf]; omega⟩ | (go_roundw; case rel => first | exact ⟨i + 1, hlt, by go_num, H4.out⟩ | ((repeat apply Exists.intro); exact ⟨⟨i + 1, hlt, by go_num, H4.out⟩, rfl⟩); case measure => simp [intOf]; omega)
              · obtain rfl : i = m.length := by omega
                have HST2 : Hid (St w wr [bArr b8 c 39 ne39 7 D2.last, dev d (wrs 7 hundN D2 0 m)]) := Lib.hid (by have := HST.out; rw [List.take_length] at this; exact this)
                have HO3 : Hid ((wrs 7 hundN D2 0 m).ops ≤ 81) := Lib.hid (by rw [wrs_ops]; have := HO2.out; omega)
                have HL3 : Hid ((wrs 7 hundN D2 0 m).lim = none) := Lib.hid (wrs_lim _ _ _ _ _ HL2.out)
                have HN3 : Hid ((wrs 7 hundN D2 0 m).n = 7) := Lib.hid ((wrs_n _ _ _ _ _).trans HN2.out)
                have HB3 : Hid (∀ k, (wrs 7 hundN D2 0 m).base k = D2.last k) := Lib.hid fun k => by rw [wrs_base, last_of_clean D2 k (HP2.out k)]
                clear HST
                generalize wrs 7 hundN D2 0 m = D3 at *
                go_wp2_with fail
                refine (S_Crash HST2.out 1 rfl (by have := HO3.out; omega) _ [] (row_nil _).elems (fun _ h => by cases h) (by decide)).mono ?_
                rintro e w5 ⟨d2, rfl, h⟩
                have H5 := Lib.hid (show St w w5 [dev d2 (D3.crash []), bArr b8 c 39 ne39 7 D2.last, dev d D3] from h)
                have HE : Hid (∀ k, (D3.crash []).last k = D2.last k) := Lib.hid fun k => (crash_nil D3 k).trans (HB3.out k)
                have HEN : Hid ((D3.crash []).n = 7) := Lib.hid HN3.out
                have HEO : Hid ((D3.crash []).ops = 0) := Lib.hid rfl
                clear h HST2
                generalize D3.crash [] = E at *
                go_wp2_with fail
                go_loopw [12, 13, 14] (fun t _ _ wr => ∃ j : Nat, j ≤ 7 ∧ t = .int .i64 j ∧ St w wr [dev d2 E, bArr b8 c 39 ne39 7 D2.last, dev d D3]) (fun t _ _ _ => 7 - (intOf t).toNat)
                case atStart => exact ⟨0, Nat.zero_le _, rfl, H5.out⟩
                case round =>
                  clear H5
                  obtain ⟨j, hj, rfl, hst⟩ := hrel
                  have HST := Lib.hid hst
                  clear hst
                  by_cases hlt2 : j < 7
                  · have hj0 : (0 : Int) ≤ (j : Int) := Int.natCast_nonneg _
                    have hj1 : (j : Int) < 7 := by omega
                    go_wp2_with fail
                    refine (S_Read HST.out 0 rfl (j : Int) hj0 (by rw [HEN.out]; exact hj1) (by rw [HEO.out]; omega)).mono ?_
                    rintro e w6 ⟨v6, rfl, h⟩
                    obtain ⟨u6, hu6, h'⟩ := h.getBArr (i := 2) rfl j hlt2
                    have H6 := Lib.hid h'
                    clear h h'
                    go_wp2_with fail
                    refine (S_Bytes H6.out 1 0 rfl rfl (by rw [DSt.last_length (H6.out.get (i := 2) rfl).wf]; omega)).mono ?_
                    rintro e w7 ⟨rfl, h⟩
                    rw [show (E.last ((j : Int)).toNat == D2.last j) = true from by rw [show ((j : Int)).toNat = j from rfl, HE.out]; exact beq_iff_eq.2 rfl]
                    have H7 := Lib.hid (h.drop 2)
                    clear h H6 hu6
                    go_wp2
                    first | exact ⟨⟨j + 1, hlt2, by go_num, H7.out⟩, by simp [intOf]; omega⟩ | (go_roundw; case rel => first | exact ⟨j + 1, hlt2, by go_num, H7.out⟩ | ((repeat apply Exists.intro); exact ⟨⟨j + 1, hlt2, by go_num, H7.out⟩, rfl⟩); case measure => simp [intOf]; omega)
                  · have hj7' : ¬ (j : Int) < 7 := by omega
                    clear hlt2 hj
                    go_wp2_with fail
                    refine (S_Flush HST.out 2 rfl (by have := HO3.out; omega) (off_of_lim HL3.out)).mono ?_
                    rintro e w8 ⟨rfl, h⟩
                    have H8 := Lib.hid (show St w w8 [dev d D3.op.flushed] from h.drop 2)
                    have HP4 : Hid (∀ k, D3.op.flushed.pend k = []) := Lib.hid fun _ => rfl
                    have HO4 : Hid (D3.op.flushed.ops ≤ 82) := Lib.hid (by have := HO3.out; show D3.ops + 1 ≤ 82; omega)
                    have HN4 : Hid (D3.op.flushed.n = 7) := Lib.hid HN3.out
                    clear h HST HO3 HL3 HN3 HB3 HE HEN HEO
                    generalize D3.op.flushed = D4 at *
                    go_wp2_with fail
                    have h := H8.out.frm0 ((Frm.refl NoB w8).alloc (.cells #[.int .i64 5, .int .i64 5, .int .i64 5] 3 (0, 0)))
                    refine (S_Crash h 0 rfl (by have := HO4.out; omega) _ [5, 5, 5] (row_three (block_alloc_new _ _)).elems (by intro p hp; simp at hp; subst hp; exact (okI_iff 5).2 (by omega)) (by decide)).mono ?_
                    rintro e w9 ⟨d3, rfl, h⟩
                    have H9 := Lib.hid (show St w w9 [dev d3 (D4.crash [5, 5, 5]), dev d D4] from h)
                    have HE : Hid (∀ k, (D4.crash [5, 5, 5]).last k = D4.last k) := Lib.hid fun k => (crash_clean D4 _ k (HP4.out k)).trans (last_of_clean D4 k (HP4.out k)).symm
                    have HEN : Hid ((D4.crash [5, 5, 5]).n = 7) := Lib.hid HN4.out
                    have HEO : Hid ((D4.crash [5, 5, 5]).ops = 0) := Lib.hid rfl
                    clear h H8
                    generalize D4.crash [5, 5, 5] = E2 at *
                    go_wp2_with fail
                    go_loopw [15, 16, 17, 18, 19] (fun t _ _ _ _ wr => ∃ j : Nat, j ≤ 7 ∧ t = .int .i64 j ∧ St w wr [dev d3 E2, dev d D4]) (fun t _ _ _ _ _ => 7 - (intOf t).toNat)
                    case atStart => exact ⟨0, Nat.zero_le _, rfl, H9.out⟩
                    case round =>
                      clear H9
                      obtain ⟨j, hj, rfl, hst⟩ := hrel
                      have HST := Lib.hid hst
                      clear hst
                      by_cases hlt2 : j < 7
                      · have hj0 : (0 : Int) ≤ (j : Int) := Int.natCast_nonneg _
                        have hj1 : (j : Int) < 7 := by omega
                        go_wp2_with fail
                        refine (S_Read HST.out 0 rfl (j : Int) hj0 (by rw [HEN.out]; exact hj1) (by rw [HEO.out]; omega)).mono ?_
                        rintro e w10 ⟨v10, rfl, h⟩
                        have H10 := Lib.hid h
                        clear h
                        go_wp2_with fail
                        refine (S_Read H10.out 2 rfl (j : Int) hj0 (by rw [HN4.out]; exact hj1) (by have := HO4.out; omega)).mono ?_
                        rintro e w11 ⟨v11, rfl, h⟩
                        have H11 := Lib.hid h
                        clear h H10
                        go_wp2_with fail
                        refine (S_Bytes H11.out 1 0 rfl rfl (by rw [DSt.last_length (H11.out.get (i := 2) rfl).wf]; omega)).mono ?_
                        rintro e w12 ⟨rfl, h⟩
                        rw [show (E2.last ((j : Int)).toNat == D4.last ((j : Int)).toNat) = true from by rw [HE.out]; exact beq_iff_eq.2 rfl]
                        have H7 := Lib.hid (h.drop 2)
                        clear h H11
                        go_wp2
                        first | exact ⟨⟨j + 1, hlt2, by go_num, H7.out⟩, by simp [intOf]; omega⟩ | (go_roundw; case rel => first | exact ⟨j + 1, hlt2, by go_num, H7.out⟩ | ((repeat apply Exists.intro); exact ⟨⟨j + 1, hlt2, by go_num, H7.out⟩, rfl⟩); case measure => simp [intOf]; omega)
                      · have hj7'' : ¬ (j : Int) < 7 := by omega
                        clear hlt2 hj
                        go_wp2_with fail
                        refine (awake3_any HST.out).mono ?_
                        rintro e w10 ⟨rfl, h⟩
                        have H10 := Lib.hid h.base
                        clear h
                        go_wp2
                        go_ret
                        exact ⟨rfl, H10.out⟩
end Go.Proofs.Ytkanfpmmgaipnaa
