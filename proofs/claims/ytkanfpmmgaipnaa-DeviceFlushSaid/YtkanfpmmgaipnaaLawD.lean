/-
  DeviceFlush, walked.
-/
import Derived.Test.YtkanfpmmgaipnaaLawA
namespace Go.Proofs.Ytkanfpmmgaipnaa
set_option linter.unusedVariables false
open Go.ChangeMaps Go.MapKept Go.RowKit

theorem ne41 : (41 : TypeId) ≠ 5 := by decide
def succI (i : Nat) : Int := (i : Int) + 1

/-- Behind i rounds of the first loop. -/
def FlRel (w : World) (b : Nat) (d : Hdl) (l : List Int) (i : Nat) (wr : World) : Prop :=
  ∃ c, St w wr [arr b c 41 ne41, dev d (wrs 6 succI (DSt.new 6) 0 (l.take i))] ∧ c.size = 6 ∧ ∀ k, k < 6 → ∃ z, c[k]? = some (.int .i64 z) ∧ (wrs 6 succI (DSt.new 6) 0 (l.take i)).last k = blockOf z

set_option maxRecDepth 100000 in
theorem flush_any (w : World) (u v : Value) (l picks : List Int) (hu : Elems w u (l.map IntK)) (hv : Elems w v (picks.map IntK)) (hl : ∀ x ∈ l, okI x) (hp : ∀ x ∈ picks, okI x) :
    Calls Try.prog 5 #[u, v] w fun e w' => e = .returned (.bool true) ∧ Frm NoB w w' := by
  have H0 := Lib.hid (St.start w)
  have HV := Lib.hid hv
  obtain ⟨a, cap, rfl, ha⟩ := hu
  obtain ⟨b, capb, rfl, _⟩ := hv
  have HA := Lib.hid ha
  have HL := Lib.hid hl
  have HP := Lib.hid hp
  rw [List.length_map, List.length_map] at *
  clear ha hl hp
  by_cases hbig : 60 < l.length ∨ 100 < picks.length
  · have HW := Lib.hid (awake3_any H0.out)
    by_cases h1 : 60 < l.length
    · have h1' : (60 : Int) < (l.length : Int) := by omega
      clear hbig
      go_enter Try.func5, Try.ntmps5
      go_wp2_with (go_at_call 28; refine HW.out.mono ?_; rintro e w2 ⟨rfl, h⟩)
      go_ret
      exact ⟨rfl, h.base⟩
    · have h1' : ¬ (60 : Int) < (l.length : Int) := by omega
      have h2' : (100 : Int) < (picks.length : Int) := by omega
      clear hbig
      go_enter Try.func5, Try.ntmps5
      go_wp2_with (go_at_call 28; refine HW.out.mono ?_; rintro e w2 ⟨rfl, h⟩)
      go_ret
      exact ⟨rfl, h.base⟩
  · have h1' : ¬ (60 : Int) < (l.length : Int) := by omega
    have h2' : ¬ (100 : Int) < (picks.length : Int) := by omega
    have h1 : l.length ≤ 60 := by omega
    clear hbig
    go_enter Try.func5, Try.ntmps5
    go_wp2_with fail
    refine (S_New H0.out 6 (by omega) (by omega)).mono ?_
    rintro e w1 ⟨d, rfl, h⟩
    have H1 := Lib.hid h
    clear h
    go_wp2_with fail
    have h := H1.out.newArr #[.int .i64 0, .int .i64 0, .int .i64 0, .int .i64 0, .int .i64 0, .int .i64 0] 41 ne41
    have HS := Lib.hid (show FlRel w w1.heap.size d l 0 _ from ⟨_, h, rfl, fun k hk => ⟨0, by
      rcases (by omega : k = 0 ∨ k = 1 ∨ k = 2 ∨ k = 3 ∨ k = 4 ∨ k = 5) with rfl | rfl | rfl | rfl | rfl | rfl <;> rfl, rfl⟩⟩)
    clear h H1 H0
    generalize w1.heap.size = b1 at *
    go_loopw [8, 9] (fun t _ wr => ∃ i : Nat, i ≤ l.length ∧ t = .int .i64 i ∧ FlRel w b1 d l i wr) (fun t _ _ => l.length - (intOf t).toNat)
    case atStart => exact ⟨0, Nat.zero_le _, rfl, HS.out⟩
    case round =>
      clear HS
      obtain ⟨i, hi, rfl, hrel⟩ := hrel
      obtain ⟨c, hst, hcs, hcz⟩ := hrel
      have HST := Lib.hid hst
      have HCS := Lib.hid hcs
      have HCZ := Lib.hid hcz
      clear hst hcs hcz
      by_cases hlt : i < l.length
      · obtain ⟨x, hx⟩ : ∃ x, l[i]? = some x := ⟨_, List.getElem?_eq_getElem hlt⟩
        obtain ⟨blk, off, rfl, hb, hcell⟩ := HA.out i (IntK x) (by rw [List.getElem?_map, hx]; rfl)
        have hcell' : wr.cell? ⟨blk, off + i, none⟩ = some (.int .i64 x) := by
          rw [← hcell]; exact HST.out.base.cell hb (fun e => e)
        have hokx : okI x := HL.out x (List.mem_of_getElem? hx)
        have hx0 := Int.emod_nonneg x (by omega : (6 : Int) ≠ 0)
        have hx1 := Int.emod_lt_of_pos x (by omega : (0 : Int) < 6)
        obtain ⟨k, hk⟩ : ∃ k : Nat, x % 6 = (k : Int) := ⟨(x % 6).toNat, by omega⟩
        have hk6 : (k : Int) < 6 := by omega
        have hk0 : (0 : Int) ≤ (k : Int) := by omega
        have HR : Hid (∀ W, Calls Try.prog 30 #[.int .i64 x, .int .i64 6] W fun e w' => W = w' ∧ e = .returned (.int .i64 k)) := Lib.hid fun W => by
          rw [← hk]; exact Round_any W x 6 hokx (by omega) (by omega)
        have HK := Lib.hid hk
        have HX := Lib.hid hx
        have hi0 : (0 : Int) ≤ (i : Int) := Int.natCast_nonneg _
        have hi1 : (i : Int) < (l.length : Int) := by omega
        clear hk hx hcell hx0 hx1 hb
        have hlen : (l.take i).length ≤ 60 := by rw [List.length_take]; omega
        go_wp2_with fail
        refine (HR.out _).mono ?_
        rintro e w2 ⟨rfl, rfl⟩
        go_wp2_with fail
        refine (S_Block HST.out ((i : Int) + 1)).mono ?_
        rintro e w2 ⟨v1, rfl, h⟩
        have H2 := Lib.hid h
        clear h
        go_wp2_with fail
        refine (S_Write H2.out 2 0 rfl rfl (k : Int) (by rw [wrs_ops]; show 0 + _ < _; omega) (off_of_lim (wrs_lim _ _ _ _ _ rfl)) hk0 (by rw [wrs_n]; exact hk6) (blockOf_length _)).mono ?_
        rintro e w3 ⟨rfl, h⟩
        have H3 := Lib.hid h
        clear h H2
        have hfree := H3.out.arrFree (i := 1) rfl k
        obtain ⟨z, hz, _⟩ := HCZ.out k (by omega)
        have hcl : w3.cell? ⟨b1, k, none⟩ = some (.int .i64 z) := (H3.out.arrCell (i := 1) rfl k).trans hz
        clear hz
        go_wp2
        have hnew : FlRel w b1 d l (i + 1) (w3.setCell ⟨b1, k, none⟩ (.int .i64 ((i : Int) + 1))) := by
          have h4 := H3.out.setArr 1 rfl k (.int .i64 ((i : Int) + 1))
          have hD := wrs_take 6 succI (DSt.new 6) l i x HX.out
          rw [HK.out] at hD
          refine ⟨c.setIfInBounds k (.int .i64 ((i : Int) + 1)), ?_, by rw [Array.size_setIfInBounds]; exact HCS.out, fun j hj => ?_⟩
          · rw [hD]; exact h4.drop 1
          · rw [hD]
            by_cases hjk : j = k
            · subst hjk
              refine ⟨(i : Int) + 1, ?_, last_put_same _ _ _⟩
              exact Array.getElem?_setIfInBounds_self_of_lt (by rw [HCS.out]; exact hj)
            · obtain ⟨z', hz', hl'⟩ := HCZ.out j hj
              refine ⟨z', ?_, ?_⟩
              · rw [Array.getElem?_setIfInBounds_ne (Ne.symm hjk)]; exact hz'
              · rw [show ((k : Int)).toNat = k from rfl, last_put_other _ _ hjk, last_op]; exact hl'
        first | exact ⟨⟨i + 1, hlt, by go_num, hnew⟩, by simp [intOf]; omega⟩ | (go_roundw; case rel => exact ⟨i + 1, hlt, by go_num, hnew⟩; case measure => simp [intOf]; omega)
      · obtain rfl : i = l.length := by omega
        have HCZ2 : Hid (∀ k, k < 6 → ∃ z, c[k]? = some (.int .i64 z) ∧ (wrs 6 succI (DSt.new 6) 0 l).last k = blockOf z) := Lib.hid (by have := HCZ.out; rw [List.take_length] at this; exact this)
        have HST2 := Lib.hid (show St w wr [arr b1 c 41 ne41, dev d (wrs 6 succI (DSt.new 6) 0 l)] by have := HST.out; rw [List.take_length] at this; exact this)
        have HOPS : Hid ((wrs 6 succI (DSt.new 6) 0 l).ops ≤ 60) := Lib.hid (by rw [wrs_ops]; show 0 + _ ≤ _; omega)
        have HOFF : Hid ((wrs 6 succI (DSt.new 6) 0 l).off = false) := Lib.hid (off_of_lim (wrs_lim _ _ _ _ _ rfl))
        have HN : Hid ((wrs 6 succI (DSt.new 6) 0 l).n = 6) := Lib.hid (wrs_n _ _ _ _ _)
        clear HST HCZ
        generalize wrs 6 succI (DSt.new 6) 0 l = D at *
        go_wp2_with fail
        refine (S_Flush HST2.out 1 rfl (by have := HOPS.out; omega) HOFF.out).mono ?_
        rintro e w2 ⟨rfl, h⟩
        have H2 := Lib.hid h
        clear h HST2
        go_wp2_with fail
        refine (S_Crash H2.out 1 rfl (by have := HOPS.out; show D.ops + 1 < _; omega) _ picks (HV.out.frm H2.out.base) HP.out (by omega)).mono ?_
        rintro e w3 ⟨d2, rfl, h⟩
        have H3 := Lib.hid (show St w w3 [dev d2 (D.op.flushed.crash picks), arr b1 c 41 ne41] from h.pick [0, 1] _ (by decide) rfl)
        clear h H2
        have HE : Hid (∀ k, (D.op.flushed.crash picks).last k = D.last k) := Lib.hid fun k => crash_clean _ _ _ rfl
        have HEN : Hid ((D.op.flushed.crash picks).n = 6) := Lib.hid HN.out
        have HEO : Hid ((D.op.flushed.crash picks).ops = 0) := Lib.hid rfl
        generalize D.op.flushed.crash picks = E at *
        go_wp2_with fail
        go_loopw [11, 12, 13] (fun t _ _ wr => ∃ j : Nat, j ≤ 6 ∧ t = .int .i64 j ∧ St w wr [dev d2 E, arr b1 c 41 ne41]) (fun t _ _ _ => 6 - (intOf t).toNat)
        case atStart => exact ⟨0, Nat.zero_le _, rfl, H3.out⟩
        case round =>
          clear H3
          obtain ⟨j, hj, rfl, hst⟩ := hrel
          have HST := Lib.hid hst
          clear hst
          by_cases hlt2 : j < 6
          · have hj0 : (0 : Int) ≤ (j : Int) := Int.natCast_nonneg _
            have hj1 : (j : Int) < 6 := by omega
            obtain ⟨z, hz, hDz⟩ := HCZ2.out j hlt2
            have HEZ : Hid ((E.last ((j : Int)).toNat == blockOf z) = true) := Lib.hid (by rw [show ((j : Int)).toNat = j from rfl, HE.out, hDz]; exact beq_iff_eq.2 rfl)
            have HZ := Lib.hid hz
            clear hz hDz
            go_wp2_with fail
            refine (S_Read HST.out 0 rfl (j : Int) hj0 (by rw [HEN.out]; exact hj1) (by rw [HEO.out]; omega)).mono ?_
            rintro e w4 ⟨v4, rfl, h⟩
            have H4 := Lib.hid h
            clear h
            have hcl : w4.cell? ⟨b1, j, none⟩ = some (.int .i64 z) := (H4.out.arrCell (i := 2) rfl j).trans HZ.out
            go_wp2_with fail
            refine (S_Block H4.out z).mono ?_
            rintro e w5 ⟨v5, rfl, h⟩
            have H5 := Lib.hid h
            clear h H4 hcl
            go_wp2_with fail
            refine (S_Bytes H5.out 1 0 rfl rfl (by rw [DSt.last_length (H5.out.get (i := 2) rfl).wf]; omega)).mono ?_
            rintro e w6 ⟨rfl, h⟩
            rw [HEZ.out]
            have H6 := Lib.hid (h.drop 2)
            clear h H5
            go_wp2
            first | exact ⟨⟨j + 1, hlt2, by go_num, H6.out⟩, by simp [intOf]; omega⟩ | (go_roundw; case rel => exact ⟨j + 1, hlt2, by go_num, H6.out⟩; case measure => simp [intOf]; omega)
          · obtain rfl : j = 6 := by omega
            go_wp2_with fail
            refine (awake3_any HST.out).mono ?_
            rintro e w4 ⟨rfl, h⟩
            have H4 := Lib.hid h.base
            clear h
            go_wp2
            go_ret
            exact ⟨rfl, H4.out⟩
end Go.Proofs.Ytkanfpmmgaipnaa
