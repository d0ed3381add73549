/-
  DeviceLasts, walked.
-/
import Derived.Test.YtkanfpmmgaipnaaRes2
namespace Go.Proofs.Ytkanfpmmgaipnaa
set_option linter.unusedVariables false
open Go.ChangeMaps Go.MapKept Go.RowKit

theorem ne28 : (28 : TypeId) ≠ 5 := by decide

theorem run_make12 (W : World) : (Instr.makeSlice 22 (.int .i64 12) (.int .i64 12)).run Try.prog W = .ok (.slice (some ⟨W.heap.size, 0, none⟩) 12 12) (W.alloc (.cells #[.int .i64 0, .int .i64 0, .int .i64 0, .int .i64 0, .int .i64 0, .int .i64 0, .int .i64 0, .int .i64 0, .int .i64 0, .int .i64 0, .int .i64 0, .int .i64 0] 3 (0, 0))) := by
  obtain ⟨i0, hi0, hz0, hz1, hz2⟩ := info_parts infoI64
  have := run_make (P := Try.prog) W 22 3 i0 _ Try.underlying22 hi0 hz0 .i64 .i64 12 12 (by omega) (by omega) (by rw [hz2]; omega) (by omega)
  rw [hz1, show madeCells (Value.int IntKind.i64 0).cells (Int.toNat 12 * 1) = #[.int .i64 0, .int .i64 0, .int .i64 0, .int .i64 0, .int .i64 0, .int .i64 0, .int .i64 0, .int .i64 0, .int .i64 0, .int .i64 0, .int .i64 0, .int .i64 0] from Array.toList_inj.1 ((madeCells_one _ 12).trans rfl)] at this
  exact this

/-- Behind writes: what was written last is what the table says. -/
structure Fst12 (o : Nat) (D : DSt) (c : Array Value) : Prop where
  n : D.n = 12
  ops : D.ops ≤ o
  lim : D.lim = none
  size : c.size = 12
  last : ∀ k, k < 12 → ∃ z, c[k]? = some (.int .i64 z) ∧ D.last k = blockOf z

theorem Fst12.start : Fst12 0 (DSt.new 12) #[.int .i64 0, .int .i64 0, .int .i64 0, .int .i64 0, .int .i64 0, .int .i64 0, .int .i64 0, .int .i64 0, .int .i64 0, .int .i64 0, .int .i64 0, .int .i64 0] := by
  refine ⟨rfl, Nat.le_refl _, rfl, rfl, fun k hk => ⟨0, ?_, rfl⟩⟩
  rcases (by omega : k = 0 ∨ k = 1 ∨ k = 2 ∨ k = 3 ∨ k = 4 ∨ k = 5 ∨ k = 6 ∨ k = 7 ∨ k = 8 ∨ k = 9 ∨ k = 10 ∨ k = 11) with rfl | rfl | rfl | rfl | rfl | rfl | rfl | rfl | rfl | rfl | rfl | rfl <;> rfl

theorem Fst12.next {o : Nat} {D : DSt} {c : Array Value} (h : Fst12 o D c) (k : Nat) (hk : k < 12) (z : Int) : Fst12 (o + 1) (D.op.put k (blockOf z)) (c.setIfInBounds k (.int .i64 z)) := by
  refine ⟨h.n, Nat.succ_le_succ h.ops, by show D.lim.map (· - 1) = none; rw [h.lim]; rfl, by rw [Array.size_setIfInBounds]; exact h.size, fun j hj => ?_⟩
  by_cases e : j = k
  · subst e
    exact ⟨z, Array.getElem?_setIfInBounds_self_of_lt (by rw [h.size]; exact hj), last_put_same _ _ _⟩
  · obtain ⟨y, h1, h2⟩ := h.last j hj
    exact ⟨y, by rw [Array.getElem?_setIfInBounds_ne (Ne.symm e)]; exact h1, by rw [last_put_other _ _ e]; exact h2⟩

theorem Fst12.more {o p : Nat} {D : DSt} {c : Array Value} (h : Fst12 o D c) (hp : o ≤ p) : Fst12 p D c := ⟨h.n, Nat.le_trans h.ops hp, h.lim, h.size, h.last⟩

/-- Behind the flush and more writes: what was flushed is what the table says, what is pending is what the lists say. -/
structure Snd12 (o i : Nat) (D : DSt) (c c2 : Array Value) (f : Nat → List Int) : Prop where
  n : D.n = 12
  ops : D.ops ≤ o + i
  lim : D.lim = none
  size : c2.size = 12
  base : ∀ k, k < 12 → ∃ z, c[k]? = some (.int .i64 z) ∧ D.base k = blockOf z
  pend : ∀ k, D.pend k = (f k).map blockOf
  few : ∀ k, (f k).length ≤ i

theorem Fst12.flush {o : Nat} {D : DSt} {c c2 : Array Value} (h : Fst12 o D c) (hs : c2.size = 12) : Snd12 (o + 1) 0 D.op.flushed c c2 (fun _ => []) :=
  ⟨h.n, Nat.succ_le_succ h.ops, by show D.lim.map (· - 1) = none; rw [h.lim]; rfl, hs, h.last, fun _ => rfl, fun _ => Nat.le_refl _⟩

theorem Snd12.next {o i : Nat} {D : DSt} {c c2 : Array Value} {f : Nat → List Int} (h : Snd12 o i D c c2 f) (k : Nat) (z : Int) (v : Value) :
    Snd12 o (i + 1) (D.op.put k (blockOf z)) c (c2.setIfInBounds k v) (fun j => if j = k then f k ++ [z] else f j) := by
  refine ⟨h.n, Nat.succ_le_succ h.ops, by show D.lim.map (· - 1) = none; rw [h.lim]; rfl, by rw [Array.size_setIfInBounds]; exact h.size, h.base, fun j => ?_, fun j => ?_⟩
  · show (if j = k then D.pend k ++ [blockOf z] else D.pend j) = _
    by_cases e : j = k
    · simp only [if_pos e]; rw [h.pend, List.map_append]; rfl
    · simp only [if_neg e]; exact h.pend j
  · by_cases e : j = k
    · simp only [if_pos e]; rw [List.length_append, List.length_singleton]; exact Nat.succ_le_succ (h.few k)
    · simp only [if_neg e]; exact Nat.le_succ_of_le (h.few j)

theorem crash_one (D : DSt) (picks : List Int) (k : Nat) : (D.crash picks).last k = D.base k ∨ (D.crash picks).last k ∈ D.pend k := by
  show (if (D.pend k).isEmpty then D.base k else D.crashBlk picks k) = D.base k ∨ (if (D.pend k).isEmpty then D.base k else D.crashBlk picks k) ∈ D.pend k
  split
  · exact .inl rfl
  · unfold DSt.crashBlk
    split
    · exact .inl rfl
    · rw [List.getD_eq_getElem?_getD]
      cases h : (D.pend k)[D.pick picks k - 1]? with
      | none => exact .inl rfl
      | some b => exact .inr (List.mem_of_getElem? h)

theorem Snd12.crash {o i : Nat} {D : DSt} {c c2 : Array Value} {f : Nat → List Int} (h : Snd12 o i D c c2 f) (picks : List Int) (k : Nat) (hk : k < 12) :
    ∃ z, c[k]? = some (.int .i64 z) ∧ ((D.crash picks).last k = blockOf z ∨ ∃ x ∈ f k, (D.crash picks).last k = blockOf x) := by
  obtain ⟨z, h1, h2⟩ := h.base k hk
  refine ⟨z, h1, ?_⟩
  rcases crash_one D picks k with h3 | h3
  · exact .inl (h3.trans h2)
  · rw [h.pend] at h3
    obtain ⟨x, hx, e⟩ := List.mem_map.1 h3
    exact .inr ⟨x, hx, e.symm⟩

/-- The answer so far: true if the block is one of those that were looked at. -/
def SoFar (y : Blk) (z : Int) (l : List Int) (i : Nat) (B : Bool) : Prop := (y = blockOf z ∨ ∃ x ∈ l.take i, y = blockOf x) → B = true

theorem SoFar.start (y : Blk) (z : Int) (l : List Int) : SoFar y z l 0 (y == blockOf z) := fun h => by
  rcases h with h | ⟨x, hx, _⟩
  · exact beq_iff_eq.2 h
  · simp at hx
theorem SoFar.yes {y : Blk} {z : Int} {l : List Int} {i : Nat} : SoFar y z l i true := fun _ => rfl
theorem SoFar.next {y : Blk} {z : Int} {l : List Int} {i : Nat} (h : SoFar y z l i false) {x : Int} (hx : l[i]? = some x) : SoFar y z l (i + 1) (y == blockOf x) := fun h1 => by
  obtain ⟨h2, h3⟩ := List.getElem?_eq_some_iff.1 hx
  rcases h1 with h1 | ⟨u, hu, e⟩
  · exact absurd (h (.inl h1)) (by decide)
  · rw [List.take_succ_eq_append_getElem h2, List.mem_append, List.mem_singleton, h3] at hu
    rcases hu with hu | rfl
    · exact absurd (h (.inr ⟨u, hu, e⟩)) (by decide)
    · exact beq_iff_eq.2 e

set_option maxRecDepth 100000 in
theorem lasts_any (w : World) (u v p : Value) (l m picks : List Int) (hu : Elems w u (l.map IntK)) (hv : Elems w v (m.map IntK)) (hp : Elems w p (picks.map IntK)) (hl : ∀ x ∈ l, okI x) (hm : ∀ x ∈ m, okI x) (hq : ∀ x ∈ picks, okI x) :
    Calls Try.prog 3 #[u, v, p] w fun e w' => e = .returned (.bool true) ∧ Frm NoB w w' := by
  have H0 := Lib.hid (St.start w)
  have HV := Lib.hid hp
  obtain ⟨a, cap, rfl, ha⟩ := hu
  obtain ⟨b, capb, rfl, hb⟩ := hv
  obtain ⟨bp, capp, rfl, _⟩ := hp
  have HA := Lib.hid ha
  have HB := Lib.hid hb
  have HL := Lib.hid hl
  have HM := Lib.hid hm
  have HP := Lib.hid hq
  rw [List.length_map, List.length_map, List.length_map] at *
  clear ha hb hl hm hq
  by_cases hbig : 60 < l.length ∨ 60 < m.length ∨ 100 < picks.length
  · have HW := Lib.hid (awake3_any H0.out)
    by_cases h1 : 60 < l.length
    · have h1' : (60 : Int) < (l.length : Int) := by omega
      clear hbig
      go_enter Try.func3, Try.ntmps3
      go_wp2_with (go_at_call 28; refine HW.out.mono ?_; rintro e w2 ⟨rfl, h⟩)
      go_ret
      exact ⟨rfl, h.base⟩
    · have h1' : ¬ (60 : Int) < (l.length : Int) := by omega
      by_cases h2 : 60 < m.length
      · have h2' : (60 : Int) < (m.length : Int) := by omega
        clear hbig
        go_enter Try.func3, Try.ntmps3
        go_wp2_with (go_at_call 28; refine HW.out.mono ?_; rintro e w2 ⟨rfl, h⟩)
        go_ret
        exact ⟨rfl, h.base⟩
      · have h2' : ¬ (60 : Int) < (m.length : Int) := by omega
        have h3' : (100 : Int) < (picks.length : Int) := by omega
        clear hbig
        go_enter Try.func3, Try.ntmps3
        go_wp2_with (go_at_call 28; refine HW.out.mono ?_; rintro e w2 ⟨rfl, h⟩)
        go_ret
        exact ⟨rfl, h.base⟩
  · have h1' : ¬ (60 : Int) < (l.length : Int) := by omega
    have h2' : ¬ (60 : Int) < (m.length : Int) := by omega
    have h3' : ¬ (100 : Int) < (picks.length : Int) := by omega
    have h1 : l.length ≤ 60 := by omega
    have h2 : m.length ≤ 60 := by omega
    have h3 : picks.length ≤ 100 := by omega
    clear hbig
    have hmk := run_make12
    go_enter Try.func3, Try.ntmps3
    go_wp2_with fail
    refine (S_New H0.out 12 (by omega) (by omega)).mono ?_
    rintro e w1 ⟨d, rfl, h⟩
    have H1 := Lib.hid h
    clear h H0
    go_wp2_with fail
    clear hmk
    have h := (H1.out.newArr #[.int .i64 0, .int .i64 0, .int .i64 0, .int .i64 0, .int .i64 0, .int .i64 0, .int .i64 0, .int .i64 0, .int .i64 0, .int .i64 0, .int .i64 0, .int .i64 0] 3 neI8).newGrp #[.slice none 0 0, .slice none 0 0, .slice none 0 0, .slice none 0 0, .slice none 0 0, .slice none 0 0, .slice none 0 0, .slice none 0 0, .slice none 0 0, .slice none 0 0, .slice none 0 0, .slice none 0 0] 28 ne28 (fun j v hv => by
      obtain ⟨h1, h2⟩ := Array.getElem?_eq_some_iff.1 hv
      rw [← h2]
      have h1 : j < 12 := h1
      rcases (by omega : j = 0 ∨ j = 1 ∨ j = 2 ∨ j = 3 ∨ j = 4 ∨ j = 5 ∨ j = 6 ∨ j = 7 ∨ j = 8 ∨ j = 9 ∨ j = 10 ∨ j = 11) with rfl | rfl | rfl | rfl | rfl | rfl | rfl | rfl | rfl | rfl | rfl | rfl <;> rfl)
    have H2 := Lib.hid h
    have HC2 : Hid ((#[.slice none 0 0, .slice none 0 0, .slice none 0 0, .slice none 0 0, .slice none 0 0, .slice none 0 0, .slice none 0 0, .slice none 0 0, .slice none 0 0, .slice none 0 0, .slice none 0 0, .slice none 0 0] : Array Value).size = 12) := Lib.hid rfl
    have HF0 := Lib.hid Fst12.start
    clear h H1
    simp only [size_alloc] at H2
    generalize w1.heap.size + 1 = b3 at *
    generalize w1.heap.size = b1 at *
    go_loopw [11, 12] (fun t _ wr => ∃ i : Nat, i ≤ l.length ∧ t = .int .i64 i ∧ ∃ D c c2, Fst12 i D c ∧ c2.size = 12 ∧ St w wr [grp b3 c2 28 ne28 (fun _ => []), arr b1 c 3 neI8, dev d D]) (fun t _ _ => l.length - (intOf t).toNat)
    case atStart => exact ⟨0, Nat.zero_le _, rfl, _, _, _, HF0.out, HC2.out, H2.out⟩
    case round =>
      clear H2 HC2 HF0
      obtain ⟨i, hi, rfl, D, c, c2, hf, hc2, hst⟩ := hrel
      have HST := Lib.hid hst
      have HF := Lib.hid hf
      have HC2 := Lib.hid hc2
      clear hst hf hc2
      by_cases hlt : i < l.length
      · obtain ⟨x, hx⟩ : ∃ x, l[i]? = some x := ⟨_, List.getElem?_eq_getElem hlt⟩
        obtain ⟨blk, off, rfl, hb, hcell⟩ := HA.out i (IntK x) (by rw [List.getElem?_map, hx]; rfl)
        have hcell' : wr.cell? ⟨blk, off + i, none⟩ = some (.int .i64 x) := by
          rw [← hcell]; exact HST.out.base.cell hb (fun e => e)
        have hokx : okI x := HL.out x (List.mem_of_getElem? hx)
        have hx0 := Int.emod_nonneg x (by omega : (12 : Int) ≠ 0)
        have hx1 := Int.emod_lt_of_pos x (by omega : (0 : Int) < 12)
        obtain ⟨k, hk⟩ : ∃ k : Nat, x % 12 = (k : Int) := ⟨(x % 12).toNat, by omega⟩
        have hk6 : (k : Int) < 12 := by omega
        have hk0 : (0 : Int) ≤ (k : Int) := by omega
        have HR : Hid (∀ W, Calls Try.prog 30 #[.int .i64 x, .int .i64 12] W fun e w' => W = w' ∧ e = .returned (.int .i64 k)) := Lib.hid fun W => by
          rw [← hk]; exact Round_any W x 12 hokx (by omega) (by omega)
        have hi0 : (0 : Int) ≤ (i : Int) := Int.natCast_nonneg _
        have hi1 : (i : Int) < (l.length : Int) := by omega
        clear hk hx hcell hx0 hx1 hb
        go_wp2_with fail
        refine (HR.out _).mono ?_
        rintro e w2 ⟨rfl, rfl⟩
        go_wp2_with fail
        refine (S_Block HST.out ((i : Int) + 1)).mono ?_
        rintro e w2 ⟨v1, rfl, h⟩
        have H2 := Lib.hid h
        clear h
        go_wp2_with fail
        refine (S_Write H2.out 3 0 rfl rfl (k : Int) (by have := HF.out.ops; omega) (off_of_lim HF.out.lim) hk0 (by rw [HF.out.n]; exact hk6) (blockOf_length _)).mono ?_
        rintro e w3 ⟨rfl, h⟩
        have H3 := Lib.hid (h.drop 1)
        clear h H2
        have hfree := H3.out.arrFree (i := 1) rfl k
        obtain ⟨z, hz, _⟩ := HF.out.last k (by omega)
        have hcl : w3.cell? ⟨b1, k, none⟩ = some (.int .i64 z) := (H3.out.arrCell (i := 1) rfl k).trans hz
        have HF2 := Lib.hid (HF.out.next k (by omega) ((i : Int) + 1))
        clear hz
        go_wp2
        have H4 := Lib.hid (H3.out.setArr 1 rfl k (.int .i64 ((i : Int) + 1)))
        first | exact ⟨⟨i + 1, hlt, by go_num, _, _, _, HF2.out, HC2.out, H4.out⟩, by simp [intOf]; omega⟩ | (go_roundw; case rel => first | exact ⟨i + 1, hlt, by go_num, _, _, _, HF2.out, HC2.out, H4.out⟩ | ((repeat apply Exists.intro); exact ⟨⟨i + 1, hlt, by go_num, _, _, _, HF2.out, HC2.out, H4.out⟩, rfl⟩); case measure => simp [intOf]; omega)
      · have hlt' : ¬ (i : Int) < (l.length : Int) := by omega
        have HFo : Hid (i ≤ 60) := Lib.hid (by omega)
        go_wp2_with fail
        refine (S_Flush HST.out 2 rfl (by have := HF.out.ops; omega) (off_of_lim HF.out.lim)).mono ?_
        rintro e w2 ⟨rfl, h⟩
        have H2 := Lib.hid h
        have HS0 := Lib.hid ((HF.out.more HFo.out).flush HC2.out)
        clear h HST
        go_wp2_with fail
        go_loopw [13, 14] (fun t _ wr => ∃ i2 : Nat, i2 ≤ m.length ∧ t = .int .i64 i2 ∧ ∃ D c2 f, Snd12 61 i2 D c c2 f ∧ St w wr [grp b3 c2 28 ne28 f, arr b1 c 3 neI8, dev d D]) (fun t _ _ => m.length - (intOf t).toNat)
        case atStart => exact ⟨0, Nat.zero_le _, rfl, _, _, _, HS0.out, H2.out⟩
        case round =>
          clear H2 HS0 HF HC2 hlt hi
          clear hlt' D c2
          obtain ⟨i, hi, rfl, D, c2, f, hf, hst⟩ := hrel
          have HST := Lib.hid hst
          have HF := Lib.hid hf
          clear hst hf
          by_cases hlt : i < m.length
          · obtain ⟨x, hx⟩ : ∃ x, m[i]? = some x := ⟨_, List.getElem?_eq_getElem hlt⟩
            obtain ⟨blk, off, rfl, hb, hcell⟩ := HB.out i (IntK x) (by rw [List.getElem?_map, hx]; rfl)
            have hcell' : wr.cell? ⟨blk, off + i, none⟩ = some (.int .i64 x) := by
              rw [← hcell]; exact HST.out.base.cell hb (fun e => e)
            have hokx : okI x := HM.out x (List.mem_of_getElem? hx)
            have hx0 := Int.emod_nonneg x (by omega : (12 : Int) ≠ 0)
            have hx1 := Int.emod_lt_of_pos x (by omega : (0 : Int) < 12)
            obtain ⟨k, hk⟩ : ∃ k : Nat, x % 12 = (k : Int) := ⟨(x % 12).toNat, by omega⟩
            have hk6 : (k : Int) < 12 := by omega
            have hk0 : (0 : Int) ≤ (k : Int) := by omega
            have HR : Hid (∀ W, Calls Try.prog 30 #[.int .i64 x, .int .i64 12] W fun e w' => W = w' ∧ e = .returned (.int .i64 k)) := Lib.hid fun W => by
              rw [← hk]; exact Round_any W x 12 hokx (by omega) (by omega)
            have hi0 : (0 : Int) ≤ (i : Int) := Int.natCast_nonneg _
            have hi1 : (i : Int) < (m.length : Int) := by omega
            clear hk hx hcell hx0 hx1 hb
            go_wp2_with fail
            refine (HR.out _).mono ?_
            rintro e w2 ⟨rfl, rfl⟩
            go_wp2_with fail
            refine (S_Block HST.out (100 + (i : Int))).mono ?_
            rintro e w2 ⟨v1, rfl, h⟩
            have H2 := Lib.hid h
            clear h
            go_wp2_with fail
            refine (S_Write H2.out 3 0 rfl rfl (k : Int) (by have := HF.out.ops; omega) (off_of_lim HF.out.lim) hk0 (by rw [HF.out.n]; exact hk6) (blockOf_length _)).mono ?_
            rintro e w3 ⟨rfl, h⟩
            have H3 := Lib.hid (h.drop 1)
            clear h H2
            obtain ⟨v, hv⟩ : ∃ v, c2[k]? = some v := ⟨_, Array.getElem?_eq_getElem (by rw [HF.out.size]; omega)⟩
            have hcl : w3.cell? ⟨b3, k, none⟩ = some v := (H3.out.grpCell (i := 0) rfl k).trans hv
            have HV' := Lib.hid hv
            have HO := Lib.hid ((H3.out.grpOwns (i := 0) rfl hv).alloc (.cells #[.int .i64 (100 + (i : Int))] 3 (0, 0)))
            have HN : Hid (∀ (j : Nat) u, [Value.int .i64 (100 + (i : Int))][j]? = some u → (w3.alloc (.cells #[.int .i64 (100 + (i : Int))] 3 (0, 0))).cell? ((⟨w3.heap.size, 0, none⟩ : Addr).add j) = some u) := Lib.hid fun j u hj => by
              obtain ⟨h1, h2⟩ := List.getElem?_eq_some_iff.1 hj
              obtain rfl : j = 0 := by simp at h1; exact h1
              rw [show ((⟨w3.heap.size, 0, none⟩ : Addr).add 0) = ⟨w3.heap.size, 0, none⟩ from rfl, cell_of_block (block_alloc_new _ _), ← h2]
              rfl
            have hb3 := lt_of_block (H3.out.get (i := 0) rfl).1
            have hfew := HF.out.few k
            obtain ⟨ii, hi0i, hz0, hz1, hz2⟩ := info_parts infoI64
            clear hv
            go_wp2_with (at_builtin; refine wpList_append_own_at _ rfl _ _ 22 rfl (b3 + 1) 3 ii (.int .i64 0) 1 8 Try.underlying22 hi0i hz0 hz1 hz2 rfl (by decide) _ _ _ rfl HO.out ⟨w3.heap.size, 0, none⟩ 1 1 [.int .i64 (100 + (i : Int))] rfl rfl HN.out ?c0 ?c1 ?c2 ?c3 ?_)
            case c0 => intro u hu; simp at hu; subst hu; rfl
            case c1 => simp only [maxLen]; omega
            case c2 => omega
            case c3 => rw [size_alloc]; omega
            intro v' w4 ho hg hn hat
            have hmid := H3.out.grpMid 0 rfl HV'.out _ hg
            have hfree : w4.frozen? ⟨b3, k, none⟩ = false := frozen_of_block hmid
            have hcl4 : w4.cell? ⟨b3, k, none⟩ = some v := (cell_of_block hmid).trans HV'.out
            have h5 := H3.out.grpAppend 0 rfl HV'.out _ (100 + (i : Int)) ho hg (by rw [size_alloc]; exact hat)
            have HF2 := Lib.hid (HF.out.next k (100 + (i : Int)) v')
            have H5 := Lib.hid h5
            have hne : v' ≠ .slice none 0 0 := fun e => hn e
            obtain ⟨g, gc, rfl⟩ : ∃ g gc, v' = .slice (some ⟨g, 0, none⟩) ((f k).length + 1) gc := by
              rcases ho.2 with h | ⟨g, gc, _, h, _⟩
              · exact absurd h.1 hne
              · exact ⟨g, gc, h⟩
            clear ho hg hn hat hmid h5 hne hcl
            go_wp2
            first | exact ⟨⟨i + 1, hlt, by go_num, _, _, _, HF2.out, H5.out⟩, by simp [intOf]; omega⟩ | (go_roundw; case rel => first | exact ⟨i + 1, hlt, by go_num, _, _, _, HF2.out, H5.out⟩ | ((repeat apply Exists.intro); exact ⟨⟨i + 1, hlt, by go_num, _, _, _, HF2.out, H5.out⟩, rfl⟩); case measure => simp [intOf]; omega)
          · have hlt' : ¬ (i : Int) < (m.length : Int) := by omega
            have HI60 : Hid (i ≤ 60) := Lib.hid (by omega)
            go_wp2_with fail
            refine (S_Crash HST.out 2 rfl (by have := HF.out.ops; have := HI60.out; omega) _ picks (HV.out.frm HST.out.base) HP.out (by omega)).mono ?_
            rintro e w3 ⟨d2, rfl, h⟩
            have H3 := Lib.hid (show St w w3 [dev d2 (D.crash picks), grp b3 c2 28 ne28 f, arr b1 c 3 neI8] from h.pick [0, 1, 2] _ (by decide) rfl)
            have HE : Hid (∀ k, k < 12 → ∃ z, c[k]? = some (.int .i64 z) ∧ ((D.crash picks).last k = blockOf z ∨ ∃ x ∈ f k, (D.crash picks).last k = blockOf x)) := Lib.hid fun k hk => HF.out.crash picks k hk
            have HEN : Hid ((D.crash picks).n = 12) := Lib.hid HF.out.n
            have HEO : Hid ((D.crash picks).ops = 0) := Lib.hid rfl
            have HCS : Hid (c2.size = 12) := Lib.hid HF.out.size
            have HFW : Hid (∀ k, (f k).length ≤ 60) := Lib.hid fun k => Nat.le_trans (HF.out.few k) HI60.out
            clear h HST HF hlt hi
            generalize D.crash picks = E at *
            go_wp2_with fail
            go_loopw [16, 17, 18, 19, 20] (fun t _ _ _ _ wr => ∃ j : Nat, j ≤ 12 ∧ t = .int .i64 j ∧ St w wr [dev d2 E, grp b3 c2 28 ne28 f, arr b1 c 3 neI8]) (fun t _ _ _ _ _ => 12 - (intOf t).toNat)
            case atStart => exact ⟨0, Nat.zero_le _, rfl, H3.out⟩
            case round =>
              clear H3
              obtain ⟨j, hj, rfl, hst⟩ := hrel
              have HST := Lib.hid hst
              clear hst
              by_cases hlt2 : j < 12
              · have hj0 : (0 : Int) ≤ (j : Int) := Int.natCast_nonneg _
                have hj1 : (j : Int) < 12 := by omega
                obtain ⟨z, hz, hdz⟩ := HE.out j hlt2
                have HZ := Lib.hid hz
                have HDZ := Lib.hid hdz
                have hfw := HFW.out j
                obtain ⟨v, hv⟩ : ∃ v, c2[j]? = some v := ⟨_, Array.getElem?_eq_getElem (by rw [HCS.out]; exact hlt2)⟩
                obtain ⟨av, capv, hveq, _⟩ := elems_of_owns (HST.out.grpOwns (i := 1) rfl hv)
                rw [List.length_map] at hveq
                subst hveq
                have HVV := Lib.hid hv
                clear hz hdz hv
                go_wp2_with fail
                refine (S_Read HST.out 0 rfl (j : Int) hj0 (by rw [HEN.out]; exact hj1) (by rw [HEO.out]; omega)).mono ?_
                rintro e w4 ⟨v4, rfl, h⟩
                have H4 := Lib.hid (show St w w4 [byt v4 (E.last j), dev d2 E, grp b3 c2 28 ne28 f, arr b1 c 3 neI8] from h)
                clear h
                have hcl : w4.cell? ⟨b1, j, none⟩ = some (.int .i64 z) := (H4.out.arrCell (i := 3) rfl j).trans HZ.out
                go_wp2_with fail
                refine (S_Block H4.out z).mono ?_
                rintro e w5 ⟨v5, rfl, h⟩
                have H5 := Lib.hid h
                clear h H4 hcl
                go_wp2_with fail
                refine (S_Bytes H5.out 1 0 rfl rfl (by rw [DSt.last_length (H5.out.get (i := 2) rfl).wf]; omega)).mono ?_
                rintro e w6 ⟨rfl, h⟩
                have H6 := Lib.hid (h.drop 1)
                have HSF := Lib.hid (SoFar.start (E.last j) z (f j))
                clear h H5
                generalize (E.last j == blockOf z) = B0 at *
                go_wp2_with fail
                go_loopw [19, 20] (fun tb ti wr => ∃ i3 : Nat, i3 ≤ (f j).length ∧ ti = .int .i64 i3 ∧ ∃ B : Bool, tb = .bool B ∧ SoFar (E.last j) z (f j) i3 B ∧ St w wr [byt v4 (E.last j), dev d2 E, grp b3 c2 28 ne28 f, arr b1 c 3 neI8]) (fun _ ti _ => (f j).length - (intOf ti).toNat)
                case atStart => exact ⟨0, Nat.zero_le _, rfl, _, rfl, HSF.out, H6.out⟩
                case round =>
                  clear H6 HSF HST
                  obtain ⟨i3, hi3, rfl, B, rfl, hsf, hst⟩ := hrel
                  have HST := Lib.hid hst
                  have HSF := Lib.hid hsf
                  clear hst hsf
                  have hcl : wr.cell? ⟨b3, j, none⟩ = some (.slice av (f j).length capv) := (HST.out.grpCell (i := 2) rfl j).trans HVV.out
                  by_cases hlt3 : i3 < (f j).length
                  · obtain ⟨x, hx⟩ : ∃ x, (f j)[i3]? = some x := ⟨_, List.getElem?_eq_getElem hlt3⟩
                    obtain ⟨blk, off, rfl, hb, hcell⟩ := Elems.at (elems_of_owns (HST.out.grpOwns (i := 2) rfl HVV.out)) rfl hx
                    have hi30 : (0 : Int) ≤ (i3 : Int) := Int.natCast_nonneg _
                    have hi31 : (i3 : Int) < ((f j).length : Int) := by omega
                    have HX := Lib.hid hx
                    clear hx hb
                    cases B
                    · go_wp2_with fail
                      refine (S_Block HST.out x).mono ?_
                      rintro e w7 ⟨v7, rfl, h⟩
                      have H7 := Lib.hid h
                      clear h
                      go_wp2_with fail
                      refine (S_Bytes H7.out 1 0 rfl rfl (by rw [DSt.last_length (H7.out.get (i := 2) rfl).wf]; omega)).mono ?_
                      rintro e w8 ⟨rfl, h⟩
                      have H8 := Lib.hid (h.drop 1)
                      have HSF2 := Lib.hid (HSF.out.next HX.out)
                      clear h H7
                      generalize (E.last j == blockOf x) = B1 at *
                      go_wp2
                      first | exact ⟨⟨i3 + 1, hlt3, by go_num, _, rfl, HSF2.out, H8.out⟩, by simp [intOf]; omega⟩ | (go_roundw; case rel => first | exact ⟨i3 + 1, hlt3, by go_num, _, rfl, HSF2.out, H8.out⟩ | ((repeat apply Exists.intro); exact ⟨⟨i3 + 1, hlt3, by go_num, _, rfl, HSF2.out, H8.out⟩, rfl⟩); case measure => simp [intOf]; omega)
                    · go_wp2
                      first | exact ⟨⟨i3 + 1, hlt3, by go_num, _, rfl, SoFar.yes, HST.out⟩, by simp [intOf]; omega⟩ | (go_roundw; case rel => first | exact ⟨i3 + 1, hlt3, by go_num, _, rfl, SoFar.yes, HST.out⟩ | ((repeat apply Exists.intro); exact ⟨⟨i3 + 1, hlt3, by go_num, _, rfl, SoFar.yes, HST.out⟩, rfl⟩); case measure => simp [intOf]; omega)
                  · have hi31 : ¬ (i3 : Int) < ((f j).length : Int) := by omega
                    obtain rfl : B = true := HSF.out (by rw [List.take_of_length_le (by omega)]; exact HDZ.out)
                    have H9 := Lib.hid (HST.out.drop 1)
                    clear HST
                    go_wp2
                    first | exact ⟨⟨j + 1, hlt2, by go_num, H9.out⟩, by simp [intOf]; omega⟩ | (go_roundw; case rel => first | exact ⟨j + 1, hlt2, by go_num, H9.out⟩ | ((repeat apply Exists.intro); exact ⟨⟨j + 1, hlt2, by go_num, H9.out⟩, rfl⟩); case measure => simp [intOf]; omega)
              · have hj8 : ¬ (j : Int) < 12 := by omega
                clear hlt2 hj
                go_wp2_with fail
                refine (awake3_any HST.out).mono ?_
                rintro e w10 ⟨rfl, h⟩
                have H10 := Lib.hid h.base
                clear h
                go_wp2
                go_ret
                exact ⟨rfl, H10.out⟩
end Go.Proofs.Ytkanfpmmgaipnaa
