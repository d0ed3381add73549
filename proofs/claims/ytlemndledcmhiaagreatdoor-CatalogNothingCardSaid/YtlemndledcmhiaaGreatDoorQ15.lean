/-
  The catalog, from the device up, part 15.
-/
import Derived.Test.YtlemndledcmhiaaGreatDoorQ14
import Derived.Shelf.SlIterI.Collect
import Derived.RangeFuncNested
import Derived.Shelf.SlSortCmp.NoneTotal
namespace Go.Proofs.YtlemndledcmhiaaGreatDoor
set_option linter.unusedVariables false
set_option linter.unusedSimpArgs false
section
open Go.ChangeMaps Go.MapKept Go.RowKit
theorem append_zeros8 (w : World) (base : Nat) (v : Value) (bs : Blk) (ty : TypeId) (h : OwnB w base v bs) (hl : bs.length ≤ 100000) (hb : base ≤ w.heap.size) :
    ∃ v' w', (Builtin.append_ #[76, 3] ty #[v, .int .i64 8]).run Tryz.prog w = .ok v' w' ∧ OwnB w' base v' (bs ++ nought 8) ∧ Frm (OwnV v) w w' := by
  obtain ⟨i0, hi0, hz0, hz1, hz2⟩ := info_parts infoU8
  have hint : Tryz.prog.underlying 3 = some (.int .i64) := Tryz.underlying3
  have hmap : (bs ++ nought 8).map B8 = bs.map B8 ++ List.replicate 8 (.int .u8 0) := by rw [List.map_append]; rfl
  have hlen : (bs ++ nought 8).length = bs.length + 8 := by rw [List.length_append]; rfl
  have grown : ∀ (old : Nat), old < bs.length + 8 → OwnB (w.drew.alloc (.cells ((bs.map B8).toArray ++ Builtin.zeroCells (Value.int .u8 0).cells 8 ++ Builtin.zeroCells (Value.int .u8 0).cells (grownCap w (bs.length + 8) old 5 - (bs.length + 8))) 5)) base
      (.slice (some ⟨w.heap.size, 0, none⟩) (bs.length + 8) (grownCap w (bs.length + 8) old 5)) (bs ++ nought 8) := by
    intro old ho
    have hge := grownCap_ge w (bs.length + 8) old 5
    have hcm : grownCap w (bs.length + 8) old 5 ≤ maxLen := grownCap_le_maxLen w (bs.length + 8) old 5 (by simp only [maxLen]; omega)
    refine ⟨by rw [List.length_map, Nat.mul_one], .inr ⟨w.heap.size, _, _, by rw [hlen], hb, heap_alloc_new w.drew _, by rw [hlen]; exact hge, hcm, ?_, ?_⟩⟩
    · simp only [Array.size_append, List.size_toArray, size_zeroCells, List.length_map]
      show bs.length + 8 * 1 + (grownCap w (bs.length + 8) old 5 - (bs.length + 8)) * 1 = _
      omega
    · simp only [Array.toList_append, zeroCells_u8, hlen, Nat.mul_one]
      rw [hmap]
      have : ((bs.map B8) ++ List.replicate 8 (Value.int .u8 0)).length = bs.length + 8 := by simp
      rw [← this]
      exact List.take_left
  rcases h.2 with ⟨rfl, h0⟩ | ⟨g, cap, cur, rfl, hbg, hg, hnc, hcm, hcs, htake⟩
  · have hx : bs = [] := List.eq_nil_of_length_eq_zero h0
    subst hx
    have hr := Lib.run_append_nil_zeros (P := Tryz.prog) w 76 3 ty 5 i0 (.int .u8 0) .i64 .i64 Tryz.underlying76 hint hi0 hz0 8 (by omega) (by rw [hz1]; omega) (by omega) (by rw [hz2]; omega)
    refine ⟨_, _, hr, ?_, ((Frm.refl _ w).drew).alloc _⟩
    have := grown 0 (by show 0 < 8; omega)
    simpa using this
  · by_cases hroom : bs.length + 8 ≤ cap
    · have hcs : cur.size = cap := by rw [hcs, Nat.mul_one]
      have htake : cur.toList.take bs.length = bs.map B8 := by rw [Nat.mul_one] at htake; exact htake
      have hst := run_storeCells_at (P := Tryz.prog) g bs.length 5 (List.replicate 8 (.int .u8 0)) 0 cur w hg (by simp; omega) (by intro x hx; rw [List.eq_of_mem_replicate hx]; rfl)
      have hadd : (⟨g, 0, none⟩ : Addr).add bs.length = ⟨g, bs.length, none⟩ := by unfold Addr.add; split <;> simp_all
      have hzc : (Builtin.zeroCells (Value.int .u8 0).cells 8).toList = [Value.int .u8 0, Value.int .u8 0, Value.int .u8 0, Value.int .u8 0, Value.int .u8 0, Value.int .u8 0, Value.int .u8 0, Value.int .u8 0] := zeroCells_u8 8
      have hst2 : (storeCells ((⟨g, 0, none⟩ : Addr).add bs.length) [Value.int .u8 0, Value.int .u8 0, Value.int .u8 0, Value.int .u8 0, Value.int .u8 0, Value.int .u8 0, Value.int .u8 0, Value.int .u8 0]).run Tryz.prog w = .ok () (w.setRow g (cur.toList.take bs.length ++ [Value.int .u8 0, Value.int .u8 0, Value.int .u8 0, Value.int .u8 0, Value.int .u8 0, Value.int .u8 0, Value.int .u8 0, Value.int .u8 0] ++ cur.toList.drop (bs.length + 8)).toArray) := by rw [hadd]; exact hst
      have hr : (Builtin.append_ #[76, 3] ty #[.slice (some ⟨g, 0, none⟩) bs.length cap, .int .i64 8]).run Tryz.prog w = .ok (.slice (some ⟨g, 0, none⟩) (bs.length + 8) cap) (w.setRow g (cur.toList.take bs.length ++ [Value.int .u8 0, Value.int .u8 0, Value.int .u8 0, Value.int .u8 0, Value.int .u8 0, Value.int .u8 0, Value.int .u8 0, Value.int .u8 0] ++ cur.toList.drop (bs.length + 8)).toArray) := by
        have hw : IntKind.i64.wrap (8 : Int) = 8 := by decide
        have h48i : ¬ (281474976710656 < 8 * (i0.bytes : Int)) := by rw [hz2]; omega
        have hns : ¬ (8 * i0.size = 0) := by rw [hz1]; omega
        simp only [Builtin.append_, run_underlying Tryz.underlying76, run_underlying hint, sizeOf, typeInfo, zeroValue, hi0, hz0, hz1, asInt, asIntOf, hw, hroom]
        simp [run_underlying hint, hw, h48i, hi0, hz0, hz1, hz2, hns, hzc, hroom, hst2, asInt, asIntOf, typeInfo, zeroValue, sizeOf]
      refine ⟨_, _, hr, ⟨by rw [List.length_map, Nat.mul_one], .inr ⟨g, cap, _, by rw [hlen], hbg, setRow_heap w g cur _ _ _ hg, by rw [hlen]; exact hroom, hcm, ?_, ?_⟩⟩, ?_⟩
      · simp only [List.size_toArray, List.length_append, List.length_take, List.length_drop, Array.length_toList, List.length_cons, List.length_nil]
        omega
      · rw [htake, hmap, hlen, Nat.mul_one]
        have : ((bs.map B8) ++ List.replicate 8 (Value.int .u8 0)).length = bs.length + 8 := by simp
        rw [← this]
        exact List.take_left
      · exact frm_own (by simp) rfl rfl rfl rfl fun k hk hne => setRow_other w g k _ hne
    · have hold : (Builtin.firstCells i0.size bs.length (.slice (some ⟨g, 0, none⟩) bs.length cap)).run Tryz.prog w.drew = .ok (bs.map B8).toArray w.drew :=
        run_firstCells_some (P := Tryz.prog) w.drew i0.size bs.length ⟨g, 0, none⟩ bs.length cap (bs.map B8) (by rw [hz1]; simp) (by
          intro j u hj
          have := h.cells (g := g) rfl j u hj
          simpa using this)
      have hr := Lib.run_append_grow_zeros (P := Tryz.prog) w 76 3 ty 5 i0 (.int .u8 0) .i64 .i64 Tryz.underlying76 hint hi0 hz0 (some ⟨g, 0, none⟩) bs.length cap (bs.map B8) hold 8 (by omega) (by rw [hz1]; omega) (by omega) (by omega) (by rw [hz2]; omega) (by rw [hz2]; have := nextslicecap_le (need := bs.length + 8) (old := cap) (by omega); omega)
      exact ⟨_, _, hr, grown cap (by omega), ((Frm.refl _ w).drew).alloc _⟩
theorem Clone_own (w : World) (v : Value) (bs : List UInt8) (R : Nat → Prop) (hv : BytesAt w v bs R) (hl : bs.length ≤ 140737488355328) :
    Calls Tryz.prog 146 #[v] w fun e w' => Frm NoB w w' ∧ ∃ v', e = .returned v' ∧ OwnB w' w.heap.size v' bs := by
  obtain ⟨i0, hi0, hz0, hz1, hz2⟩ := info_parts infoU8
  obtain ⟨blk, off, cap, rfl, hcap, hcell, _⟩ := hv.cells
  have hnil := Lib.run_eql_slice_nil (P := Tryz.prog)
  have hlt : blk < w.heap.size := by
    obtain ⟨blk', off', cap', c', e1, _, h3, _⟩ := hv
    cases e1
    exact h3.lt
  have hown : (w.alloc (.cells #[] 5 (0, 0))).ownsRow w.heap.size 5 1 (.slice (some ⟨w.heap.size, 0, none⟩) 0 0) 0 [] :=
    ⟨rfl, .inr ⟨w.heap.size, 0, #[], rfl, Nat.le_refl _, block_alloc_new _ _, Nat.le_refl _, Nat.zero_le _, rfl, rfl⟩⟩
  have hcell' : ∀ j u, (bs.map B8)[j]? = some u → (w.alloc (.cells #[] 5 (0, 0))).cell? ((⟨blk, off, none⟩ : Addr).add j) = some u := fun j u hj => by
    rw [← hcell j u hj]
    refine World.cell?_of_block (w := w) (Below.heap_alloc w _ _ ?_)
    unfold Addr.add
    split <;> exact hlt
  have HC := Lib.hid hcell'
  have HO := Lib.hid hown
  have HV := Lib.hid hv
  have h1 : ∀ u ∈ bs.map B8, u.oneCell' = true := by intro u hu; obtain ⟨x, _, rfl⟩ := List.mem_map.1 hu; rfl
  clear hcell hcell' hown hv
  go_enter Tryz.func146, Tryz.ntmps146
  go_wp2_with (at_builtin; refine wpList_append_own _ rfl _ _ 76 rfl w.heap.size 5 i0 (.int .u8 0) 1 1 Tryz.underlying76 hi0 hz0 hz1 hz2 rfl (by decide) _ _ _ rfl HO.out ⟨blk, off, none⟩ bs.length cap (bs.map B8) rfl ?c0 HC.out h1 ?c1 ?c2 ?c3 ?_)
  case c0 => simp
  case c1 => simp only [maxLen]; omega
  case c2 => omega
  case c3 => simp
  intro v' w' ho hg hn
  have hb : OwnB w' w.heap.size v' bs := by
    first | exact ho | simpa [OwnB] using ho
  have HB := Lib.hid hb
  have hf : Frm NoB w w' := ((Frm.refl NoB w).alloc _).trans (Frm.ofGrown hg) (fun x hx e => by simp [Value.ownBlock] at e; omega)
  have HF := Lib.hid hf
  clear hb ho hg hn hf
  go_wp2
  go_ret
  exact ⟨HF.out, v', rfl, HB.out⟩
theorem OwnB.put {w : World} {base g n cap : Nat} {bs : Blk} (h : OwnB w base (.slice (some ⟨g, 0, none⟩) n cap) bs) (j : Nat) (hj : j < bs.length) (y : UInt8) :
    OwnB (w.setCell ⟨g, 0 + j, none⟩ (B8 y)) base (.slice (some ⟨g, 0, none⟩) n cap) (bs.set j y) := by
  rcases h.2 with ⟨e, _⟩ | ⟨g', cap', cur, e, h2, h3, h4, h5, h6, h7⟩
  · cases e
  · injection e with e1 e2 e3
    injection e1 with e1
    injection e1 with e1
    subst e1 e2 e3
    refine ⟨by rw [List.length_map, Nat.mul_one], .inr ⟨g, cap, cur.setIfInBounds (0 + j) (B8 y), by rw [List.length_set], h2, block_setCell_same (i := 0 + j) (B8 y) h3, by rw [List.length_set]; exact h4, h5, by rw [Array.size_setIfInBounds]; exact h6, ?_⟩⟩
    rw [List.length_set, Array.toList_setIfInBounds, Nat.zero_add, List.take_set, h7, List.map_set]
theorem be8_get (n j : Nat) (h : j < 8) : (be8 n)[j]? = some (UInt8.ofNat (n / 256 ^ (7 - j))) := by
  unfold be8
  rw [List.getElem?_reverse (by rw [leBytes_length]; exact h), leBytes_length, show 8 - 1 - j = 7 - j by omega]
  exact leBytes_get 8 n (7 - j) (by omega)
def putPB (bs : Blk) (p n i : Nat) : Blk := bs.take (p + 8 - i) ++ (be8 n).drop (8 - i) ++ bs.drop (p + 8)
theorem putPB_length (bs : Blk) (p n i : Nat) (hi : i ≤ 8) (h : p + 8 ≤ bs.length) : (putPB bs p n i).length = bs.length := by
  unfold putPB
  rw [List.length_append, List.length_append, List.length_take, List.length_drop, List.length_drop, be8_length]
  omega
theorem putPB_get (bs : Blk) (p n i k : Nat) (hi : i ≤ 8) (h : p + 8 ≤ bs.length) : (putPB bs p n i)[k]? = if p + 8 - i ≤ k ∧ k < p + 8 then (be8 n)[k - p]? else bs[k]? := by
  unfold putPB
  have h1 : (bs.take (p + 8 - i)).length = p + 8 - i := by rw [List.length_take]; omega
  have h2 : ((be8 n).drop (8 - i)).length = i := by rw [List.length_drop, be8_length]; omega
  rw [List.append_assoc, List.getElem?_append, h1]
  split
  · rw [if_neg (by omega), List.getElem?_take, if_pos (by omega)]
  · rw [List.getElem?_append, h2]
    split
    · rw [if_pos (by omega), List.getElem?_drop]
      congr 1
      omega
    · rw [if_neg (by omega), List.getElem?_drop]
      congr 1
      omega
theorem putPB_zero (bs : Blk) (p n : Nat) (h : p + 8 ≤ bs.length) : putPB bs p n 0 = bs := by
  apply List.ext_getElem?
  intro k
  rw [putPB_get _ _ _ _ _ (by omega) h, if_neg (by omega)]
theorem putPB_succ (bs : Blk) (p n i : Nat) (hi : i < 8) (h : p + 8 ≤ bs.length) : putPB bs p n (i + 1) = (putPB bs p n i).set (p + (7 - i)) (UInt8.ofNat (n / 256 ^ i)) := by
  apply List.ext_getElem?
  intro k
  rw [putPB_get _ _ _ _ _ (by omega) h, List.getElem?_set, putPB_length _ _ _ _ (by omega) h, putPB_get _ _ _ _ _ (by omega) h]
  by_cases e : p + (7 - i) = k
  · subst e
    rw [if_pos (by omega), if_pos rfl, if_pos (by omega), show p + (7 - i) - p = 7 - i by omega, be8_get _ _ (by omega), show 7 - (7 - i) = i by omega]
  · rw [if_neg e]
    by_cases hk : p + 8 - i ≤ k ∧ k < p + 8
    · rw [if_pos hk, if_pos (by omega)]
    · rw [if_neg hk, if_neg (by omega)]
set_option maxRecDepth 100000 in
theorem bitsPut_big (w : World) (v : Value) (bs : List UInt8) (p n : Nat) (R : Nat → Prop) (hv : BytesAt w v bs R) (h4 : p + 8 ≤ bs.length) (h5 : bs.length ≤ 140737488355328) (hn : n < 18446744073709551616) :
    Calls Tryz.prog 178 #[v, .int .i64 p, .int .i64 8, .bool true, .int .u64 n] w fun e w' => Frm NoB w w' ∧ ∃ v', e = .returned (.tuple #[v', .bool true]) ∧ OwnB w' w.heap.size v' (putPB bs p n 8) := by
  have HV := Lib.hid hv
  have HN := Lib.hid hn
  obtain ⟨a, cap, rfl, hcell⟩ := hv.sliceOf
  clear hcell hv hn
  go_enter Tryz.func178, Tryz.ntmps178
  go_wp2_with fail
  refine (bitsMay_any _ _ _ _ _ _ (by omega) (by omega) (by omega) (by omega) (by omega)).mono ?_
  rintro e w2 ⟨rfl, rfl⟩
  go_wp2_with fail
  refine (Clone_own w _ bs R HV.out h5).mono ?_
  rintro e w1 ⟨hf, v1, rfl, hb1⟩
  have HF := Lib.hid hf
  obtain ⟨g, cap1, rfl, hgb⟩ : ∃ g cap1, v1 = .slice (some ⟨g, 0, none⟩) bs.length cap1 ∧ w.heap.size ≤ g := by
    rcases hb1.2 with ⟨_, e⟩ | ⟨g, cap1, cur, e, h2, _⟩
    · omega
    · exact ⟨g, cap1, e, h2⟩
  have HB := Lib.hid hb1
  have HFR : Hid (w.heap.size ≤ g) := Lib.hid hgb
  clear hf hb1 hgb
  go_wp2_with fail
  go_loopw [13, 14, 23] (fun _ _ ti wr => ∃ i : Nat, i ≤ 8 ∧ ti = .int .i64 i ∧ Frm NoB w wr ∧ OwnB wr w.heap.size (.slice (some ⟨g, 0, none⟩) bs.length cap1) (putPB bs p n i)) (fun _ _ ti _ => 8 - (intOf ti).toNat)
  case atStart => exact ⟨0, Nat.zero_le _, rfl, HF.out, by rw [putPB_zero _ _ _ h4]; exact HB.out⟩
  case round =>
    clear HF HB
    obtain ⟨i, hi, rfl, hf, hb⟩ := hrel
    have HF := Lib.hid hf
    have HB := Lib.hid hb
    clear hf hb
    by_cases hlt : i < 8
    · have hi0 : (0 : Int) ≤ (i : Int) := Int.natCast_nonneg _
      have hi1 : (i : Int) < 8 := by omega
      obtain ⟨k, hk⟩ : ∃ k : Nat, p + (7 - i) = k := ⟨_, rfl⟩
      have e0 : (8 : Int) - 1 - (i : Int) = ((7 - i : Nat) : Int) := by omega
      have e1 : ((p : Int) + ((7 : Int) - (i : Int))) = (k : Int) := by omega
      have e2 : ((p : Int) + ((8 : Int) - 1 - (i : Int))) = (k : Int) := by omega
      have hk1 : (k : Int) < (bs.length : Int) := by omega
      have hk2 : (k : Int) < 140737488355328 := by omega
      have hk0 : (0 : Int) ≤ (k : Int) := Int.natCast_nonneg _
      have HK := Lib.hid hk
      obtain ⟨s, hs⟩ : ∃ s : Int, 8 * (i : Int) = s := ⟨_, rfl⟩
      have hs0 : 0 ≤ s := by omega
      have hs1 : s ≤ 56 := by omega
      have hws : IntKind.i64.wrap (8 * (i : Int)) = s := by rw [hs]; exact IntWalk.i64_in (by omega) (by omega)
      have hsn : ¬ s < 0 := by omega
      have hsh := shr_nat n i s hs
      clear hs
      have hb8 := byte_nat (n / 256 ^ i)
      have HY := Lib.hid (putPB_succ bs p n i hlt h4)
      generalize n / 256 ^ i = q at *
      generalize UInt8.ofNat q = y at *
      have hbs : putPB bs p n i ≠ [] := fun e => by
        have := putPB_length bs p n i (by omega) h4
        rw [e] at this
        have : 0 = bs.length := this
        omega
      have hcell : ∃ u, wr.cell? ⟨g, k, none⟩ = some u := by
        obtain ⟨a', cap', e, hcl⟩ := (HB.out.bytes hbs).sliceOf
        injection e with e1 e2 e3
        subst e1
        obtain ⟨b', o', e', _, hc⟩ := hcl (p + (7 - i)) _ (List.getElem?_eq_getElem (by rw [putPB_length _ _ _ _ (by omega) h4]; omega))
        injection e' with e'
        injection e' with e1 e2
        subst e1 e2
        rw [Nat.zero_add] at hc
        exact ⟨_, by rw [← hk]; exact hc⟩
      obtain ⟨u, hcell⟩ := hcell
      have hfree : wr.frozen? ⟨g, k, none⟩ = false := by
        rcases HB.out.2 with ⟨e, _⟩ | ⟨g', cap', cur, e, h2, h3, _⟩
        · cases e
        · injection e with e1 e2 e3
          injection e1 with e1
          injection e1 with e1
          subst e1
          exact frozen_of_block h3
      clear hk hbs
      go_wp2
      have HB2 := HB.out.put (p + (7 - i)) (by rw [putPB_length _ _ _ _ (by omega) h4]; omega) y
      rw [← HY.out, HK.out, Nat.zero_add] at HB2
      exact ⟨⟨i + 1, hlt, by go_num, HF.out.setCell (.inr HFR.out) _, HB2⟩, by simp [intOf]; omega⟩
    · obtain rfl : i = 8 := by omega
      go_wp2
      go_ret2
      exact ⟨HF.out, _, rfl, HB.out⟩
def headBE (bs : Blk) (p i : Nat) : Nat := leVal ((bs.drop p).take i).reverse
theorem headBE_succ (bs : Blk) (p i : Nat) (y : UInt8) (hy : bs[p + i]? = some y) : headBE bs p (i + 1) = headBE bs p i * 256 + y.toNat := by
  unfold headBE
  have h : (bs.drop p)[i]? = some y := by rw [List.getElem?_drop]; exact hy
  rw [List.take_add_one, h, Option.toList_some, List.reverse_append, List.reverse_singleton, List.singleton_append]
  show y.toNat + 256 * _ = _
  omega
theorem headBE_lt (bs : Blk) (p i : Nat) (h : p + i ≤ bs.length) : headBE bs p i < 256 ^ i := by
  unfold headBE
  have h1 := leVal_lt ((bs.drop p).take i).reverse
  have h2 : ((bs.drop p).take i).reverse.length = i := by rw [List.length_reverse, List.length_take, List.length_drop]; omega
  rwa [h2] at h1
set_option maxRecDepth 100000 in
theorem bitsGet_big (w : World) (v : Value) (bs : List UInt8) (p : Nat) (hv : SliceOf w v bs) (h4 : p + 8 ≤ bs.length) (h5 : bs.length < 4611686018427387904) :
    Calls Tryz.prog 147 #[v, .int .i64 p, .int .i64 8, .bool true] w fun e w' => w = w' ∧ e = .returned (.tuple #[.int .u64 (getBE bs p), .bool true]) := by
  obtain ⟨a, cap, rfl, hcell⟩ := hv
  have HC := Lib.hid hcell
  clear hcell
  go_enter Tryz.func147, Tryz.ntmps147
  go_wp2_with fail
  refine (bitsMay_any _ _ _ _ _ _ (by omega) (by omega) (by omega) (by omega) (by omega)).mono ?_
  rintro e w2 ⟨rfl, rfl⟩
  go_wp2_with fail
  go_loopw [8, 10, 11, 18] (fun tv _ _ ti wr => wr = w ∧ ∃ i : Nat, i ≤ 8 ∧ ti = .int .i64 i ∧ tv = .int .u64 (headBE bs p i)) (fun _ _ _ ti _ => 8 - (intOf ti).toNat)
  case atStart => exact ⟨rfl, 0, Nat.zero_le _, rfl, rfl⟩
  case round =>
    obtain ⟨rfl, i, hi, rfl, rfl⟩ := hrel
    by_cases hlt : i < 8
    · have hi0 : (0 : Int) ≤ (i : Int) := Int.natCast_nonneg _
      have hi1 : (i : Int) < 8 := by omega
      obtain ⟨y, hy⟩ : ∃ y, bs[p + i]? = some y := ⟨_, List.getElem?_eq_getElem (by omega)⟩
      obtain ⟨blk, off, rfl, hb, hc0⟩ := HC.out (p + i) y hy
      obtain ⟨k, hk⟩ : ∃ k : Nat, p + i = k := ⟨_, rfl⟩
      have hc : wr.cell? ⟨blk, off + k, none⟩ = some (.int .u8 y.toNat) := by rw [← hk]; exact hc0
      have hk1 : (k : Int) < (bs.length : Int) := by omega
      have hk2 : (k : Int) < 4611686018427387904 := by omega
      have hk0 : (0 : Int) ≤ (k : Int) := Int.natCast_nonneg _
      have HS := Lib.hid (headBE_succ bs p i y hy)
      have hx1 := Nat.lt_of_lt_of_le (headBE_lt bs p i (by omega)) (pow_le i (by omega))
      clear hy hc0
      generalize headBE bs p i = x at *
      have hyl := y.toNat_lt
      have e1 : ((p : Int) + (i : Int)) = (k : Int) := by omega
      clear hk
      have hw : IntKind.u64.wrap ((x : Int) * 256) = (x : Int) * 256 := u64_in (by omega) (by omega)
      have hwy : IntKind.u64.wrap (y.toNat : Int) = (y.toNat : Int) := u64_in (by omega) (by omega)
      have hor : Go.bits .or .u64 ((x : Int) * 256) (y.toNat : Int) = ((headBE bs p (i + 1) : Nat) : Int) := by rw [HS.out]; exact or_byte x y.toNat hx1 (by omega)
      go_wp2
      exact ⟨⟨trivial, i + 1, hlt, by go_num, rfl⟩, by simp [intOf]; omega⟩
    · obtain rfl : i = 8 := by omega
      have hT : headBE bs p 8 = getBE bs p := rfl
      rw [hT]
      go_wp2
      go_ret2
      exact ⟨rfl, rfl⟩
def u64n (v : Int) : Nat := (v % 18446744073709551616).toNat
theorem u64n_lt (v : Int) : u64n v < 18446744073709551616 := by unfold u64n; omega
theorem u64n_wrap (v : Int) : IntKind.u64.wrap v = (u64n v : Int) := by
  have : IntKind.u64.wrap v = v % 18446744073709551616 := by simp [IntKind.wrap, IntKind.bits, IntKind.signed]
  rw [this]
  unfold u64n
  omega
theorem i64_u64n (v : Int) (h0 : -9223372036854775808 ≤ v) (h1 : v ≤ 9223372036854775807) : IntKind.i64.wrap (u64n v : Int) = v := by
  rw [IntKind.wrap_i64]
  unfold u64n
  omega
def be (v : Int) : Blk := be8 (u64n v)
theorem be_length (v : Int) : (be v).length = 8 := be8_length _
theorem putPB_end (bs z : Blk) (n : Nat) (hz : z.length = 8) : putPB (bs ++ z) bs.length n 8 = bs ++ be8 n := by
  unfold putPB
  rw [show bs.length + 8 - 8 = bs.length by omega, List.take_left, Nat.sub_self, List.drop_zero, List.drop_of_length_le (by rw [List.length_append]; omega), List.append_nil]
theorem getBE_be (a b : Blk) (v : Int) (h0 : -9223372036854775808 ≤ v) (h1 : v ≤ 9223372036854775807) : IntKind.i64.wrap (getBE (a ++ be v ++ b) a.length : Int) = v := by
  have : getBE (a ++ be v ++ b) a.length = u64n v := by
    unfold getBE be be8
    rw [List.append_assoc, List.drop_left, List.take_append_of_le_length (by rw [List.length_reverse, leBytes_length]; omega), List.take_of_length_le (by rw [List.length_reverse, leBytes_length]; omega), List.reverse_reverse]
    exact leVal_leBytes 8 (u64n v) (u64n_lt v)
  rw [this]
  exact i64_u64n v h0 h1
set_option maxRecDepth 100000 in
theorem c_put (w : World) (base : Nat) (v : Value) (bs : Blk) (x : Int) (h : OwnB w base v bs) (hl : bs.length ≤ 100000) (hb : base ≤ w.heap.size) :
    Calls Tryz.prog 191 #[v, .int .i64 x] w fun e w' => ∃ v', e = .returned v' ∧ OwnB w' w.heap.size v' (bs ++ be x) ∧ Frm (OwnV v) w w' := by
  obtain ⟨v1, w1, hr, h1, hf1⟩ := append_zeros8 w base v bs 76 h hl hb
  obtain ⟨a, cap, rfl⟩ := h.slice
  have hlen1 : (bs ++ nought 8).length = bs.length + 8 := by rw [List.length_append]; rfl
  have HP := Lib.hid (bitsPut_big w1 v1 (bs ++ nought 8) bs.length (u64n x) _ (h1.bytes (fun e => by have := congrArg List.length e; rw [hlen1] at this; cases this)) (by rw [hlen1]; omega) (by rw [hlen1]; omega) (u64n_lt x))
  have hx := u64n_wrap x
  have HF1 := Lib.hid hf1
  have HB1 : Hid (w.heap.size ≤ w1.heap.size) := Lib.hid hf1.size
  have HR := Lib.hid hr
  clear h h1 hf1 hr
  go_enter Tryz.func191, Tryz.ntmps191
  go_wp2_with (at_builtin; refine Lib.wpList_append_run _ rfl _ _ _ _ rfl _ _ rfl rfl _ _ HR.out ?_)
  refine HP.out.mono ?_
  rintro e w2 ⟨hf2, v2, rfl, h2⟩
  have H2 : Hid (OwnB w2 w.heap.size v2 (bs ++ be x)) := Lib.hid (by rw [putPB_end _ _ _ (nought_len 8)] at h2; exact h2.mono HB1.out)
  have HF2 := Lib.hid (HF1.out.trans hf2 (fun _ _ e => e.elim))
  clear h2 hf2 HP HF1
  go_wp2
  go_ret
  exact ⟨v2, rfl, H2.out, HF2.out⟩
set_option maxRecDepth 100000 in
theorem c_get (w : World) (v : Value) (bs : Blk) (p : Nat) (h : SliceOf w v bs) (h4 : p + 8 ≤ bs.length) (hl : bs.length ≤ 100000) :
    Calls Tryz.prog 123 #[v, .int .i64 p] w fun e w' => w = w' ∧ e = .returned (.int .i64 (IntKind.i64.wrap (getBE bs p : Int))) := by
  have HG := Lib.hid (bitsGet_big w v bs p h h4 (by omega))
  clear h
  generalize getBE bs p = q at *
  obtain ⟨z, hz⟩ : ∃ z, IntKind.i64.wrap (q : Int) = z := ⟨_, rfl⟩
  rw [hz]
  go_enter Tryz.func123, Tryz.ntmps123
  go_wp2_with fail
  refine HG.out.mono ?_
  rintro e w2 ⟨rfl, rfl⟩
  go_wp2
  go_ret
  exact ⟨rfl, rfl⟩
theorem zeroCKey (W : World) : (zeroValue 95).run Tryz.prog W = .ok (.agg kc0) W := by kernel_rfl
theorem infoCKey (c : Array Value) (h : c.size = 51) : (Tryz.prog.info? 95).map (·.size) = some c.size := by rw [h]; kernel_rfl
theorem loadCKey {ops : Array Oper} {rest : List Oper} {o : Oper} {a : Act} {w : World} {Q : Exit → Act → World → Prop} (hw : Region.wanted o (yielded ops a.tmps) = true) (x : Operand) (ho : o.op = .load 95 x) (g : Nat) (hx : a.eval x = .pointer (some ⟨g, 0, none⟩)) (c : Array Value) (hc : c.size = 51)
    (hg : w.heap[g]? = some (.cells c 95 (0, 0))) (h : wpList Tryz.prog ops Q rest (a.put o.dst (.agg c)) w) : wpList Tryz.prog ops Q (o :: rest) a w :=
  BigFrame.wpList_want hw fun K hK => wp_load_row _ x ho g hx _ c _ _ hg Tryz.underlying95 rfl (infoCKey c hc) (hK _ _ h)
theorem storeCKey {ops : Array Oper} {rest : List Oper} {o : Oper} {a : Act} {w : World} {Q : Exit → Act → World → Prop} (hgd : o.guard = none) (x y : Operand) (ho : o.op = .store 95 x y) (g : Nat) (b : Blk) (hb : b.length = 51) (hx : a.eval x = .pointer (some ⟨g, 0, none⟩)) (hy : a.eval y = .agg (b.map B8).toArray) (old : Array Value) (hold : old.size = 51)
    (hg : w.heap[g]? = some (.cells old 95 (0, 0))) (h : wpList Tryz.prog ops Q rest (a.put o.dst undef) (w.setRow g (b.map B8).toArray)) : wpList Tryz.prog ops Q (o :: rest) a w :=
  wpList_store_row hgd _ x y ho g (b.map B8).toArray hx hy _ old hg (infoCKey _ (by simp [hb])) (by rw [hold]; simp [hb]) (oneB8 b) h
set_option maxRecDepth 100000 in
theorem c_of (w : World) (s : ByteArray) (hs : s.size ≤ 50) :
    Calls Tryz.prog 42 #[.string s] w fun e w' => e = .returned (.agg (keyC s)) ∧ Frm NoB w w' := by
  obtain ⟨g, hg⟩ : ∃ g, w.heap.size = g := ⟨_, rfl⟩
  have hb0 := block_alloc_new w (.cells kc0 95 (0, 0))
  have hf0 := (Frm.refl NoB w).alloc (.cells kc0 95 (0, 0))
  obtain ⟨y, hy⟩ : ∃ y, w.alloc (.cells kc0 95 (0, 0)) = y := ⟨_, rfl⟩
  have HG := Lib.hid hg
  rw [hy, hg] at hb0
  rw [hy] at hf0
  have d0 : y.cell? ⟨g, 0, none⟩ = some (.int .u8 0) := (cell_of_block hb0).trans rfl
  have f0 : y.frozen? ⟨g, 0, none⟩ = false := frozen_of_block hb0
  have hb1 := block_setCell_same (i := 0) (.int .u8 (s.size : Nat)) hb0
  have hf1 : Frm NoB w (y.setCell ⟨g, 0, none⟩ (.int .u8 (s.size : Nat))) := hf0.setCell (.inr (by rw [← hg]; exact Nat.le_refl _)) _
  obtain ⟨y1, hy1⟩ : ∃ y1, y.setCell ⟨g, 0, none⟩ (.int .u8 (s.size : Nat)) = y1 := ⟨_, rfl⟩
  rw [hy1] at hb1 hf1
  have hcp := fun ty c => Lib.run_copy_row_string (P := Tryz.prog) y1 76 9 ty 5 g 1 50 c s _ 95 Tryz.underlying76 (by kernel_rfl) hb1 hs (by rw [Array.size_setIfInBounds]; show 1 + s.size ≤ 51; omega)
  rw [key_cells s hs] at hcp
  have hsz : (keyC s).size = 51 := by unfold keyC; simp [keyB_length s hs]
  have hb2 := setRow_heap y1 g _ (keyC s) _ _ hb1
  have hf2 : Frm NoB w (y1.setRow g (keyC s)) := hf1.setRowNew (by rw [hg]; exact Nat.le_refl _) _
  have hs0 : (0 : Int) ≤ ((s.size : Nat) : Int) := Int.natCast_nonneg _
  have hs1 : ((s.size : Nat) : Int) ≤ 50 := by omega
  have HY := Lib.hid (And.intro hy hy1)
  have HB2 := Lib.hid hb2
  have HF2 := Lib.hid hf2
  have HSZ := Lib.hid hsz
  clear hb0 hf0 hb1 hf1 hb2 hf2 hsz hy hy1 hg
  go_enter Tryz.func42, Tryz.ntmps42
  go_upto_region 1 with (refine allocRow rfl _ _ zeroCKey rfl ?_)
  rw [HY.out.1, HG.out]
  go_upto_region 2 with fail
  rw [HY.out.2]
  clear d0 f0
  go_upto_region 3 with fail
  have HB3 := Lib.hid (setRow_heap (y1.setRow g (keyC s)) g _ (keyC s) _ _ HB2.out)
  have HF3 := Lib.hid (HF2.out.setRowNew (by rw [HG.out]; exact Nat.le_refl _) (keyC s))
  go_wp2_with (first | (refine loadCKey rfl _ rfl g rfl _ HSZ.out HB2.out ?_) | (refine storeCKey rfl _ _ rfl g (keyB s) (keyB_length s hs) rfl rfl _ HSZ.out HB2.out ?_))
  have hld := run_loadVar_row (P := Tryz.prog) ((y1.setRow g (keyC s)).setRow g (keyC s)) g 95 95 (keyC s) (0, 0) _ HB3.out Tryz.underlying95 rfl (infoCKey _ HSZ.out)
  exact bodyPost_ret (v := .agg (keyC s)) (results_c1 Tryz.results42 _ _ ⟨g, 0, none⟩ rfl _ hld) rfl ⟨rfl, HF3.out⟩
theorem keyTyCKey : Tryz.prog.keyType 95 = true := by kernel_rfl
theorem cellsCKey : Tryz.prog.cellsOf 95 = 51 := by kernel_rfl
theorem keyOf_ckey (b : Blk) (h : okK b) : ∃ l, keyOf Tryz.prog 95 (KeyK b) = some l := by
  obtain ⟨d, hd⟩ := typesSz
  have hl : b.length = 51 := h
  unfold keyOf KeyK
  simp only [Tryz.underlying95]
  rw [if_pos (by simp [keyTyCKey, Value.formed, Tryz.underlying95, cellsCKey, hl]), hd]
  unfold Program.keyLits
  simp only [Tryz.underlying95, Value.cells]
  rw [if_pos (by rw [cellsCKey]; simp [hl])]
  obtain ⟨ys, hys⟩ := mapM_all (fun i => Tryz.prog.keyLits (d + 1) 5 (((b.map B8).toArray.toList.drop (i * Tryz.prog.cellsOf 5)).take (Tryz.prog.cellsOf 5))) (List.range 51) fun i hi => by
    have hi := List.mem_range.1 hi
    rw [cellsU8, Nat.mul_one]
    refine ⟨[.int .u8 ((b[i]'(by omega)).toNat : Int)], ?_⟩
    have e : ((b.map B8).drop i).take 1 = [B8 (b[i]'(by omega))] := by
      rw [List.drop_eq_getElem_cons (by rw [List.length_map]; omega)]
      simp
    rw [e]
    exact keyLits_u8 d _
  rw [hys]
  exact ⟨_, rfl⟩
theorem kindCKey : KeyKind Tryz.prog 95 KeyK okK := by
  have K : WideMaps.KeyLaw Tryz.prog 95 := deep_law_laid laidOutP (m := 2) (by omega) (by decide +kernel) (by kernel_rfl) (by kernel_rfl)
  refine ⟨Go.Maps.Keyed.of_law K, fun a ha => keyOf_ckey a ha, fun a b h => ?_⟩
  have h1 : (a.map B8) = (b.map B8) := by
    unfold KeyK at h
    injection h with h
    exact congrArg Array.toList h |> fun h => by simpa using h
  have : ∀ (a b : Blk), a.map B8 = b.map B8 → a = b := fun a => by
    induction a with
    | nil => intro b h; cases b with
      | nil => rfl
      | cons y b => cases h
    | cons x a ih => intro b h; cases b with
      | nil => cases h
      | cons y b =>
        rw [List.map_cons, List.map_cons, List.cons.injEq] at h
        have h2 : B8 x = B8 y := h.1
        have : (x.toNat : Int) = y.toNat := by unfold B8 at h2; injection h2
        rw [ih b h.2, UInt8.toNat_inj.1 (by omega : x.toNat = y.toNat)]
  exact this a b h1
structure Tp where
  nm : ByteArray
  id : Int
  parts : Int
  seg : Int
  byt : Int
  age : Int
  comp : Bool
  delay : Int
deriving DecidableEq
def tpz (nm : ByteArray) (a b c d e : Int) (f : Bool) (g : Int) : Array Value := #[.string nm, .int .i64 a, .int .i64 b, .int .i64 c, .int .i64 d, .int .i64 e, .bool f, .int .i64 g]
def stz (c d e : Int) (f : Bool) (g : Int) : Array Value := #[.int .i64 c, .int .i64 d, .int .i64 e, .bool f, .int .i64 g]
def n7z (a b c d e f g : Int) : Array Value := #[.int .i64 a, .int .i64 b, .int .i64 c, .int .i64 d, .int .i64 e, .int .i64 f, .int .i64 g]
def Tp.cells (t : Tp) : Array Value := tpz t.nm t.id t.parts t.seg t.byt t.age t.comp t.delay
def Tp.set (t : Tp) : Array Value := stz t.seg t.byt t.age t.comp t.delay
def bit01 (b : Bool) : Int := if b then 1 else 0
def Tp.nums (t : Tp) : List Int := [t.id, t.parts, t.seg, t.byt, t.age, bit01 t.comp, t.delay]
theorem neTp : ¬ U8T (31 : TypeId) := by decide
theorem neSet : ¬ U8T (29 : TypeId) := by decide
theorem zeroTp (W : World) : (zeroValue 31).run Tryz.prog W = .ok (.agg (tpz ByteArray.empty 0 0 0 0 0 false 0)) W := by kernel_rfl
theorem zeroN7 (W : World) : (zeroValue 194).run Tryz.prog W = .ok (.agg (n7z 0 0 0 0 0 0 0)) W := by kernel_rfl
theorem infoTp (nm : ByteArray) (a b c d e : Int) (f : Bool) (g : Int) : (Tryz.prog.info? 31).map (·.size) = some (tpz nm a b c d e f g).size := by kernel_rfl
theorem infoN7 (a b c d e f g : Int) : (Tryz.prog.info? 194).map (·.size) = some (n7z a b c d e f g).size := by kernel_rfl
theorem oneTp (nm : ByteArray) (a b c d e : Int) (f : Bool) (g : Int) : ((tpz nm a b c d e f g).all fun x => x.oneCell') = true := by simp [tpz, Value.oneCell']
theorem oneN7 (a b c d e f g : Int) : ((n7z a b c d e f g).all fun x => x.oneCell') = true := by simp [n7z, Value.oneCell']
theorem storeTp {ops : Array Oper} {rest : List Oper} {o : Oper} {a : Act} {w : World} {Q : Exit → Act → World → Prop} (hgd : o.guard = none) (x y : Operand) (ho : o.op = .store 31 x y) (g : Nat) (nm : ByteArray) (p1 p2 p3 p4 p5 : Int) (p6 : Bool) (p7 : Int) (hx : a.eval x = .pointer (some ⟨g, 0, none⟩)) (hy : a.eval y = .agg (tpz nm p1 p2 p3 p4 p5 p6 p7)) (old : Array Value) (hold : old.size = 8)
    (hg : w.heap[g]? = some (.cells old 31 (0, 0))) (h : wpList Tryz.prog ops Q rest (a.put o.dst undef) (w.setRow g (tpz nm p1 p2 p3 p4 p5 p6 p7))) : wpList Tryz.prog ops Q (o :: rest) a w :=
  wpList_store_row hgd _ x y ho g (tpz nm p1 p2 p3 p4 p5 p6 p7) hx hy _ old hg (infoTp _ _ _ _ _ _ _ _) (by rw [hold]; rfl) (oneTp _ _ _ _ _ _ _ _) h
theorem loadTp {ops : Array Oper} {rest : List Oper} {o : Oper} {a : Act} {w : World} {Q : Exit → Act → World → Prop} (hw : Region.wanted o (yielded ops a.tmps) = true) (x : Operand) (ho : o.op = .load 31 x) (g : Nat) (hx : a.eval x = .pointer (some ⟨g, 0, none⟩)) (nm : ByteArray) (p1 p2 p3 p4 p5 : Int) (p6 : Bool) (p7 : Int)
    (hg : w.heap[g]? = some (.cells (tpz nm p1 p2 p3 p4 p5 p6 p7) 31 (0, 0))) (h : wpList Tryz.prog ops Q rest (a.put o.dst (.agg (tpz nm p1 p2 p3 p4 p5 p6 p7))) w) : wpList Tryz.prog ops Q (o :: rest) a w :=
  BigFrame.wpList_want hw fun K hK => wp_load_row _ x ho g hx _ _ _ _ hg Tryz.underlying31 rfl (infoTp _ _ _ _ _ _ _ _) (hK _ _ h)
theorem storeN7 {ops : Array Oper} {rest : List Oper} {o : Oper} {a : Act} {w : World} {Q : Exit → Act → World → Prop} (hgd : o.guard = none) (x y : Operand) (ho : o.op = .store 194 x y) (g : Nat) (p1 p2 p3 p4 p5 p6 p7 : Int) (hx : a.eval x = .pointer (some ⟨g, 0, none⟩)) (hy : a.eval y = .agg (n7z p1 p2 p3 p4 p5 p6 p7)) (old : Array Value) (hold : old.size = 7)
    (hg : w.heap[g]? = some (.cells old 194 (0, 0))) (h : wpList Tryz.prog ops Q rest (a.put o.dst undef) (w.setRow g (n7z p1 p2 p3 p4 p5 p6 p7))) : wpList Tryz.prog ops Q (o :: rest) a w :=
  wpList_store_row hgd _ x y ho g (n7z p1 p2 p3 p4 p5 p6 p7) hx hy _ old hg (infoN7 _ _ _ _ _ _ _) (by rw [hold]; rfl) (oneN7 _ _ _ _ _ _ _) h
set_option maxRecDepth 100000 in
theorem c_numbers (w : World) (nm : ByteArray) (p1 p2 p3 p4 p5 : Int) (p6 : Bool) (p7 : Int) :
    Calls Tryz.prog 192 #[.agg (tpz nm p1 p2 p3 p4 p5 p6 p7)] w fun e w' => e = .returned (.agg (n7z p1 p2 p3 p4 p5 (bit01 p6) p7)) ∧ Frm NoB w w' := by
  have hb0 := block_alloc_new w (.cells (tpz nm p1 p2 p3 p4 p5 p6 p7) 31 (0, 0))
  have hf0 := (Frm.refl NoB w).alloc (.cells (tpz nm p1 p2 p3 p4 p5 p6 p7) 31 (0, 0))
  obtain ⟨y, hy⟩ : ∃ y, w.alloc (.cells (tpz nm p1 p2 p3 p4 p5 p6 p7) 31 (0, 0)) = y := ⟨_, rfl⟩
  obtain ⟨g, hg⟩ : ∃ g, w.heap.size = g := ⟨_, rfl⟩
  rw [hy, hg] at hb0
  rw [hy] at hf0
  have hb1 := block_alloc_old (.cells (n7z 0 0 0 0 0 0 0) 194 (0, 0)) hb0
  have hn1 := block_alloc_new y (.cells (n7z 0 0 0 0 0 0 0) 194 (0, 0))
  have hf1 := hf0.alloc (.cells (n7z 0 0 0 0 0 0 0) 194 (0, 0))
  obtain ⟨z, hz⟩ : ∃ z, y.alloc (.cells (n7z 0 0 0 0 0 0 0) 194 (0, 0)) = z := ⟨_, rfl⟩
  obtain ⟨k, hk⟩ : ∃ k, y.heap.size = k := ⟨_, rfl⟩
  rw [hz] at hb1 hn1 hf1
  rw [hk] at hn1
  have hkg : w.heap.size ≤ k := by rw [← hk]; exact hf0.size
  have hf2 : Frm NoB w (z.setRow k (n7z p1 p2 p3 p4 p5 (bit01 p6) p7)) := hf1.setRowNew hkg _
  have hn2 := setRow_heap z k _ (n7z p1 p2 p3 p4 p5 (bit01 p6) p7) _ _ hn1
  have c1 : z.cell? ⟨g, 1, none⟩ = some (.int .i64 p1) := (cell_of_block hb1).trans rfl
  have c2 : z.cell? ⟨g, 2, none⟩ = some (.int .i64 p2) := (cell_of_block hb1).trans rfl
  have c3 : z.cell? ⟨g, 3, none⟩ = some (.int .i64 p3) := (cell_of_block hb1).trans rfl
  have c4 : z.cell? ⟨g, 4, none⟩ = some (.int .i64 p4) := (cell_of_block hb1).trans rfl
  have c5 : z.cell? ⟨g, 5, none⟩ = some (.int .i64 p5) := (cell_of_block hb1).trans rfl
  have c6 : z.cell? ⟨g, 6, none⟩ = some (.bool p6) := (cell_of_block hb1).trans rfl
  have c7 : z.cell? ⟨g, 7, none⟩ = some (.int .i64 p7) := (cell_of_block hb1).trans rfl
  have HN1 := Lib.hid hn1
  have HF2 := Lib.hid hf2
  have HN2 := Lib.hid hn2
  have HY := Lib.hid (And.intro (And.intro hy hg) (And.intro hz hk))
  clear hb0 hf0 hb1 hn1 hf1 hf2 hn2 hy hg hz hk hkg
  go_enter Tryz.func192, Tryz.ntmps192
  go_upto_region 1 with (refine allocRow rfl _ _ zeroN7 rfl ?_)
  rw [HY.out.1.1, HY.out.1.2, HY.out.2.1, HY.out.2.2]
  cases p6 with
  | true =>
    go_wp2_with (refine storeN7 rfl _ _ rfl k p1 p2 p3 p4 p5 1 p7 rfl rfl _ rfl HN1.out ?_)
    have hld := run_loadVar_row (P := Tryz.prog) (z.setRow k (n7z p1 p2 p3 p4 p5 1 p7)) k 194 194 (n7z p1 p2 p3 p4 p5 1 p7) (0, 0) _ HN2.out Tryz.underlying194 rfl (infoN7 _ _ _ _ _ _ _)
    exact bodyPost_ret (v := .agg (n7z p1 p2 p3 p4 p5 1 p7)) (results_c1 Tryz.results192 _ _ ⟨k, 0, none⟩ rfl _ hld) rfl ⟨rfl, HF2.out⟩
  | false =>
    go_wp2_with (refine storeN7 rfl _ _ rfl k p1 p2 p3 p4 p5 0 p7 rfl rfl _ rfl HN1.out ?_)
    have hld := run_loadVar_row (P := Tryz.prog) (z.setRow k (n7z p1 p2 p3 p4 p5 0 p7)) k 194 194 (n7z p1 p2 p3 p4 p5 0 p7) (0, 0) _ HN2.out Tryz.underlying194 rfl (infoN7 _ _ _ _ _ _ _)
    exact bodyPost_ret (v := .agg (n7z p1 p2 p3 p4 p5 0 p7)) (results_c1 Tryz.results192 _ _ ⟨k, 0, none⟩ rfl _ hld) rfl ⟨rfl, HF2.out⟩
set_option maxRecDepth 100000 in
theorem c_topic (w : World) (nm : ByteArray) (p1 p2 p3 p4 p5 p6 p7 : Int) :
    Calls Tryz.prog 124 #[.string nm, .agg (n7z p1 p2 p3 p4 p5 p6 p7)] w fun e w' => e = .returned (.agg (tpz nm p1 p2 p3 p4 p5 (decide (p6 = 1)) p7)) ∧ Frm NoB w w' := by
  have hb0 := block_alloc_new w (.cells (n7z p1 p2 p3 p4 p5 p6 p7) 194 (0, 0))
  have hf0 := (Frm.refl NoB w).alloc (.cells (n7z p1 p2 p3 p4 p5 p6 p7) 194 (0, 0))
  obtain ⟨y, hy⟩ : ∃ y, w.alloc (.cells (n7z p1 p2 p3 p4 p5 p6 p7) 194 (0, 0)) = y := ⟨_, rfl⟩
  obtain ⟨g, hg⟩ : ∃ g, w.heap.size = g := ⟨_, rfl⟩
  rw [hy, hg] at hb0
  rw [hy] at hf0
  have hb1 := block_alloc_old (.cells (tpz ByteArray.empty 0 0 0 0 0 false 0) 31 (0, 0)) hb0
  have hn1 := block_alloc_new y (.cells (tpz ByteArray.empty 0 0 0 0 0 false 0) 31 (0, 0))
  have hf1 := hf0.alloc (.cells (tpz ByteArray.empty 0 0 0 0 0 false 0) 31 (0, 0))
  obtain ⟨z, hz⟩ : ∃ z, y.alloc (.cells (tpz ByteArray.empty 0 0 0 0 0 false 0) 31 (0, 0)) = z := ⟨_, rfl⟩
  obtain ⟨k, hk⟩ : ∃ k, y.heap.size = k := ⟨_, rfl⟩
  rw [hz] at hb1 hn1 hf1
  rw [hk] at hn1
  have hkg : w.heap.size ≤ k := by rw [← hk]; exact hf0.size
  have hf2 : Frm NoB w (z.setRow k (tpz nm p1 p2 p3 p4 p5 (decide (p6 = 1)) p7)) := hf1.setRowNew hkg _
  have hn2 := setRow_heap z k _ (tpz nm p1 p2 p3 p4 p5 (decide (p6 = 1)) p7) _ _ hn1
  have c1 : z.cell? ⟨g, 0, none⟩ = some (.int .i64 p1) := (cell_of_block hb1).trans rfl
  have c2 : z.cell? ⟨g, 1, none⟩ = some (.int .i64 p2) := (cell_of_block hb1).trans rfl
  have c3 : z.cell? ⟨g, 2, none⟩ = some (.int .i64 p3) := (cell_of_block hb1).trans rfl
  have c4 : z.cell? ⟨g, 3, none⟩ = some (.int .i64 p4) := (cell_of_block hb1).trans rfl
  have c5 : z.cell? ⟨g, 4, none⟩ = some (.int .i64 p5) := (cell_of_block hb1).trans rfl
  have c6 : z.cell? ⟨g, 5, none⟩ = some (.int .i64 p6) := (cell_of_block hb1).trans rfl
  have c7 : z.cell? ⟨g, 6, none⟩ = some (.int .i64 p7) := (cell_of_block hb1).trans rfl
  have HN1 := Lib.hid hn1
  have HF2 := Lib.hid hf2
  have HN2 := Lib.hid hn2
  have HY := Lib.hid (And.intro (And.intro hy hg) (And.intro hz hk))
  clear hb0 hf0 hb1 hn1 hf1 hf2 hn2 hy hg hz hk hkg
  go_enter Tryz.func124, Tryz.ntmps124
  go_upto_region 1 with (refine allocRow rfl _ _ zeroTp rfl ?_)
  rw [HY.out.1.1, HY.out.1.2, HY.out.2.1, HY.out.2.2]
  clear HY
  go_wp2_with (refine storeTp rfl _ _ rfl k nm p1 p2 p3 p4 p5 (decide (p6 = 1)) p7 rfl rfl _ rfl HN1.out ?_)
  have hld := run_loadVar_row (P := Tryz.prog) (z.setRow k (tpz nm p1 p2 p3 p4 p5 (decide (p6 = 1)) p7)) k 31 31 (tpz nm p1 p2 p3 p4 p5 (decide (p6 = 1)) p7) (0, 0) _ HN2.out Tryz.underlying31 rfl (infoTp _ _ _ _ _ _ _ _)
  exact bodyPost_ret (v := .agg (tpz nm p1 p2 p3 p4 p5 (decide (p6 = 1)) p7)) (results_c1 Tryz.results124 _ _ ⟨k, 0, none⟩ rfl _ hld) rfl ⟨rfl, HF2.out⟩
theorem infoTp3 : (Tryz.prog.info? 31).map (fun i => (i.zero, i.size, i.bytes)) = some (some (.agg (tpz ByteArray.empty 0 0 0 0 0 false 0)), 8, 72) := by kernel_rfl
def tpsC (l : List Tp) : List Value := l.flatMap fun t => t.cells.toList
theorem tpsC_length (l : List Tp) : (tpsC l).length = l.length * 8 := by
  unfold tpsC
  induction l with
  | nil => rfl
  | cons t l ih => rw [List.flatMap_cons, List.length_append, ih, List.length_cons]; show 8 + _ = _; omega
def ApT (n0 : Nat) (w : World) (xs : List Tp) (W : World) : Prop :=
  (∃ v, Boxed W n0 37 v ∧ W.ownsRow n0 31 8 v xs.length (tpsC xs) ∧ True) ∧ Below n0 w W
def AxT (n0 : Nat) (g : Nat) (lb : Array Value) (x : Tp) (a : Act) (W : World) : Prop :=
  ∃ k, n0 < k ∧ a = { tmps := #[.slice none 0 0, .func (.func g) #[] lb, .pointer (some ⟨n0, 0, none⟩), undef, .slice none 0 0, .pointer (some ⟨k, 0, none⟩), .func (.func g) #[] lb, .agg x.cells, undef, undef, undef, undef, undef], defers := [] } ∧ W.heap[k]? = some (.cells x.cells 31 (0, 0))
set_option maxHeartbeats 1000000 in
set_option maxRecDepth 100000 in
theorem appendSeqT (w : World) (g : Nat) (lb : Array Value) (eg : ∀ args w, (callFunc g args).run Tryz.prog w = .ok (.enter g args) w) (S : List Tp → Prop) (N : Nat) (hN : N ≤ 1000000)
    (hseq : SeqStopsK Fence.wide 4 Tryz.prog g lb (fun t : Tp => #[.agg t.cells]) KeepsWalks S (fun _ => True) N w) :
    CallsIn Fence.wide 5 Tryz.prog 196 #[.slice none 0 0, .func (.func g) #[] lb] w fun e w' => ∃ (v : Value) (ss : List Tp), e = .returned v ∧ S ss ∧ w'.ownsRow w.heap.size 31 8 v ss.length (tpsC ss) ∧ Below w.heap.size w w' := by
  refine callsIn_of_wp_marks Tryz.func196 rfl trivial ?_ rfl
  simp only [Tryz.ntmps196, List.size_toArray, List.length_cons, List.length_nil, Nat.reduceAdd, Nat.reduceSub, Array.replicate_succ, Array.replicate_zero, List.push_toArray, List.append_toArray, List.nil_append, List.cons_append]
  gi_wp2
  have hI : OwnFrom (w.alloc (.cells #[.slice none 0 0] 37 (0, 0))).heap.size (ApT w.heap.size w) := by
    have h1 := (holdsRow_own w.heap.size w.heap.size 37 31 8 (fun xs : List Tp => xs.length) tpsC (fun _ _ => True)).from (w.alloc (.cells #[.slice none 0 0] 37 (0, 0))).heap.size
    exact h1.and (ownFrom_below (Nat.le_refl _) (by simp))
  refine wpIn_rangeFunc_ownH (F := Fence.wide) rfl (by omega) rfl trivial eg hseq walksK_t walksK_b ((Below.refl _ w).alloc (Nat.le_refl _) _) (fun _ => rfl) (ApT w.heap.size w) (fun _ _ _ => False) hI (fun _ _ _ _ _ h _ _ => h) ?start (AxT w.heap.size g lb) ?own ?assign ?body ?done ?stop
  case start => exact ⟨⟨_, Boxed.new _ _ _, World.ownsRow_nil _ _ _ _, trivial⟩, (Below.refl _ w).alloc (Nat.le_refl _) _⟩
  case own =>
    rintro x a' - W W' row ⟨k, h1, h2, h3⟩ hg hr
    refine ⟨k, h1, h2, (hg.block k (lt_of_block h3) fun e => ?_).trans h3⟩
    obtain ⟨_, o, ho, hc⟩ := hr k e.symm
    rw [h3] at ho
    cases ho
    cases hc
  case stop => intro D c pre W _ _ h; exact h.elim
  case assign =>
    intro l pre x W K hp hK
    obtain ⟨nm, p1, p2, p3, p4, p5, p6, p7⟩ := x
    have e : ∀ (T : Array Value) (y : Value), ((#[7] : Array Tmp).zip #[y]).foldl (fun t (p, v) => t.setIfInBounds p v) T = T.setIfInBounds 7 y := fun T y => by simp
    have e := e #[.slice none 0 0, .func (.func g) #[] lb, .pointer (some ⟨w.heap.size, 0, none⟩), undef, .slice none 0 0, undef, .func (.func g) #[] lb, undef, undef, undef, undef, undef, undef] (.agg (tpz nm p1 p2 p3 p4 p5 p6 p7))
    refine (congrArg (fun t => Code.wpIn _ _ _ _ _ { tmps := t, defers := [] } W) e).mpr ?_
    show Code.wpIn _ _ _ _ _ { tmps := #[.slice none 0 0, .func (.func g) #[] lb, .pointer (some ⟨w.heap.size, 0, none⟩), undef, .slice none 0 0, undef, .func (.func g) #[] lb, .agg #[.string nm, .int .i64 p1, .int .i64 p2, .int .i64 p3, .int .i64 p4, .int .i64 p5, .bool p6, .int .i64 p7], undef, undef, undef, undef, undef], defers := [] } W
    have HK := Lib.hid hK
    have HP := Lib.hid hp
    have HI := Lib.hid hI
    clear hK hp hseq hI eg
    gi_wp2_with gi_round_op_a
    refine HK.out _ _ ((KeepsOthers.alloc _ _).from _) (KeepsWalks.alloc _ _) (HI.out.alloc _ HP.out) ⟨W.heap.size, ?_, rfl, block_alloc_new _ _⟩
    obtain ⟨⟨v, hv, _⟩, _⟩ := HP.out
    exact hv.lt
  case body =>
    rintro l pre ⟨nm, p1, p2, p3, p4, p5, p6, p7⟩ a' W hl - ⟨⟨v, hv, hrow, -⟩, hb⟩ ⟨k, hk, rfl, hbk⟩ hlen
    obtain ⟨i0, hi0, hz0, hz1, hz2⟩ := info_parts infoTp3
    have hbk : W.heap[k]? = some (.cells #[.string nm, .int .i64 p1, .int .i64 p2, .int .i64 p3, .int .i64 p4, .int .i64 p5, .bool p6, .int .i64 p7] 31 (0, 0)) := hbk
    have c0 : W.cell? ⟨k, 0, none⟩ = some (.string nm) := (cell_of_block hbk).trans rfl
    have c1 : W.cell? ⟨k, 1, none⟩ = some (.int .i64 p1) := (cell_of_block hbk).trans rfl
    have c2 : W.cell? ⟨k, 2, none⟩ = some (.int .i64 p2) := (cell_of_block hbk).trans rfl
    have c3 : W.cell? ⟨k, 3, none⟩ = some (.int .i64 p3) := (cell_of_block hbk).trans rfl
    have c4 : W.cell? ⟨k, 4, none⟩ = some (.int .i64 p4) := (cell_of_block hbk).trans rfl
    have c5 : W.cell? ⟨k, 5, none⟩ = some (.int .i64 p5) := (cell_of_block hbk).trans rfl
    have c6 : W.cell? ⟨k, 6, none⟩ = some (.bool p6) := (cell_of_block hbk).trans rfl
    have c7 : W.cell? ⟨k, 7, none⟩ = some (.int .i64 p7) := (cell_of_block hbk).trans rfl
    have d0 : W.cell? ⟨w.heap.size, 0, none⟩ = some v := hv.cell
    have HV := Lib.hid hv
    have HR := Lib.hid hrow
    have HB := Lib.hid hb
    have HL := Lib.hid (And.intro hl hlen)
    clear hv hrow hb hl hlen hseq hI eg hbk
    have hnew : ∀ (j : Nat) (u : Value), ([.string nm, .int .i64 p1, .int .i64 p2, .int .i64 p3, .int .i64 p4, .int .i64 p5, .bool p6, .int .i64 p7] : List Value)[j]? = some u → (W.alloc (.cells #[.string nm, .int .i64 p1, .int .i64 p2, .int .i64 p3, .int .i64 p4, .int .i64 p5, .bool p6, .int .i64 p7] 31 (0, 0))).cell? ((⟨W.heap.size, 0, none⟩ : Addr).add j) = some u := fun j u hj => by
      rw [show (⟨W.heap.size, 0, none⟩ : Addr).add j = ⟨W.heap.size, j, none⟩ by unfold Addr.add; split <;> simp_all]
      exact (cell_of_block (block_alloc_new W (.cells #[.string nm, .int .i64 p1, .int .i64 p2, .int .i64 p3, .int .i64 p4, .int .i64 p5, .bool p6, .int .i64 p7] 31 (0, 0)))).trans (by rw [← hj, ← Array.getElem?_toList])
    have HNEW := Lib.hid hnew
    clear hnew
    gi_wp2_with (first
      | (gi_at_builtin; refine wpListIn_append_own _ rfl _ _ 37 rfl w.heap.size 31 i0 (.agg (tpz ByteArray.empty 0 0 0 0 0 false 0)) 8 72 Tryz.underlying37 hi0 hz0 hz1 hz2 rfl (by decide) v pre.length (tpsC pre) rfl (HR.out.alloc _) ⟨W.heap.size, 0, none⟩ 1 1 [.string nm, .int .i64 p1, .int .i64 p2, .int .i64 p3, .int .i64 p4, .int .i64 p5, .bool p6, .int .i64 p7] rfl rfl HNEW.out (by simp [Value.oneCell']) (by have := HL.out.2; simp only [maxLen]; omega) (by have := HL.out.2; omega) (by have := HB.out.size; simp; omega) ?_; intro v' w1 hown' hgrow hnil; obtain ⟨g', cap', rfl⟩ := ownsRow_succ hown'; obtain ⟨hv1, hv2, hr2, hk2, hb2⟩ := HV.out.appended (by decide) HR.out HB.out.size (Nat.le_refl _) hown' hgrow; have e1 := hv1.cell; have e2 := hv1.frozen; clear c0 c1 c2 c3 c4 c5 c6 c7 d0; go_frame)
      | gi_round_op_a)
    refine ⟨hk2.from _, ⟨hk2.size, fun k o hk ho => hk2.same k o hk (Obj.not_cells_of_walk ho)⟩, ⟨_, hv2, ?_, trivial⟩, HB.out.trans hb2⟩
    have e3 : tpsC (pre ++ [⟨nm, p1, p2, p3, p4, p5, p6, p7⟩]) = tpsC pre ++ [.string nm, .int .i64 p1, .int .i64 p2, .int .i64 p3, .int .i64 p4, .int .i64 p5, .bool p6, .int .i64 p7] := by unfold tpsC; rw [List.flatMap_append]; rfl
    rw [e3, List.length_append]
    exact hr2
  case done =>
    rintro D ys W hD hS ⟨⟨v, hv, hrow, -⟩, hB⟩ hK
    have hc := hv.cell
    have HS := Lib.hid (And.intro hS (And.intro hrow hB))
    clear hS hrow hB hseq eg hI
    gi_wp2
    refine ⟨by simp, .inl ⟨_, _, rfl, run_takeDeferred hK, ?_⟩⟩
    exact ⟨_, results_tmp rfl _ _ _, v, ys, rfl, HS.out.1, ownsRow_putObj HS.out.2.1 _ hK rfl, HS.out.2.2.trans (belowK_b (w := w) (Nat.le_refl _) W D _ _ (by simp at hD; omega) hK rfl rfl)⟩
end
section
open Go.ChangeMaps Go.MapKept Go.RowKit
variable {α : Type} {mk : α → Value} {ok : α → Prop} {P : Program} {k t e : TypeId} {w : World} {b r nn cnt : Nat} {f : α → Option Value} {left : α → Prop} {F : Fence} {n : Nat} {o : Oper} {a : Act} {ops : Array Oper} {rest : List Oper} {Q : Exit → Act → World → Prop}
theorem wpListIn_range_at (hg : o.guard = none) (m : Operand) (t : TypeId) (hop : o.op = Op.range t m) (k e : TypeId) (ht : P.underlying t = some (.map k e)) (hm : a.eval m = .map (some b)) (h : MapAt mk ok w b nn f)
    (hK : ∀ o', o'.isCells = false → RangeAt mk ok (w.alloc o') b w.heap.size nn f (fun a => (f a).isSome) nn → wpListIn F n P ops Q rest (a.put o.dst (.pointer (some ⟨w.heap.size, 0, none⟩))) (w.alloc o')) : wpListIn F n P ops Q (o :: rest) a w := by
  refine wpListIn_plain hg fun K' hK' => ?_
  obtain ⟨o', hrun, hr⟩ := h.range ht
  have hc : o'.isCells = false := by
    obtain ⟨es, clock, seen, _, _, _, _, _, h6, _⟩ := hr
    rw [block_alloc_new w o'] at h6
    injection h6 with h6
    rw [h6]
    rfl
  unfold Oper.wpIn
  refine ⟨by simp [Oper.about, hop], ?_⟩
  rw [Oper.semAt_plain F _ _ (by rw [hop]; intro c hc'; cases hc')]
  simp [execOp, hop, hm, hrun, Result.andThen]
  exact hK' _ _ (hK o' hc hr)
theorem wpListIn_next_at (hg : o.guard = none) (it : Operand) (hop : o.op = Op.next it false) (K : KeyKind P k mk ok) (hit : a.eval it = .pointer (some ⟨r, 0, none⟩)) (h : RangeAt mk ok w b r nn f left cnt)
    (hDone : (∀ a, ok a → ¬ left a) → wpListIn F n P ops Q rest (a.put o.dst (.tuple #[.bool false])) w)
    (hMore : ∀ x v w' cnt', ok x → left x → f x = some v → RangeAt mk ok w' b r nn f (fun y => left y ∧ y ≠ x) cnt' → cnt' < cnt → Frm (Only r) w w' → w'.heap.size = w.heap.size →
      (Instr.entry (.pointer (some ⟨r, 0, none⟩))).run P w' = .ok (.tuple #[mk x, v]) w' → wpListIn F n P ops Q rest (a.put o.dst (.tuple #[.bool true, mk x, v])) w') : wpListIn F n P ops Q (o :: rest) a w := by
  refine wpListIn_plain hg fun K' hK' => ?_
  unfold Oper.wpIn
  refine ⟨by simp [Oper.about, hop], ?_⟩
  rw [Oper.semAt_plain F _ _ (by rw [hop]; intro c hc'; cases hc')]
  rcases h.next K o.type with ⟨h0, hrun⟩ | ⟨x, v, w', cnt', h1, h2, h3, hrun, h4, h5, h6, h7, h8⟩
  · simp [execOp, hop, hit, hrun, Result.andThen]
    exact hK' _ _ (hDone h0)
  · simp [execOp, hop, hit, hrun, Result.andThen]
    exact hK' _ _ (hMore x v w' cnt' h1 h2 h3 h4 h5 h6 h7 h8)
theorem RangeAt.walk (h : RangeAt mk ok w b r nn f left cnt) : ∃ o : Obj, w.heap[r]? = some o ∧ o.isWalk = true := by
  obtain ⟨es, clock, seen, _, _, _, _, _, h6, _⟩ := h
  exact ⟨_, h6, rfl⟩
theorem RangeAt.walks {w' : World} (h : RangeAt mk ok w b r nn f left cnt) (hk : KeepsWalks w w') : RangeAt mk ok w' b r nn f left cnt := by
  obtain ⟨es, clock, seen, h1, h2, h3, h4, h5, h6, h7⟩ := h
  exact ⟨es, clock, seen, hk.same _ _ h1 rfl, h2, h3, h4, h5, hk.same _ _ h6 rfl, h7⟩
end
section
open Go.ChangeMaps Go.MapKept Go.RowKit
theorem frm_grown {r : Nat} {w w' : World} (h : Frm (Only r) w w') : w.grownBy w' (some r) :=
  ⟨h.os, h.tape, h.output, h.size, fun k hk hne => h.block k hk fun e => hne (by rw [show k = r from e])⟩
def tpV (M : Blk → Option Tp) : Blk → Option Value := fun a => (M a).map fun t => .agg t.cells
def AllOf (M : Blk → Option Tp) (ss : List Tp) : Prop := ∃ ks : List Blk, ks.Nodup ∧ (∀ a, a ∈ ks ↔ okK a ∧ (M a).isSome = true) ∧ ss.map some = ks.map M
set_option maxHeartbeats 1000000 in
set_option maxRecDepth 100000 in
theorem valuesT (w : World) (Bm b nn : Nat) (M : Blk → Option Tp) (hBm : Bm < w.heap.size) (hm : w.cell? ⟨Bm, 0, none⟩ = some (.map (some b))) (hmap : MapAt KeyK okK w b nn (tpV M)) :
    SeqStopsK Fence.wide 4 Tryz.prog 197 #[.pointer (some ⟨Bm, 0, none⟩)] (fun t : Tp => #[.agg t.cells]) KeepsWalks (AllOf M) (fun _ => True) nn w := by
  intro l J Jx W hW hJ hJx hY h0
  have hm0 : W.cell? ⟨Bm, 0, none⟩ = some (.map (some b)) := (hW.cell (p := ⟨Bm, 0, none⟩) hBm).trans hm
  have hmp : MapAt KeyK okK W b nn (tpV M) := by
    obtain ⟨es, clock, h1, h2, h3, h4, h5⟩ := hmap
    exact ⟨es, clock, (hW.block b (lt_of_block h1)).trans h1, h2, h3, h4, h5⟩
  refine callsIn_of_wp Tryz.func197 rfl trivial ?_ rfl
  simp only [Tryz.ntmps197, List.size_toArray, List.length_cons, List.length_nil, Nat.reduceAdd, Nat.reduceSub, Array.replicate_succ, Array.replicate_zero, List.push_toArray, List.append_toArray, List.nil_append, List.cons_append]
  have HM := Lib.hid (And.intro hmp (And.intro hJ hJx))
  have HY := Lib.hid hY
  have H0 := Lib.hid h0
  clear hmap hm hmp hJ hJx hY h0 hW hBm
  gi_wp2_with (first
    | (gi_at_range; refine wpListIn_range_at rfl _ 91 rfl 95 31 Tryz.underlying91 rfl HM.out.1 ?_; intro o' ho' hrg0)
    | gi_in)
  have HRG := Lib.hid hrg0
  have HJ0 : Hid (J [] (W.alloc o')) := Lib.hid (HM.out.2.1 [] W _ none H0.out (World.grownBy_alloc W o' none) (fun r e => by cases e))
  clear hrg0 hm0
  gi_loopw [4] (fun _ wr => ∃ (left : Blk → Prop) (cnt : Nat) (ss : List Tp) (ks : List Blk), RangeAt KeyK okK wr b W.heap.size nn (tpV M) left cnt ∧ J ss wr ∧ ss.length + cnt ≤ nn ∧ ks.Nodup ∧ (∀ a, okK a → ((tpV M a).isSome = true ↔ left a ∨ a ∈ ks)) ∧ (∀ a ∈ ks, okK a ∧ ¬ left a) ∧ ss.map some = ks.map M)
    (fun _ wr => wr.rangeLeft b W.heap.size)
  case atStart =>
    exact ⟨_, _, [], [], HRG.out, HJ0.out, by simp, List.nodup_nil, fun a _ => by simp, fun a ha => by simp at ha, rfl⟩
  case round =>
    obtain ⟨left, cnt, ss, ks, hrg, hJs, hcs, hnd, hall, hks, hss⟩ := hrel
    have HR := Lib.hid hrg
    have HS := Lib.hid (And.intro hJs (And.intro hcs (And.intro hnd (And.intro hall (And.intro hks hss)))))
    clear hrg hJs hcs hnd hall hks hss HRG HJ0
    gi_wp2_with (first
      | (gi_at_next; refine wpListIn_next_at rfl _ rfl kindCKey rfl HR.out ?_ ?_)
      | gi_in)
    · intro hd
      have HD := Lib.hid hd
      clear hd
      gi_wp2
      go_end0
      refine ⟨⟨_, rfl⟩, .inl ⟨ss, ⟨ks, HS.out.2.2.1, fun a => ?_, HS.out.2.2.2.2.2⟩, HS.out.1⟩⟩
      constructor
      · intro ha
        have hok := (HS.out.2.2.2.2.1 a ha).1
        have := (HS.out.2.2.2.1 a hok).2 (.inr ha)
        exact ⟨hok, by unfold tpV at this; rw [Option.isSome_map] at this; exact this⟩
      · rintro ⟨hok, hs⟩
        rcases (HS.out.2.2.2.1 a hok).1 (by unfold tpV; rw [Option.isSome_map]; exact hs) with h | h
        · exact absurd h (HD.out a hok)
        · exact h
    · intro x v w2 cnt2 hok hlx hfx hrg2 hlt hfr hsz hen
      obtain ⟨nm, p1, p2, p3, p4, p5, p6, p7, ht, rfl⟩ : ∃ nm p1 p2 p3 p4 p5 p6 p7, M x = some ⟨nm, p1, p2, p3, p4, p5, p6, p7⟩ ∧ v = .agg #[.string nm, .int .i64 p1, .int .i64 p2, .int .i64 p3, .int .i64 p4, .int .i64 p5, .bool p6, .int .i64 p7] := by
        unfold tpV at hfx
        cases hM : M x with
        | none => rw [hM] at hfx; cases hfx
        | some t =>
          obtain ⟨nm, p1, p2, p3, p4, p5, p6, p7⟩ := t
          rw [hM] at hfx
          injection hfx with hfx
          exact ⟨nm, p1, p2, p3, p4, p5, p6, p7, rfl, hfx.symm⟩
      have hJ2 : J ss w2 := HM.out.2.1 ss wr w2 (some W.heap.size) HS.out.1 (frm_grown hfr) (fun r e => by cases e; exact ⟨Nat.le_refl _, HR.out.walk⟩)
      have hJ3 : J ss (w2.alloc (.cells #[.string nm, .int .i64 p1, .int .i64 p2, .int .i64 p3, .int .i64 p4, .int .i64 p5, .bool p6, .int .i64 p7] 31 (0, 0))) := HM.out.2.1 ss w2 _ none hJ2 (World.grownBy_alloc _ _ none) (fun r e => by cases e)
      obtain ⟨fn, tmps, assign, body, hy, hRD⟩ := HY.out ss ⟨nm, p1, p2, p3, p4, p5, p6, p7⟩ _ hJ3 (by have := HS.out.2.1; omega)
      have hy : (Instr.yield l #[.agg #[.string nm, .int .i64 p1, .int .i64 p2, .int .i64 p3, .int .i64 p4, .int .i64 p5, .bool p6, .int .i64 p7]]).run Tryz.prog (w2.alloc (.cells #[.string nm, .int .i64 p1, .int .i64 p2, .int .i64 p3, .int .i64 p4, .int .i64 p5, .bool p6, .int .i64 p7] 31 (0, 0))) = .ok (.round l fn tmps assign body) (w2.alloc (.cells #[.string nm, .int .i64 p1, .int .i64 p2, .int .i64 p3, .int .i64 p4, .int .i64 p5, .bool p6, .int .i64 p7] 31 (0, 0))) := hy
      have HR2 := Lib.hid hrg2
      have HRD := Lib.hid hRD
      have HX := Lib.hid (And.intro hok (And.intro hlx (And.intro ht hlt)))
      clear hok hlx ht hlt hfx hrg2 hfr hsz hJ2 hJ3 hRD
      gi_wp2
      refine HRD.out.mono ?_
      clear HRD
      rintro e W3 (⟨rfl, hJ3, hk3⟩ | ⟨rfl, hJx⟩)
      · have HR3 := Lib.hid ((HR2.out.walks (KeepsWalks.alloc _ (.cells #[.string nm, .int .i64 p1, .int .i64 p2, .int .i64 p3, .int .i64 p4, .int .i64 p5, .bool p6, .int .i64 p7] 31 (0, 0)))).walks hk3)
        have HJ3 := Lib.hid hJ3
        clear hJ3 hk3 HR2 hy
        gi_wp2
        go_roundw
        case rel =>
          refine ⟨_, cnt2, ss ++ [⟨nm, p1, p2, p3, p4, p5, p6, p7⟩], ks ++ [x], HR3.out, HJ3.out, ?_, ?_, fun a ha => ?_, fun a ha => ?_, ?_⟩
          · have := HS.out.2.1; have := HX.out.2.2.2; rw [List.length_append]; simp; omega
          · rw [List.nodup_append]
            exact ⟨HS.out.2.2.1, by simp, fun a ha b hb e => by
              have hb : b = x := by simpa using hb
              subst e; subst hb
              exact (HS.out.2.2.2.2.1 a ha).2 HX.out.2.1⟩
          · rw [HS.out.2.2.2.1 a ha, List.mem_append, List.mem_singleton]
            by_cases e : a = x
            · subst e; simp [HX.out.2.1]
            · simp [e]
          · rcases List.mem_append.1 ha with h | h
            · exact ⟨(HS.out.2.2.2.2.1 a h).1, fun h2 => (HS.out.2.2.2.2.1 a h).2 h2.1⟩
            · have : a = x := by simpa using h
              subst this
              exact ⟨HX.out.1, fun h2 => h2.2 rfl⟩
          · rw [List.map_append, List.map_append, HS.out.2.2.2.2.2]
            simp [HX.out.2.2.1]
        case measure => rw [HR3.out.left_eq, HR.out.left_eq]; exact HX.out.2.2.2
      · have HJx := Lib.hid hJx
        clear hJx HR2 hy
        gi_wp2
        exact bodyPost_ret (v := .tuple #[]) (by simp [results, Tryz.results197, go_sem]) rfl ⟨⟨_, rfl⟩, .inr ⟨_, trivial, HJx.out⟩⟩
set_option maxRecDepth 100000 in
theorem ValuesT (w : World) (mb : Option Nat) : Calls Tryz.prog 108 #[.map mb] w fun e w' => e = .returned (.func (.func 197) #[] #[.pointer (some ⟨w.heap.size, 0, none⟩)]) ∧ w' = w.alloc (.cells #[.map mb] 91 (0, 0)) := by
  have hmf : ∀ (fn : Fn) (first cap : Array Value) (W : World), (Instr.makeFunc fn first cap).run Tryz.prog W = .ok (.func fn first cap) W := fun _ _ _ _ => rfl
  go_enter Tryz.func108, Tryz.ntmps108
  go_wp2_with fail
  go_ret
  exact ⟨rfl, rfl⟩
set_option maxRecDepth 100000 in
theorem CollectT (w : World) (g : Nat) (lb : Array Value) (eg : ∀ args w, (callFunc g args).run Tryz.prog w = .ok (.enter g args) w) (S : List Tp → Prop) (N : Nat) (hN : N ≤ 1000000)
    (hseq : SeqStopsK Fence.wide 4 Tryz.prog g lb (fun t : Tp => #[.agg t.cells]) KeepsWalks S (fun _ => True) N w) :
    Calls Tryz.prog 107 #[.func (.func g) #[] lb] w fun e w' => ∃ (v : Value) (ss : List Tp), e = .returned v ∧ S ss ∧ w'.ownsRow w.heap.size 31 8 v ss.length (tpsC ss) ∧ Below w.heap.size w w' := by
  have HA := Lib.hid ((callsIn_wide (n := 5)).1 (appendSeqT w g lb eg S N hN hseq))
  clear hseq eg
  go_enter Tryz.func107, Tryz.ntmps107
  go_wp2_with fail
  refine HA.out.mono ?_
  rintro e w2 ⟨v, ss, rfl, h⟩
  have H := Lib.hid h
  clear h HA
  go_wp2
  go_ret
  exact ⟨v, ss, rfl, H.out⟩
instance : Inhabited Tp := ⟨⟨ByteArray.empty, 0, 0, 0, 0, 0, false, 0⟩⟩
def lessN (a b : ByteArray) : Bool := Op.bytesLess a.toList b.toList
def cmpN (a b : ByteArray) : Int := if lessN a b then -1 else if a.toList == b.toList then 0 else 1
def cmpT (x y : Tp) : Int := cmpN x.nm y.nm
set_option maxRecDepth 100000 in
theorem cmpS_any (w : World) (a b : ByteArray) : Calls Tryz.prog 111 #[.string a, .string b] w fun e w' => w = w' ∧ e = .returned (.int .i64 (cmpN a b)) := by
  have hN : ∀ (s : ByteArray), Calls Tryz.prog 200 #[.string s] w fun e w' => w = w' ∧ e = .returned (.bool false) := fun s => by
    go_enter Tryz.func200, Tryz.ntmps200
    go_wp2_with fail
    go_ret
    exact ⟨rfl, rfl⟩
  go_enter Tryz.func111, Tryz.ntmps111
  go_wp2_with fail
  refine (hN a).mono ?_
  rintro e w1 ⟨rfl, rfl⟩
  go_wp2_with fail
  refine (hN b).mono ?_
  rintro e w1 ⟨rfl, rfl⟩
  go_wp2_with fail
  · have h : Op.bytesLess a.toList b.toList = true := by assumption
    go_ret
    refine ⟨rfl, ?_⟩
    rw [show cmpN a b = -1 by unfold cmpN lessN; rw [if_pos h]]
    rfl
  · have h1 : Op.bytesLess a.toList b.toList = false := by assumption
    have h2 : (!a.toList == b.toList) = true := by assumption
    go_ret
    refine ⟨rfl, ?_⟩
    rw [show cmpN a b = 1 by unfold cmpN lessN; rw [if_neg (by rw [h1]; decide), if_neg (by intro h; rw [h] at h2; cases h2)]]
    rfl
  · have h1 : Op.bytesLess a.toList b.toList = false := by assumption
    have h2 : (!a.toList == b.toList) = false := by assumption
    go_ret
    refine ⟨rfl, ?_⟩
    rw [show cmpN a b = 0 by unfold cmpN lessN; rw [if_neg (by rw [h1]; decide), if_pos (by simpa using h2)]]
    rfl
set_option maxRecDepth 100000 in
theorem sorted1_any (w : World) (nm nm' : ByteArray) (p1 p2 p3 p4 p5 p7 q1 q2 q3 q4 q5 q7 : Int) (p6 q6 : Bool) : Calls Tryz.prog 110 #[.agg (tpz nm p1 p2 p3 p4 p5 p6 p7), .agg (tpz nm' q1 q2 q3 q4 q5 q6 q7)] w fun e w' => e = .returned (.int .i64 (cmpN nm nm')) ∧ w' = (w.alloc (.cells (tpz nm p1 p2 p3 p4 p5 p6 p7) 31 (0, 0))).alloc (.cells (tpz nm' q1 q2 q3 q4 q5 q6 q7) 31 (0, 0)) := by
  have b1 := block_alloc_old (.cells (tpz nm' q1 q2 q3 q4 q5 q6 q7) 31 (0, 0)) (block_alloc_new w (.cells (tpz nm p1 p2 p3 p4 p5 p6 p7) 31 (0, 0)))
  have b2 := block_alloc_new (w.alloc (.cells (tpz nm p1 p2 p3 p4 p5 p6 p7) 31 (0, 0))) (.cells (tpz nm' q1 q2 q3 q4 q5 q6 q7) 31 (0, 0))
  have e2 : (w.alloc (.cells (tpz nm p1 p2 p3 p4 p5 p6 p7) 31 (0, 0))).heap.size = w.heap.size + 1 := by simp
  rw [e2] at b2
  obtain ⟨y, hy⟩ : ∃ y, (w.alloc (.cells (tpz nm p1 p2 p3 p4 p5 p6 p7) 31 (0, 0))).alloc (.cells (tpz nm' q1 q2 q3 q4 q5 q6 q7) 31 (0, 0)) = y := ⟨_, rfl⟩
  rw [hy] at b1 b2 ⊢
  have c1 : y.cell? ⟨w.heap.size, 0, none⟩ = some (.string nm) := (cell_of_block b1).trans rfl
  have c2 : y.cell? ⟨w.heap.size + 1, 0, none⟩ = some (.string nm') := (cell_of_block b2).trans rfl
  have HY := Lib.hid hy
  have KC : Hid (∀ W, Calls Tryz.prog 111 #[.string nm, .string nm'] W fun e w' => W = w' ∧ e = .returned (.int .i64 (cmpN nm nm'))) := Lib.hid fun W => cmpS_any W nm nm'
  clear b1 b2 e2 hy
  go_enter Tryz.func110, Tryz.ntmps110
  go_upto_region 1 with fail
  rw [HY.out]
  go_wp2_with fail
  refine (KC.out _).mono ?_
  rintro e w2 ⟨rfl, rfl⟩
  clear KC c1 c2
  go_wp2
  go_ret
  exact ⟨rfl, rfl⟩
theorem lessN_eq (a b : ByteArray) : lessN a b = decide (a.toList < b.toList) := bytesLess_eq _ _
theorem ltOf_cmpT : ltOf cmpT = fun x y => lessN x.nm y.nm := by
  funext x y
  unfold ltOf cmpT cmpN
  by_cases h : lessN x.nm y.nm = true
  · rw [if_pos h, h]; rfl
  · rw [if_neg h]
    rw [Bool.not_eq_true] at h
    rw [h]
    split <;> rfl
theorem swoT : Sort.SWO (ltOf cmpT) := by
  rw [ltOf_cmpT]
  refine ⟨fun x => ?_, fun x y z h1 h2 => ?_, fun x y z h1 h2 => ?_⟩
  · show lessN x.nm x.nm = false
    rw [lessN_eq]
    exact decide_eq_false (List.lt_irrefl _)
  · have h1 : lessN x.nm y.nm = true := h1
    have h2 : lessN y.nm z.nm = true := h2
    rw [lessN_eq] at h1 h2
    show lessN x.nm z.nm = true
    rw [lessN_eq]
    exact decide_eq_true (List.lt_trans (of_decide_eq_true h1) (of_decide_eq_true h2))
  · have h1 : lessN x.nm y.nm = false := h1
    have h2 : lessN y.nm z.nm = false := h2
    rw [lessN_eq] at h1 h2
    show lessN x.nm z.nm = false
    rw [lessN_eq]
    refine decide_eq_false ?_
    have h1 := List.not_lt.1 (of_decide_eq_false h1)
    have h2 := List.not_lt.1 (of_decide_eq_false h2)
    exact List.not_lt.2 (List.le_trans h2 h1)
theorem tpsC_get : ∀ (l : List Tp) (t : Nat), t < l.length * 8 → (tpsC l)[t]! = (l[t / 8]!.cells.toList)[t % 8]!
  | [], t, h => by simp at h
  | a :: r, t, h => by
    have e : tpsC (a :: r) = a.cells.toList ++ tpsC r := rfl
    have hl : a.cells.toList.length = 8 := rfl
    rw [e]
    by_cases h8 : t < 8
    · have h1 : t / 8 = 0 := by omega
      have h2 : t % 8 = t := by omega
      rw [h1, h2, List.getElem!_eq_getElem?_getD, List.getElem?_append_left (by omega), ← List.getElem!_eq_getElem?_getD]
      rfl
    · obtain ⟨m, rfl⟩ : ∃ m, t = m + 8 := ⟨t - 8, by omega⟩
      have h1 : (m + 8) / 8 = m / 8 + 1 := by omega
      have h2 : (m + 8) % 8 = m % 8 := by omega
      rw [h1, h2, List.getElem!_eq_getElem?_getD, List.getElem?_append_right (by omega), hl, Nat.add_sub_cancel, ← List.getElem!_eq_getElem?_getD, tpsC_get r m (by rw [List.length_cons] at h; omega)]
      rfl
theorem flatK_tps (d : Array Tp) : Go.Sort.flatK (fun t : Tp => t.cells.toList) 8 d = (tpsC d.toList).toArray := by
  refine Go.Sort.ext_get! ?_ fun t ht => ?_
  · rw [Go.Sort.size_flatK]
    show d.size * 8 = (tpsC d.toList).toArray.size
    simp [tpsC_length]
  · rw [Go.Sort.size_flatK] at ht
    rw [Go.Sort.get_flatK _ _ _ _ ht]
    have := tpsC_get d.toList t (by rw [Array.length_toList]; exact ht)
    have e1 : (tpsC d.toList).toArray[t]! = (tpsC d.toList)[t]! := by simp
    have e2 : d.toList[t / 8]! = d[t / 8]! := by simp only [getElem!_def, Array.getElem?_toList]
    rw [e1, this, e2]
set_option maxRecDepth 100000 in
theorem SortT (w : World) (base : Nat) (v : Value) (ss : List Tp) (h : w.ownsRow base 31 8 v ss.length (tpsC ss)) (hl : ss.length ≤ 1000000) :
    Calls Tryz.prog 109 #[v, .func (.func 110) #[] #[]] w fun e w' => e = .returned (.tuple #[]) ∧ ∃ ss', ss'.Perm ss ∧ (ss'.Pairwise fun x y => lessN y.nm x.nm = false) ∧ w'.ownsRow base 31 8 v ss'.length (tpsC ss') ∧ Frm (Up base) w w' := by
  rcases h.2 with ⟨rfl, h0⟩ | ⟨g, cap, cur, rfl, hbg, hg, hnc, hcm, hcs, htake⟩
  · have hx : ss = [] := List.eq_nil_of_length_eq_zero h0
    subst hx
    refine (AnyF.slices_SortFunc_none Tryz.sortT none 0 _ w).mono ?_
    rintro e w' ⟨he, rfl⟩
    exact ⟨he, [], List.Perm.refl _, List.Pairwise.nil, h, Frm.refl _ _⟩
  · have hcells : ∀ j, j < (tpsC ss).length → cur[j]? = (tpsC ss)[j]? := fun j hj => by
      rw [← htake, List.getElem?_take, if_pos (by rw [tpsC_length] at hj; exact hj), Array.getElem?_toList]
    have hH : Go.Sort.HoldsK (fun t : Tp => t.cells.toList) 8 w g 0 ss.toArray := by
      intro j hj
      rw [Go.Sort.size_flatK] at hj
      have hj2 : j < (tpsC ss).length := by rw [tpsC_length]; simpa using hj
      rw [flatK_tps]
      refine ⟨?_, frozen_of_block hg⟩
      rw [Nat.zero_add, cell_of_block hg, hcells j hj2]
      simp [hj2]
    have hcmp : CmpLays Tryz.prog 110 #[] (fun t : Tp => t.cells.toList) 8 cmpT g 0 ss.toArray.size w := by
      intro m os dk hdk x y
      obtain ⟨nm, p1, p2, p3, p4, p5, p6, p7⟩ := x
      obtain ⟨nm', q1, q2, q3, q4, q5, q6, q7⟩ := y
      refine (sorted1_any (sortWorldK (fun t : Tp => t.cells.toList) 8 w g 0 m dk os) nm nm' p1 p2 p3 p4 p5 p7 q1 q2 q3 q4 q5 q7 p6 q6).mono ?_
      rintro e w' ⟨he, hw⟩
      refine ⟨he, 0, #[.cells (tpz nm p1 p2 p3 p4 p5 p6 p7) 31 (0, 0)] ++ #[.cells (tpz nm' q1 q2 q3 q4 q5 q6 q7) 31 (0, 0)], ?_⟩
      rw [hw, ← Go.Sort.grow_grow, ← Go.Sort.alloc_eq_grow, ← Go.Sort.alloc_eq_grow]
      rfl
    have hL := AnyQ.slices_SortFunc Tryz.sortT 8 (fun W => by kernel_rfl) (fun W => by kernel_rfl) (fun t : Tp => t.cells.toList) (fun _ => rfl) (fun x v hv => by
      obtain ⟨nm, p1, p2, p3, p4, p5, p6, p7⟩ := x
      have := oneTp nm p1 p2 p3 p4 p5 p6 p7
      rw [Array.all_eq_true_iff_forall_mem] at this
      exact this v (Array.mem_toList_iff.1 hv)) cmpT swoT 110 #[] g 0 cap ss.toArray w (enters_of Tryz.func110 (by kernel_rfl) rfl) hcmp hH (lt_of_block hg) (by simp; omega)
    refine hL.mono ?_
    rintro e w' ⟨he, d', n, os, hp, hs, hw⟩
    have hsz : d'.size = ss.length := hp.1.trans (by simp)
    have hperm : d'.toList.Perm ss := by
      have h1 := hp.2.2
      have e1 : d'.extract 0 ss.toArray.size = d' := by rw [← hp.1]; exact Array.extract_size
      have e2 : ss.toArray.extract 0 ss.toArray.size = ss.toArray := Array.extract_size
      rw [e1, e2] at h1
      exact h1
    have hcur : w'.heap[g]? = some (.cells (Go.Sort.putCells id 0 (Go.Sort.flatK (fun t : Tp => t.cells.toList) 8 d') cur) 31 (0, 0)) := by
      rw [hw]
      show (Array.modify w.heap g _ ++ os)[g]? = _
      rw [Array.getElem?_append_left (by rw [Array.size_modify]; exact lt_of_block hg), Array.getElem?_modify, if_pos rfl, hg]
      rfl
    refine ⟨he, d'.toList, hperm, ?_, ⟨by rw [tpsC_length], .inr ⟨g, cap, _, by simp [hsz], hbg, hcur, by rw [Array.length_toList, hsz]; exact hnc, hcm, by rw [← hcs]; simp [Go.Sort.putCells], ?_⟩⟩, ?_⟩
    · rw [List.pairwise_iff_getElem]
      intro i j hi hj hij
      rw [Array.length_toList] at hi hj
      have h1 := hs i j (Nat.zero_le _) hij (by rw [← hp.1]; exact hj)
      rw [ltOf_cmpT] at h1
      rw [getElem!_pos d' i hi, getElem!_pos d' j hj] at h1
      exact h1
    · apply List.ext_getElem?
      intro i
      rw [Array.length_toList, hsz, List.getElem?_take]
      split
      · rename_i hi
        have hi' : i < (tpsC d'.toList).length := by rw [tpsC_length, Array.length_toList, hsz]; exact hi
        have hic : i < cur.size := by rw [hcs]; have : ss.length * 8 ≤ cap * 8 := Nat.mul_le_mul_right 8 hnc; omega
        rw [Array.getElem?_toList]
        unfold Go.Sort.putCells
        rw [Array.getElem?_mapIdx, Array.getElem?_eq_getElem hic, Option.map_some, if_pos ⟨Nat.zero_le _, by rw [Go.Sort.size_flatK, hsz]; omega⟩, flatK_tps, List.getElem?_eq_getElem hi']
        simp [hi']
      · rename_i hi
        rw [List.getElem?_eq_none (by rw [tpsC_length, Array.length_toList, hsz]; omega)]
    · rw [hw]
      refine frm_up ?_ rfl rfl rfl hbg fun k hk hne => ?_
      · show w.heap.size ≤ (Array.modify w.heap g _ ++ os).size
        simp
      · show (Array.modify w.heap g _ ++ os)[k]? = _
        rw [Array.getElem?_append_left (by rw [Array.size_modify]; exact hk), Array.getElem?_modify, if_neg (fun e => hne e.symm)]
theorem run_getObj_iter {P : Program} {w : World} {r : Nat} {m : Option Nat} {s l : Nat} {seen : Array Nat} (hb : w.heap[r]? = some (.mapIter m s seen l)) : (getObj r).run P w = .ok (.mapIter m s seen l) w := by
  simp [getObj, Sem.run, hb]
set_option maxHeartbeats 1000000 in
set_option maxRecDepth 100000 in
theorem valuesNil (w : World) (Bm : Nat) (hBm : Bm < w.heap.size) (hm : w.cell? ⟨Bm, 0, none⟩ = some (.map none)) :
    SeqStopsK Fence.wide 4 Tryz.prog 197 #[.pointer (some ⟨Bm, 0, none⟩)] (fun t : Tp => #[.agg t.cells]) KeepsWalks (fun ss => ss = []) (fun _ => True) 0 w := by
  intro l J Jx W hW hJ hJx hY h0
  have hm0 : W.cell? ⟨Bm, 0, none⟩ = some (.map none) := (hW.cell (p := ⟨Bm, 0, none⟩) hBm).trans hm
  refine callsIn_of_wp Tryz.func197 rfl trivial ?_ rfl
  simp only [Tryz.ntmps197, List.size_toArray, List.length_cons, List.length_nil, Nat.reduceAdd, Nat.reduceSub, Array.replicate_succ, Array.replicate_zero, List.push_toArray, List.append_toArray, List.nil_append, List.cons_append]
  have HM := Lib.hid (And.intro hJ hJx)
  have HY := Lib.hid hY
  have H0 := Lib.hid h0
  clear hm hJ hJx hY h0 hW hBm
  have hrange : (Instr.range 91 (.map none)).run Tryz.prog W = .ok (.pointer (some ⟨W.heap.size, 0, none⟩)) (W.alloc (.mapIter none 0 #[] 0)) := by
    simp [Instr.range, run_underlying Tryz.underlying91, Result.andThen, go_sem]
  have hget : (getObj W.heap.size).run Tryz.prog (W.alloc (.mapIter none 0 #[] 0)) = .ok (.mapIter none 0 #[] 0) (W.alloc (.mapIter none 0 #[] 0)) := by
    exact run_getObj_iter (block_alloc_new W (.mapIter none 0 #[] 0))
  have hnext : ∀ ty, (Instr.next (.pointer (some ⟨W.heap.size, 0, none⟩)) false ty).run Tryz.prog (W.alloc (.mapIter none 0 #[] 0)) = .ok (.tuple #[.bool false]) (W.alloc (.mapIter none 0 #[] 0)) := fun ty => by
    simp [Instr.next, hget, Result.andThen, go_sem]
  have HJ0 : Hid (J [] (W.alloc (.mapIter none 0 #[] 0))) := Lib.hid (HM.out.1 [] W _ none H0.out (World.grownBy_alloc W _ none) (fun r e => by cases e))
  obtain ⟨Y, hY⟩ : ∃ Y, W.alloc (.mapIter none 0 #[] 0) = Y := ⟨_, rfl⟩
  obtain ⟨r, hr⟩ : ∃ r, W.heap.size = r := ⟨_, rfl⟩
  rw [hY] at hrange hnext HJ0
  rw [hr] at hrange hnext
  clear hget hY hr HY H0 HM
  gi_wp2_with gi_in
  gi_loopw [4] (fun _ wr => wr = Y) (fun _ _ => 0)
  case atStart => rfl
  case round =>
    obtain rfl := hrel
    gi_wp2_with gi_in
    go_end0
    exact ⟨⟨_, rfl⟩, .inl ⟨[], rfl, HJ0.out⟩⟩
structure CatL (L : List Tp) : Prop where
  asc : L.Pairwise fun x y => lessN x.nm y.nm = true
  nm : ∀ t ∈ L, t.nm.size ≤ 50
def mapL (L : List Tp) : Blk → Option Tp := fun a => L.find? fun t => keyB t.nm == a
theorem lessN_irr (a : ByteArray) : lessN a a = false := by rw [lessN_eq]; exact decide_eq_false (List.lt_irrefl _)
theorem lessN_asym {a b : ByteArray} (h : lessN a b = true) : lessN b a = false := by
  rw [lessN_eq] at h ⊢
  exact decide_eq_false fun h2 => List.lt_irrefl _ (List.lt_trans (of_decide_eq_true h) h2)
theorem toList_inj {a b : ByteArray} (h : a.toList = b.toList) : a = b := by
  have h1 : a.data.toList = b.data.toList := by rw [← ByteArray.toList_eq, ← ByteArray.toList_eq]; exact h
  exact ByteArray.ext (Array.toList_inj.1 h1)
theorem lessN_tri {a b : ByteArray} (h1 : lessN a b = false) (h2 : lessN b a = false) : a = b := by
  rw [lessN_eq] at h1 h2
  exact toList_inj (List.le_antisymm (List.not_lt.1 (of_decide_eq_false h2)) (List.not_lt.1 (of_decide_eq_false h1)))
theorem CatL.names {L : List Tp} (h : CatL L) : (L.map (·.nm)).Nodup := by
  rw [List.Nodup, List.pairwise_map]
  exact h.asc.imp fun hl e => by rw [e, lessN_irr] at hl; cases hl
theorem CatL.nodup {L : List Tp} (h : CatL L) : L.Nodup := h.asc.imp fun hl e => by rw [e, lessN_irr] at hl; cases hl
end
end Go.Proofs.YtlemndledcmhiaaGreatDoor
