/-
  bollardalike: Round, Block, Bytes.
-/
import Derived.Test.YtkanfpmmgaipnaaDevK
import Derived.Deep.QuietTactic
import Derived.BigQuiet
namespace Go.Proofs.Ytkanfpmmgaipnaa
open Go.ChangeMaps Go.MapKept Go.RowKit

theorem Round_any (w : World) (p n : Int) (hp : okI p) (hn : 1 ≤ n) (hn' : n ≤ 4611686018427387904) :
    Calls Try.prog 30 #[.int .i64 p, .int .i64 n] w fun e w' => w = w' ∧ e = .returned (.int .i64 (p % n)) := by
  rw [okI_iff] at hp
  obtain ⟨hp1, hp2⟩ := hp
  by_cases h0 : 0 ≤ p
  · have h4 := Int.emod_nonneg p (by omega : n ≠ 0)
    go_enter Try.func30, Try.ntmps30
    go_wp2
    go_ret
    exact ⟨rfl, rfl⟩
  · have h0' : p < 0 := by omega
    have h5 := Int.emod_lt_of_pos p (by omega : 0 < n)
    have h6 := Int.emod_nonneg p (by omega : n ≠ 0)
    rcases tmod_neg p n h0' hn with ⟨h1, h2, h7⟩ | ⟨h1, h2⟩
    · have H2 := Lib.hid h2
      clear h2 h5 h6 h0
      go_enter Try.func30, Try.ntmps30
      go_wp2
      go_ret
      exact ⟨rfl, by rw [← H2.out]; rfl⟩
    · have H1 := Lib.hid h1
      have H2 := Lib.hid h2
      have h7 : ¬ p.tmod n < 0 := by omega
      have h8 : p.tmod n ≤ 0 := by omega
      clear h1 h2 h5 h6 h0
      go_enter Try.func30, Try.ntmps30
      go_wp2
      go_ret
      exact ⟨rfl, by rw [H2.out, ← H1.out]; rfl⟩

/-- A number's lowest byte. -/
def byteOf (c : Int) : UInt8 := UInt8.ofNat (c % 256).toNat

theorem B8_byteOf (c : Int) : B8 (byteOf c) = .int .u8 (c % 256) := by
  unfold B8 byteOf
  have h0 := Int.emod_nonneg c (by omega : (256 : Int) ≠ 0)
  have h1 := Int.emod_lt_of_pos c (by omega : (0 : Int) < 256)
  rw [UInt8.toNat_ofNat']
  congr 1
  omega

/-- A block of one byte. -/
def blockOf (c : Int) : Blk := List.replicate 512 (byteOf c)

theorem blockOf_length (c : Int) : (blockOf c).length = 512 := List.length_replicate

theorem blockOf_zero : blockOf 0 = zeros := rfl

theorem fill_step (v z : Value) (i n : Nat) (hi : i < n) (c : Array Value) (hc : c.toList = List.replicate i v ++ List.replicate (n - i) z) : (c.setIfInBounds i v).toList = List.replicate (i + 1) v ++ List.replicate (n - (i + 1)) z := by
  rw [Array.toList_setIfInBounds, hc, List.set_append_right _ _ (by simp), List.length_replicate, Nat.sub_self]
  have : n - i = (n - (i + 1)) + 1 := by omega
  rw [this, List.replicate_succ, List.set_cons_zero, List.replicate_succ']
  simp

set_option maxRecDepth 100000 in
theorem Block_any (w : World) (c : Int) :
    Calls Try.prog 32 #[.int .i64 c] w fun e w' => e = .returned (.slice (some ⟨w.heap.size, 0, none⟩) 512 512) ∧ w' = w.alloc (bytesObj (blockOf c)) := by
  have hmk := run_make512
  go_enter Try.func32, Try.ntmps32
  go_wp2_with fail
  clear hmk
  go_loopw [4] (fun t wr => ∃ (i : Nat) (cc : Array Value), i ≤ 512 ∧ t = .int .i64 i ∧ wr = w.alloc (.cells cc 5 (0, 0)) ∧ cc.size = 512 ∧ cc.toList = List.replicate i (B8 (byteOf c)) ++ List.replicate (512 - i) (.int .u8 0)) (fun t _ => 512 - (intOf t).toNat)
  case atStart => exact ⟨0, zc, Nat.zero_le _, rfl, rfl, zc_size, by rw [zc_toList]; rfl⟩
  case round =>
    obtain ⟨i, cc, hi, rfl, rfl, hsz, hcc⟩ := hrel
    have HSZ := Lib.hid hsz
    have HCC := Lib.hid hcc
    clear hsz hcc
    by_cases hlt : i < 512
    · have hcell : (w.alloc (.cells cc 5 (0, 0))).cell? ⟨w.heap.size, i, none⟩ = some (cc[i]'(by rw [HSZ.out]; exact hlt)) := by
        rw [cell_of_block (block_alloc_new _ _), Array.getElem?_eq_getElem]
      have hi0 : (0 : Int) ≤ (i : Int) := Int.natCast_nonneg _
      have hi1 : (i : Int) < 512 := by omega
      have hB := B8_byteOf c
      have HB := Lib.hid hB
      clear hB
      have hcell' : ∃ u, (w.alloc (.cells cc 5 (0, 0))).cell? ⟨w.heap.size, i, none⟩ = some u := ⟨_, hcell⟩
      clear hcell
      obtain ⟨u, hcell⟩ := hcell'
      go_wp2
      refine ⟨⟨i + 1, _, by omega, by go_num, rfl, by simp [HSZ.out], ?_⟩, by simp [intOf]; omega⟩
      rw [← B8_byteOf]
      exact fill_step _ _ i 512 hlt cc HCC.out
    · obtain rfl : i = 512 := by omega
      have hcc2 : (Obj.cells cc 5 (0, 0)) = bytesObj (blockOf c) := by
        unfold bytesObj blockOf
        rw [List.map_replicate]
        congr 1
        apply Array.toList_inj.1
        rw [HCC.out]
        simp
      have HC2 := Lib.hid hcc2
      clear hcc2
      go_wp2
      go_ret
      exact ⟨rfl, by rw [HC2.out]⟩

/-- The slice v, which may be nil, holds the bytes bs. -/
def SliceOf (w : World) (v : Value) (bs : List UInt8) : Prop :=
  ∃ a cap, v = .slice a bs.length cap ∧ ∀ i b, bs[i]? = some b → ∃ blk off, a = some ⟨blk, off, none⟩ ∧ blk < w.heap.size ∧ w.cell? ⟨blk, off + i, none⟩ = some (B8 b)

theorem BytesAt.sliceOf {w : World} {v : Value} {bs : List UInt8} {R : Nat → Prop} (h : BytesAt w v bs R) : SliceOf w v bs := by
  obtain ⟨blk, off, cap, c, rfl, h2, h3, h4, h5⟩ := h
  refine ⟨_, cap, rfl, fun i b hb => ⟨blk, off, rfl, lt_of_block h3, ?_⟩⟩
  obtain ⟨h6, h7⟩ := List.getElem?_eq_some_iff.1 hb
  rw [cell_of_block h3, h4 i h6, List.getD_eq_getElem?_getD, hb]
  rfl

theorem SliceOf.nil (w : World) : SliceOf w (.slice none 0 0) [] := ⟨none, 0, rfl, fun i b h => by simp at h⟩

theorem SliceOf.keep {w w' : World} {v : Value} {bs : List UInt8} (h : SliceOf w v bs) (hk : ∀ b, b < w.heap.size → w'.heap[b]? = w.heap[b]?) (hs : w.heap.size ≤ w'.heap.size) : SliceOf w' v bs := by
  obtain ⟨a, cap, rfl, h1⟩ := h
  refine ⟨a, cap, rfl, fun i b hb => ?_⟩
  obtain ⟨blk, off, e, hlt, hc⟩ := h1 i b hb
  exact ⟨blk, off, e, Nat.lt_of_lt_of_le hlt hs, by rw [← hc]; exact World.cell?_of_block (w := w) (hk blk hlt)⟩

theorem SliceOf.frm {w w' : World} {v : Value} {bs : List UInt8} (h : SliceOf w v bs) (hf : Frm NoB w w') : SliceOf w' v bs := h.keep (fun b hb => hf.block b hb (fun e => e)) hf.size

theorem bytesObj_at {w : World} {b : Nat} {bs : List UInt8} (h : w.heap[b]? = some (bytesObj bs)) {n : Nat} (hn : bs.length = n) (cap : Nat) (hc : n ≤ cap) (R : Nat → Prop) (hR : R b) : BytesAt w (.slice (some ⟨b, 0, none⟩) n cap) bs R := by
  subst hn
  refine ⟨b, 0, cap, _, rfl, hc, h, fun i hi => ?_, hR⟩
  rw [Nat.zero_add, List.getElem?_toArray, List.getElem?_map, List.getElem?_eq_getElem hi, List.getD_eq_getElem?_getD, List.getElem?_eq_getElem hi]
  rfl

theorem drewN2 (w : World) (a b : Nat) : (w.drewN a).drewN b = w.drewN (a + b) := by simp [World.drewN, Nat.add_assoc]

theorem beq_bytes (x y : UInt8) : ((x.toNat : Int) != (y.toNat : Int)) = !(x == y) := by
  rw [bne, Bool.not_inj_iff]
  by_cases h : x = y
  · subst h; simp
  · have h2 : ¬ (x.toNat : Int) = (y.toNat : Int) := fun e => h (UInt8.toNat_inj.1 (by omega))
    rw [beq_eq_false_iff_ne.2 h2, beq_eq_false_iff_ne.2 h]

set_option maxRecDepth 100000 in
theorem Bytes_any (w : World) (u v : Value) (bs cs : List UInt8) (hu : SliceOf w u bs) (hv : SliceOf w v cs) (_hl : bs.length < 4611686018427387904) :
    Calls Try.prog 36 #[u, v] w fun e w' => e = .returned (.bool (bs == cs)) ∧ ∃ n, w' = w.drewN n := by
  obtain ⟨a, ca, rfl, ha⟩ := hu
  obtain ⟨b, cb, rfl, hb⟩ := hv
  by_cases hlen : bs.length = cs.length
  · have hne : ((bs.length : Int) != (cs.length : Int)) = false := by rw [hlen]; simp
    have HA := Lib.hid ha
    have HB := Lib.hid hb
    have HLEN := Lib.hid hlen
    clear ha hb hlen
    go_enter Try.func36, Try.ntmps36
    go_wp2_with fail
    go_loopw [5] (fun t wr => ∃ (i nq : Nat), i ≤ bs.length ∧ t = .int .i64 i ∧ wr = w.drewN nq ∧ bs.take i = cs.take i) (fun t _ => bs.length - (intOf t).toNat)
    case atStart => exact ⟨0, 0, Nat.zero_le _, rfl, rfl, rfl⟩
    case round =>
      obtain ⟨i, nq, hi, rfl, rfl, htk⟩ := hrel
      have HTK := Lib.hid htk
      clear htk
      by_cases hlt : i < bs.length
      · have hlt2 : i < cs.length := by rw [← HLEN.out]; exact hlt
        obtain ⟨x, hx⟩ : ∃ x, bs[i]? = some x := ⟨_, List.getElem?_eq_getElem hlt⟩
        obtain ⟨y, hy⟩ : ∃ y, cs[i]? = some y := ⟨_, List.getElem?_eq_getElem hlt2⟩
        obtain ⟨ba, oa, rfl, _, c1⟩ := HA.out i x hx
        obtain ⟨bb, ob, rfl, _, c2⟩ := HB.out i y hy
        unfold B8 at c1 c2
        have hi0 : (0 : Int) ≤ (i : Int) := Int.natCast_nonneg _
        have hi1 : (i : Int) < (bs.length : Int) := by omega
        have hi2 : (i : Int) < (cs.length : Int) := by omega
        have HX := Lib.hid hx
        have HY := Lib.hid hy
        clear hx hy
        by_cases hxy : x = y
        · have hd : ((x.toNat : Int) != (y.toNat : Int)) = false := by rw [hxy]; simp
          have HXY := Lib.hid hxy
          clear hxy
          have hnext : bs.take (i + 1) = cs.take (i + 1) := by
            rw [List.take_add_one, List.take_add_one, HTK.out, HX.out, HY.out, HXY.out]
          have HN := Lib.hid hnext
          clear hnext
          go_wp2_with fail
          go_quiet (fail)
          go_wp2
          exact ⟨⟨i + 1, _, by omega, by go_num, rfl, HN.out⟩, by simp [intOf]; omega⟩
        · have hd : ((x.toNat : Int) != (y.toNat : Int)) = true := by rw [beq_bytes]; simp [hxy]
          have hfin : (bs == cs) = false := by
            rw [beq_eq_false_iff_ne]
            intro e
            have h1 := HX.out
            rw [e, HY.out] at h1
            exact hxy (Option.some.inj h1).symm
          have HFIN := Lib.hid hfin
          clear hfin hxy
          go_wp2_with fail
          go_quiet (fail)
          go_wp2
          go_ret
          exact ⟨by rw [HFIN.out]; rfl, _, drewN2 _ _ _⟩
      · obtain rfl : i = bs.length := by omega
        have hfin : bs = cs := by
          have h1 := HTK.out
          rw [List.take_length, HLEN.out, List.take_length] at h1
          exact h1
        have HFIN := Lib.hid hfin
        clear hfin
        go_wp2
        go_ret
        exact ⟨by rw [HFIN.out]; simp, _, rfl⟩
  · have hne : ((bs.length : Int) != (cs.length : Int)) = true := by rw [bne_iff_ne]; omega
    have hfin : (bs == cs) = false := by
      rw [beq_eq_false_iff_ne]
      intro e
      exact hlen (by rw [e])
    have HFIN := Lib.hid hfin
    clear hfin hlen ha hb
    go_enter Try.func36, Try.ntmps36
    go_wp2
    go_ret
    exact ⟨by rw [HFIN.out]; rfl, 0, rfl⟩
end Go.Proofs.Ytkanfpmmgaipnaa
