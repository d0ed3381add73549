/-
  Numbers as bytes (package bits): what Get and Put do, the lowest byte first.
-/
import Derived.Test.YtkanfpmmgaipnaaLawA
namespace Go.Proofs.Ytkanfpmmgaipnaa
set_option linter.unusedVariables false
open Go.ChangeMaps Go.MapKept Go.RowKit

theorem u64_in {x : Int} (h0 : 0 ≤ x) (h1 : x < 18446744073709551616) : IntKind.u64.wrap x = x := by
  simp [IntKind.wrap, IntKind.bits, IntKind.signed]
  omega

/-- The number that bytes are, the lowest first. -/
def leVal : List UInt8 → Nat
  | [] => 0
  | b :: r => b.toNat + 256 * leVal r

theorem leVal_lt : ∀ l : List UInt8, leVal l < 256 ^ l.length
  | [] => by simp [leVal]
  | b :: r => by
    have h1 := leVal_lt r
    have h2 := b.toNat_lt
    rw [List.length_cons, Nat.pow_succ]
    show b.toNat + 256 * leVal r < _
    omega

/-- The bytes of a number, the lowest first. -/
def leBytes : Nat → Nat → List UInt8
  | 0, _ => []
  | n + 1, v => UInt8.ofNat v :: leBytes n (v / 256)

theorem leBytes_length : ∀ n v, (leBytes n v).length = n
  | 0, _ => rfl
  | n + 1, v => by rw [leBytes, List.length_cons, leBytes_length n]

theorem leVal_leBytes : ∀ n v, v < 256 ^ n → leVal (leBytes n v) = v
  | 0, v, h => by simp at h; subst h; rfl
  | n + 1, v, h => by
    show (UInt8.ofNat v).toNat + 256 * leVal (leBytes n (v / 256)) = v
    rw [leVal_leBytes n (v / 256) (by rw [Nat.pow_succ] at h; omega), UInt8.toNat_ofNat']
    omega

theorem leBytes_get : ∀ (n v i : Nat), i < n → (leBytes n v)[i]? = some (UInt8.ofNat (v / 256 ^ i))
  | 0, _, _, h => by omega
  | n + 1, v, 0, _ => by simp [leBytes]
  | n + 1, v, i + 1, h => by
    rw [leBytes, List.getElem?_cons_succ, leBytes_get n (v / 256) i (by omega), Nat.div_div_eq_div_mul, Nat.pow_succ, Nat.mul_comm]

/-- The bytes, with a number in them. -/
def putLE (bs : List UInt8) (p n v : Nat) : List UInt8 := bs.take p ++ leBytes n v ++ bs.drop (p + n)
/-- The number that stands in the bytes. -/
def getLE (bs : List UInt8) (p n : Nat) : Nat := leVal ((bs.drop p).take n)

theorem putLE_length (bs : List UInt8) (p n v : Nat) (h : p + n ≤ bs.length) : (putLE bs p n v).length = bs.length := by
  unfold putLE
  rw [List.length_append, List.length_append, List.length_take, leBytes_length, List.length_drop]
  omega

theorem getLE_putLE_same (bs : List UInt8) (p n v : Nat) (h : p + n ≤ bs.length) (hv : v < 256 ^ n) : getLE (putLE bs p n v) p n = v := by
  unfold getLE putLE
  have h1 : (bs.take p).length = p := by rw [List.length_take]; omega
  rw [List.append_assoc, List.drop_append, h1, Nat.sub_self, List.drop_zero, List.drop_of_length_le (by omega), List.nil_append, List.take_append, leBytes_length, Nat.sub_self, List.take_zero, List.append_nil,
    List.take_of_length_le (by rw [leBytes_length]; omega)]
  exact leVal_leBytes n v hv

theorem putLE_get (bs : List UInt8) (p n v i : Nat) (h : p + n ≤ bs.length) : (putLE bs p n v)[i]? = if p ≤ i ∧ i < p + n then some (UInt8.ofNat (v / 256 ^ (i - p))) else bs[i]? := by
  unfold putLE
  have h1 : (bs.take p).length = p := by rw [List.length_take]; omega
  rw [List.append_assoc, List.getElem?_append, h1]
  split
  · rename_i hlt
    rw [if_neg (by omega), List.getElem?_take, if_pos hlt]
  · rw [List.getElem?_append, leBytes_length]
    split
    · rw [if_pos (by omega), leBytes_get _ _ _ (by omega)]
    · rw [if_neg (by omega), List.getElem?_drop]
      congr 1
      omega

theorem getLE_congr {cs bs : List UInt8} {p n : Nat} (h : ∀ i, p ≤ i → i < p + n → cs[i]? = bs[i]?) : getLE cs p n = getLE bs p n := by
  unfold getLE
  congr 1
  apply List.ext_getElem?
  intro i
  rw [List.getElem?_take, List.getElem?_take, List.getElem?_drop, List.getElem?_drop]
  split
  · exact h _ (by omega) (by omega)
  · rfl

theorem getLE_putLE_other (bs : List UInt8) (p n v q m : Nat) (h : p + n ≤ bs.length) (hd : q + m ≤ p ∨ p + n ≤ q) : getLE (putLE bs p n v) q m = getLE bs q m :=
  getLE_congr fun i h1 h2 => by rw [putLE_get _ _ _ _ _ h, if_neg (by omega)]

theorem or_byte (a b : Nat) (ha : a < 72057594037927936) (hb : b < 256) : Go.bits .or .u64 ((a : Int) * 256) (b : Int) = ((a * 256 + b : Nat) : Int) := by
  have h1 : (BitVec.ofInt IntKind.u64.bits ((a : Int) * 256)).toNat = a * 256 := by
    rw [BitVec.toNat_ofInt]
    show ((a : Int) * 256 % 18446744073709551616).toNat = a * 256
    omega
  have h2 : (BitVec.ofInt IntKind.u64.bits (b : Int)).toNat = b := by
    rw [BitVec.toNat_ofInt]
    show ((b : Int) % 18446744073709551616).toNat = b
    omega
  have h3 : (BitVec.ofInt IntKind.u64.bits ((a : Int) * 256) ||| BitVec.ofInt IntKind.u64.bits (b : Int)).toNat = a * 256 + b := by
    rw [BitVec.toNat_or, h1, h2]
    have := Nat.two_pow_add_eq_or_of_lt (i := 8) (b := b) (by omega) a
    rw [Nat.mul_comm]
    exact this.symm
  show IntKind.u64.wrap ((BitVec.ofInt IntKind.u64.bits ((a : Int) * 256) ||| BitVec.ofInt IntKind.u64.bits (b : Int)).toNat : Int) = _
  rw [h3]
  exact u64_in (by omega) (by omega)

theorem pow_le (i : Nat) (h : i ≤ 7) : 256 ^ i ≤ 72057594037927936 := by
  rcases (by omega : i = 0 ∨ i = 1 ∨ i = 2 ∨ i = 3 ∨ i = 4 ∨ i = 5 ∨ i = 6 ∨ i = 7) with rfl | rfl | rfl | rfl | rfl | rfl | rfl | rfl <;> decide

set_option maxRecDepth 100000 in
theorem bitsMay_any (w : World) (a : Option Addr) (len cap : Nat) (p size : Int) (h1 : 1 ≤ size) (h2 : size ≤ 8) (h3 : 0 ≤ p) (h4 : p + size ≤ len) (h5 : len < 4611686018427387904) :
    Calls Try.prog 116 #[.slice a len cap, .int .i64 p, .int .i64 size] w fun e w' => w = w' ∧ e = .returned (.bool true) := by
  have h6 : p ≤ (len : Int) - size := by omega
  go_enter Try.func116, Try.ntmps116
  go_wp2
  go_ret
  exact ⟨rfl, rfl⟩

/-- The number of the last i bytes of the window. -/
def tailLE (bs : List UInt8) (p n i : Nat) : Nat := getLE bs (p + (n - i)) i

theorem tailLE_succ (bs : List UInt8) (p n i : Nat) (hi : i < n) (h : p + n ≤ bs.length) (y : UInt8) (hy : bs[p + (n - 1 - i)]? = some y) : tailLE bs p n (i + 1) = tailLE bs p n i * 256 + y.toNat := by
  unfold tailLE getLE
  have e1 : p + (n - (i + 1)) = p + (n - 1 - i) := by omega
  obtain ⟨h1, h2⟩ := List.getElem?_eq_some_iff.1 hy
  rw [e1, List.drop_eq_getElem_cons h1, h2, List.take_succ_cons, show p + (n - 1 - i) + 1 = p + (n - i) from by omega]
  show y.toNat + 256 * _ = _
  omega

theorem tailLE_lt (bs : List UInt8) (p n i : Nat) (hi : i ≤ n) (h : p + n ≤ bs.length) : tailLE bs p n i < 256 ^ i := by
  unfold tailLE getLE
  have h1 := leVal_lt ((bs.drop (p + (n - i))).take i)
  have h2 : ((bs.drop (p + (n - i))).take i).length = i := by rw [List.length_take, List.length_drop]; omega
  rwa [h2] at h1

theorem getLE_lt (bs : List UInt8) (p n : Nat) (h : p + n ≤ bs.length) : getLE bs p n < 256 ^ n := by
  have := tailLE_lt bs p n n (Nat.le_refl _) h
  unfold tailLE at this
  rwa [Nat.sub_self] at this

set_option maxRecDepth 100000 in
theorem bitsGet_any (w : World) (v : Value) (bs : List UInt8) (p size : Nat) (hv : SliceOf w v bs) (h1 : 1 ≤ size) (h2 : size ≤ 8) (h4 : p + size ≤ bs.length) (h5 : bs.length < 4611686018427387904) :
    Calls Try.prog 108 #[v, .int .i64 p, .int .i64 size, .bool false] w fun e w' => w = w' ∧ e = .returned (.tuple #[.int .u64 (getLE bs p size), .bool true]) := by
  obtain ⟨a, cap, rfl, hcell⟩ := hv
  have HC := Lib.hid hcell
  clear hcell
  go_enter Try.func108, Try.ntmps108
  go_wp2_with fail
  refine (bitsMay_any _ _ _ _ _ _ (by omega) (by omega) (by omega) (by omega) (by omega)).mono ?_
  rintro e w2 ⟨rfl, rfl⟩
  go_wp2_with fail
  go_loopw [8, 10, 11, 18] (fun tv _ _ ti wr => wr = w ∧ ∃ i : Nat, i ≤ size ∧ ti = .int .i64 i ∧ tv = .int .u64 (tailLE bs p size i)) (fun _ _ _ ti _ => size - (intOf ti).toNat)
  case atStart => exact ⟨rfl, 0, Nat.zero_le _, rfl, rfl⟩
  case round =>
    obtain ⟨rfl, i, hi, rfl, rfl⟩ := hrel
    by_cases hlt : i < size
    · have hi0 : (0 : Int) ≤ (i : Int) := Int.natCast_nonneg _
      have hi1 : (i : Int) < (size : Int) := by omega
      obtain ⟨y, hy⟩ : ∃ y, bs[p + (size - 1 - i)]? = some y := ⟨_, List.getElem?_eq_getElem (by omega)⟩
      obtain ⟨blk, off, rfl, hb, hc0⟩ := HC.out (p + (size - 1 - i)) y hy
      have hc : wr.cell? ⟨blk, off + (p + (size - 1 - i)), none⟩ = some (.int .u8 y.toNat) := hc0
      have HS := Lib.hid (tailLE_succ bs p size i hlt h4 y hy)
      have hx1 := Nat.lt_of_lt_of_le (tailLE_lt bs p size i hi h4) (pow_le i (by omega))
      clear hy hc0
      generalize tailLE bs p size i = x at *
      have hyl := y.toNat_lt
      have e1 : ((p : Int) + ((size : Int) - 1 - (i : Int))) = ((p + (size - 1 - i) : Nat) : Int) := by omega
      have hw : IntKind.u64.wrap ((x : Int) * 256) = (x : Int) * 256 := u64_in (by omega) (by omega)
      have hwy : IntKind.u64.wrap (y.toNat : Int) = (y.toNat : Int) := u64_in (by omega) (by omega)
      have hor : Go.bits .or .u64 ((x : Int) * 256) (y.toNat : Int) = ((tailLE bs p size (i + 1) : Nat) : Int) := by rw [HS.out]; exact or_byte x y.toNat hx1 (by omega)
      go_wp2
      exact ⟨⟨trivial, i + 1, hlt, by go_num, rfl⟩, by simp [intOf]; omega⟩
    · obtain rfl : i = size := by omega
      have hT : tailLE bs p i i = getLE bs p i := by unfold tailLE; rw [Nat.sub_self]; rfl
      rw [hT]
      go_wp2
      go_ret2
      exact ⟨rfl, rfl⟩

/-- One byte of bytes is written. -/
theorem BytesAt.put {w : World} {blk off cap : Nat} {bs : List UInt8} {n : Nat} {R : Nat → Prop} (h : BytesAt w (.slice (some ⟨blk, off, none⟩) n cap) bs R) (j : Nat) (hj : j < bs.length) (y : UInt8) :
    BytesAt (w.setCell ⟨blk, off + j, none⟩ (B8 y)) (.slice (some ⟨blk, off, none⟩) n cap) (bs.set j y) R := by
  obtain ⟨blk', off', cap', c, e, h2, h3, h4, h5⟩ := h
  injection e with e1 e2 e3
  injection e1 with e1
  injection e1 with e1 e4
  subst e1 e2 e3 e4
  have hc : off + j < c.size := by
    rcases Nat.lt_or_ge (off + j) c.size with h | h
    · exact h
    · have := h4 j hj
      rw [Array.getElem?_eq_none h] at this
      cases this
  refine ⟨blk, off, cap, c.setIfInBounds (off + j) (B8 y), by rw [List.length_set], by rw [List.length_set]; exact h2, block_setCell_same _ h3, fun i hi => ?_, h5⟩
  rw [List.length_set] at hi
  rw [List.getD_eq_getElem?_getD]
  by_cases e : i = j
  · subst e
    rw [Array.getElem?_setIfInBounds_self_of_lt hc, List.getElem?_set_self hi]
    rfl
  · rw [Array.getElem?_setIfInBounds_ne (by omega), List.getElem?_set_ne (Ne.symm e), ← List.getD_eq_getElem?_getD]
    exact h4 i hi

/-- Behind i rounds of Put. -/
def putPart (bs : List UInt8) (p n v i : Nat) : List UInt8 := putLE bs p i v

theorem putLE_succ (bs : List UInt8) (p v i : Nat) (h : p + i < bs.length) : putLE bs p (i + 1) v = (putLE bs p i v).set (p + i) (UInt8.ofNat (v / 256 ^ i)) := by
  apply List.ext_getElem?
  intro k
  rw [putLE_get _ _ _ _ _ (by omega), List.getElem?_set, putLE_length _ _ _ _ (by omega), putLE_get _ _ _ _ _ (by omega)]
  by_cases e : p + i = k
  · subst e
    rw [if_pos (by omega), if_pos rfl, if_pos h, show p + i - p = i from by omega]
  · rw [if_neg e]
    by_cases hk : p ≤ k ∧ k < p + i
    · rw [if_pos hk, if_pos (by omega)]
    · rw [if_neg hk, if_neg (by omega)]

theorem putLE_zero (bs : List UInt8) (p v : Nat) : putLE bs p 0 v = bs := by
  unfold putLE
  rw [leBytes, List.append_nil, Nat.add_zero, List.take_append_drop]

theorem two_pow8 (i : Nat) : (2 : Int) ^ (8 * i) = ((256 ^ i : Nat) : Int) := by
  rw [show (256 : Nat) = 2 ^ 8 from rfl, ← Nat.pow_mul]
  norm_cast

theorem shr_nat (n i : Nat) (s : Int) (hs : 8 * (i : Int) = s) : (n : Int) / 2 ^ s.toNat = ((n / 256 ^ i : Nat) : Int) := by
  rw [← hs, show (8 * (i : Int)).toNat = 8 * i from by omega, two_pow8]
  exact (Int.natCast_ediv n (256 ^ i)).symm

theorem byte_nat (q : Nat) : (q : Int) % 256 = ((UInt8.ofNat q).toNat : Int) := by
  rw [UInt8.toNat_ofNat']
  omega

set_option maxRecDepth 100000 in
theorem bitsPut_any (w : World) (v : Value) (bs : List UInt8) (p size n : Nat) (R : Nat → Prop) (hv : BytesAt w v bs R) (h1 : 1 ≤ size) (h2 : size ≤ 8) (h4 : p + size ≤ bs.length) (h5 : bs.length ≤ 140737488355328) (hn : n < 18446744073709551616) :
    Calls Try.prog 109 #[v, .int .i64 p, .int .i64 size, .bool false, .int .u64 n] w fun e w' => Frm NoB w w' ∧ ∃ v', e = .returned (.tuple #[v', .bool true]) ∧ BytesAt w' v' (putLE bs p size n) (Fresh w) := by
  have HV := Lib.hid hv
  have HN := Lib.hid hn
  obtain ⟨a, cap, rfl, hcell⟩ := hv.sliceOf
  clear hcell hv hn
  go_enter Try.func109, Try.ntmps109
  go_wp2_with fail
  refine (bitsMay_any _ _ _ _ _ _ (by omega) (by omega) (by omega) (by omega) (by omega)).mono ?_
  rintro e w2 ⟨rfl, rfl⟩
  go_wp2_with fail
  refine (Clone_any w _ bs R HV.out h5).mono ?_
  rintro e w1 ⟨hf, v1, rfl, hb1⟩
  obtain ⟨blk, off, cap1, rfl, hcap1, _, hfr⟩ := hb1.cells
  have HF := Lib.hid hf
  have HB := Lib.hid hb1
  have HFR : Hid (w.heap.size ≤ blk) := Lib.hid hfr
  clear hf hb1 hfr
  go_wp2_with fail
  go_loopw [13, 14, 23] (fun _ _ ti wr => ∃ i : Nat, i ≤ size ∧ ti = .int .i64 i ∧ Frm NoB w wr ∧ BytesAt wr (.slice (some ⟨blk, off, none⟩) bs.length cap1) (putLE bs p i n) (Fresh w)) (fun _ _ ti _ => size - (intOf ti).toNat)
  case atStart => exact ⟨0, Nat.zero_le _, rfl, HF.out, by rw [putLE_zero]; exact HB.out⟩
  case round =>
    clear HF HB
    obtain ⟨i, hi, rfl, hf, hb⟩ := hrel
    have HF := Lib.hid hf
    have HB := Lib.hid hb
    clear hf hb
    by_cases hlt : i < size
    · have hi0 : (0 : Int) ≤ (i : Int) := Int.natCast_nonneg _
      have hi1 : (i : Int) < (size : Int) := by omega
      obtain ⟨k, hk⟩ : ∃ k : Nat, p + i = k := ⟨_, rfl⟩
      have e1 : ((p : Int) + (i : Int)) = (k : Int) := by omega
      have hk1 : (k : Int) < (bs.length : Int) := by omega
      have hk2 : (k : Int) < 140737488355328 := by omega
      have hk0 : (0 : Int) ≤ (k : Int) := Int.natCast_nonneg _
      have HK := Lib.hid hk
      obtain ⟨s, hs⟩ : ∃ s : Int, 8 * (i : Int) = s := ⟨_, rfl⟩
      have hs0 : 0 ≤ s := by omega
      have hs1 : s ≤ 56 := by omega
      have hws : IntKind.i64.wrap (8 * (i : Int)) = s := by rw [hs]; exact IntWalk.i64_in (by omega) (by omega)
      have hsn : ¬ s < 0 := by omega
      have hsh := shr_nat n i s hs
      clear hs
      have hb8 := byte_nat (n / 256 ^ i)
      have HY := Lib.hid (putLE_succ bs p n i (by omega))
      generalize n / 256 ^ i = q at *
      generalize UInt8.ofNat q = y at *
      have hcell : ∃ u, wr.cell? ⟨blk, off + k, none⟩ = some u := by
        obtain ⟨a', cap', e, hcl⟩ := HB.out.sliceOf
        injection e with e1 e2 e3
        subst e1
        obtain ⟨b', o', e', _, hc⟩ := hcl (p + i) _ (List.getElem?_eq_getElem (by rw [putLE_length _ _ _ _ (by omega)]; omega))
        injection e' with e'
        injection e' with e1 e2
        subst e1 e2
        exact ⟨_, by rw [← hk]; exact hc⟩
      obtain ⟨u, hcell⟩ := hcell
      have hfree : wr.frozen? ⟨blk, off + k, none⟩ = false := by
        obtain ⟨b', o', c', cc, e, _, h3, _⟩ := HB.out
        injection e with e1 e2 e3
        injection e1 with e1
        injection e1 with e1 e2
        subst e1 e2
        exact frozen_of_block h3
      clear hk
      go_wp2
      have HB2 := HB.out.put (p + i) (by rw [putLE_length _ _ _ _ (by omega)]; omega) y
      rw [← HY.out, HK.out] at HB2
      exact ⟨⟨i + 1, hlt, by go_num, HF.out.setCell (.inr HFR.out) _, HB2⟩, by simp [intOf]; omega⟩
    · obtain rfl : i = size := by omega
      go_wp2
      go_ret2
      exact ⟨HF.out, _, rfl, HB.out⟩
end Go.Proofs.Ytkanfpmmgaipnaa
