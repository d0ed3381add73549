/-
  Numbers as bytes (package bits): what Get and Put do, the lowest byte first.; The journal's small functions: a slot, a place, a number of a block, a block that is laid.; tries: what may fail, one behind the other.; laid: a block of a text and numbers.; first: what the journal's first block says.; Format's closures.; Slices of function values, and captured variables of a loop, as objects.; Format, walked.; Format of a device that is too small; what Format leaves.; home: whether a block is one of the journal's homes.; slices.Index on ints.
-/
import Derived.Test.YtkanfpmmgaipnaaM1
import Derived.Lib.BufferWrite

/-
  Numbers as bytes (package bits): what Get and Put do, the lowest byte first.
-/
namespace Go.Proofs.Ytkanfpmmgaipnaa
set_option linter.unusedVariables false
open Go.ChangeMaps Go.MapKept Go.RowKit

theorem u64_in {x : Int} (h0 : 0 ≤ x) (h1 : x < 18446744073709551616) : IntKind.u64.wrap x = x := by
  simp [IntKind.wrap, IntKind.bits, IntKind.signed]
  omega

/-- The number that bytes are, the lowest first. -/
def leVal : List UInt8 → Nat
  | [] => 0
  | b :: r => b.toNat + 256 * leVal r

theorem leVal_lt : ∀ l : List UInt8, leVal l < 256 ^ l.length
  | [] => by simp [leVal]
  | b :: r => by
    have h1 := leVal_lt r
    have h2 := b.toNat_lt
    rw [List.length_cons, Nat.pow_succ]
    show b.toNat + 256 * leVal r < _
    omega

/-- The bytes of a number, the lowest first. -/
def leBytes : Nat → Nat → List UInt8
  | 0, _ => []
  | n + 1, v => UInt8.ofNat v :: leBytes n (v / 256)

theorem leBytes_length : ∀ n v, (leBytes n v).length = n
  | 0, _ => rfl
  | n + 1, v => by rw [leBytes, List.length_cons, leBytes_length n]

theorem leVal_leBytes : ∀ n v, v < 256 ^ n → leVal (leBytes n v) = v
  | 0, v, h => by simp at h; subst h; rfl
  | n + 1, v, h => by
    show (UInt8.ofNat v).toNat + 256 * leVal (leBytes n (v / 256)) = v
    rw [leVal_leBytes n (v / 256) (by rw [Nat.pow_succ] at h; omega), UInt8.toNat_ofNat']
    omega

theorem leBytes_get : ∀ (n v i : Nat), i < n → (leBytes n v)[i]? = some (UInt8.ofNat (v / 256 ^ i))
  | 0, _, _, h => by omega
  | n + 1, v, 0, _ => by simp [leBytes]
  | n + 1, v, i + 1, h => by
    rw [leBytes, List.getElem?_cons_succ, leBytes_get n (v / 256) i (by omega), Nat.div_div_eq_div_mul, Nat.pow_succ, Nat.mul_comm]

/-- The bytes, with a number in them. -/
def putLE (bs : List UInt8) (p n v : Nat) : List UInt8 := bs.take p ++ leBytes n v ++ bs.drop (p + n)
/-- The number that stands in the bytes. -/
def getLE (bs : List UInt8) (p n : Nat) : Nat := leVal ((bs.drop p).take n)

theorem putLE_length (bs : List UInt8) (p n v : Nat) (h : p + n ≤ bs.length) : (putLE bs p n v).length = bs.length := by
  unfold putLE
  rw [List.length_append, List.length_append, List.length_take, leBytes_length, List.length_drop]
  omega

theorem getLE_putLE_same (bs : List UInt8) (p n v : Nat) (h : p + n ≤ bs.length) (hv : v < 256 ^ n) : getLE (putLE bs p n v) p n = v := by
  unfold getLE putLE
  have h1 : (bs.take p).length = p := by rw [List.length_take]; omega
  rw [List.append_assoc, List.drop_append, h1, Nat.sub_self, List.drop_zero, List.drop_of_length_le (by omega), List.nil_append, List.take_append, leBytes_length, Nat.sub_self, List.take_zero, List.append_nil,
    List.take_of_length_le (by rw [leBytes_length]; omega)]
  exact leVal_leBytes n v hv

theorem putLE_get (bs : List UInt8) (p n v i : Nat) (h : p + n ≤ bs.length) : (putLE bs p n v)[i]? = if p ≤ i ∧ i < p + n then some (UInt8.ofNat (v / 256 ^ (i - p))) else bs[i]? := by
  unfold putLE
  have h1 : (bs.take p).length = p := by rw [List.length_take]; omega
  rw [List.append_assoc, List.getElem?_append, h1]
  split
  · rename_i hlt
    rw [if_neg (by omega), List.getElem?_take, if_pos hlt]
  · rw [List.getElem?_append, leBytes_length]
    split
    · rw [if_pos (by omega), leBytes_get _ _ _ (by omega)]
    · rw [if_neg (by omega), List.getElem?_drop]
      congr 1
      omega

theorem getLE_congr {cs bs : List UInt8} {p n : Nat} (h : ∀ i, p ≤ i → i < p + n → cs[i]? = bs[i]?) : getLE cs p n = getLE bs p n := by
  unfold getLE
  congr 1
  apply List.ext_getElem?
  intro i
  rw [List.getElem?_take, List.getElem?_take, List.getElem?_drop, List.getElem?_drop]
  split
  · exact h _ (by omega) (by omega)
  · rfl

theorem getLE_putLE_other (bs : List UInt8) (p n v q m : Nat) (h : p + n ≤ bs.length) (hd : q + m ≤ p ∨ p + n ≤ q) : getLE (putLE bs p n v) q m = getLE bs q m :=
  getLE_congr fun i h1 h2 => by rw [putLE_get _ _ _ _ _ h, if_neg (by omega)]

theorem or_byte (a b : Nat) (ha : a < 72057594037927936) (hb : b < 256) : Go.bits .or .u64 ((a : Int) * 256) (b : Int) = ((a * 256 + b : Nat) : Int) := by
  have h1 : (BitVec.ofInt IntKind.u64.bits ((a : Int) * 256)).toNat = a * 256 := by
    rw [BitVec.toNat_ofInt]
    show ((a : Int) * 256 % 18446744073709551616).toNat = a * 256
    omega
  have h2 : (BitVec.ofInt IntKind.u64.bits (b : Int)).toNat = b := by
    rw [BitVec.toNat_ofInt]
    show ((b : Int) % 18446744073709551616).toNat = b
    omega
  have h3 : (BitVec.ofInt IntKind.u64.bits ((a : Int) * 256) ||| BitVec.ofInt IntKind.u64.bits (b : Int)).toNat = a * 256 + b := by
    rw [BitVec.toNat_or, h1, h2]
    have := Nat.two_pow_add_eq_or_of_lt (i := 8) (b := b) (by omega) a
    rw [Nat.mul_comm]
    exact this.symm
  show IntKind.u64.wrap ((BitVec.ofInt IntKind.u64.bits ((a : Int) * 256) ||| BitVec.ofInt IntKind.u64.bits (b : Int)).toNat : Int) = _
  rw [h3]
  exact u64_in (by omega) (by omega)

theorem pow_le (i : Nat) (h : i ≤ 7) : 256 ^ i ≤ 72057594037927936 := by
  rcases (by omega : i = 0 ∨ i = 1 ∨ i = 2 ∨ i = 3 ∨ i = 4 ∨ i = 5 ∨ i = 6 ∨ i = 7) with rfl | rfl | rfl | rfl | rfl | rfl | rfl | rfl <;> decide

set_option maxRecDepth 100000 in
theorem bitsMay_any (w : World) (a : Option Addr) (len cap : Nat) (p size : Int) (h1 : 1 ≤ size) (h2 : size ≤ 8) (h3 : 0 ≤ p) (h4 : p + size ≤ len) (h5 : len < 4611686018427387904) :
    Calls Try.prog 116 #[.slice a len cap, .int .i64 p, .int .i64 size] w fun e w' => w = w' ∧ e = .returned (.bool true) := by
  have h6 : p ≤ (len : Int) - size := by omega
  go_enter Try.func116, Try.ntmps116
  go_wp2
  go_ret
  exact ⟨rfl, rfl⟩

/-- The number of the last i bytes of the window. -/
def tailLE (bs : List UInt8) (p n i : Nat) : Nat := getLE bs (p + (n - i)) i

theorem tailLE_succ (bs : List UInt8) (p n i : Nat) (hi : i < n) (h : p + n ≤ bs.length) (y : UInt8) (hy : bs[p + (n - 1 - i)]? = some y) : tailLE bs p n (i + 1) = tailLE bs p n i * 256 + y.toNat := by
  unfold tailLE getLE
  have e1 : p + (n - (i + 1)) = p + (n - 1 - i) := by omega
  obtain ⟨h1, h2⟩ := List.getElem?_eq_some_iff.1 hy
  rw [e1, List.drop_eq_getElem_cons h1, h2, List.take_succ_cons, show p + (n - 1 - i) + 1 = p + (n - i) from by omega]
  show y.toNat + 256 * _ = _
  omega

theorem tailLE_lt (bs : List UInt8) (p n i : Nat) (hi : i ≤ n) (h : p + n ≤ bs.length) : tailLE bs p n i < 256 ^ i := by
  unfold tailLE getLE
  have h1 := leVal_lt ((bs.drop (p + (n - i))).take i)
  have h2 : ((bs.drop (p + (n - i))).take i).length = i := by rw [List.length_take, List.length_drop]; omega
  rwa [h2] at h1

theorem getLE_lt (bs : List UInt8) (p n : Nat) (h : p + n ≤ bs.length) : getLE bs p n < 256 ^ n := by
  have := tailLE_lt bs p n n (Nat.le_refl _) h
  unfold tailLE at this
  rwa [Nat.sub_self] at this

set_option maxRecDepth 100000 in
theorem bitsGet_any (w : World) (v : Value) (bs : List UInt8) (p size : Nat) (hv : SliceOf w v bs) (h1 : 1 ≤ size) (h2 : size ≤ 8) (h4 : p + size ≤ bs.length) (h5 : bs.length < 4611686018427387904) :
    Calls Try.prog 108 #[v, .int .i64 p, .int .i64 size, .bool false] w fun e w' => w = w' ∧ e = .returned (.tuple #[.int .u64 (getLE bs p size), .bool true]) := by
  obtain ⟨a, cap, rfl, hcell⟩ := hv
  have HC := Lib.hid hcell
  clear hcell
  go_enter Try.func108, Try.ntmps108
  go_wp2_with fail
  refine (bitsMay_any _ _ _ _ _ _ (by omega) (by omega) (by omega) (by omega) (by omega)).mono ?_
  rintro e w2 ⟨rfl, rfl⟩
  go_wp2_with fail
  go_loopw [8, 10, 11, 18] (fun tv _ _ ti wr => wr = w ∧ ∃ i : Nat, i ≤ size ∧ ti = .int .i64 i ∧ tv = .int .u64 (tailLE bs p size i)) (fun _ _ _ ti _ => size - (intOf ti).toNat)
  case atStart => exact ⟨rfl, 0, Nat.zero_le _, rfl, rfl⟩
  case round =>
    obtain ⟨rfl, i, hi, rfl, rfl⟩ := hrel
    by_cases hlt : i < size
    · have hi0 : (0 : Int) ≤ (i : Int) := Int.natCast_nonneg _
      have hi1 : (i : Int) < (size : Int) := by omega
      obtain ⟨y, hy⟩ : ∃ y, bs[p + (size - 1 - i)]? = some y := ⟨_, List.getElem?_eq_getElem (by omega)⟩
      obtain ⟨blk, off, rfl, hb, hc0⟩ := HC.out (p + (size - 1 - i)) y hy
      have hc : wr.cell? ⟨blk, off + (p + (size - 1 - i)), none⟩ = some (.int .u8 y.toNat) := hc0
      have HS := Lib.hid (tailLE_succ bs p size i hlt h4 y hy)
      have hx1 := Nat.lt_of_lt_of_le (tailLE_lt bs p size i hi h4) (pow_le i (by omega))
      clear hy hc0
      generalize tailLE bs p size i = x at *
      have hyl := y.toNat_lt
      have e1 : ((p : Int) + ((size : Int) - 1 - (i : Int))) = ((p + (size - 1 - i) : Nat) : Int) := by omega
      have hw : IntKind.u64.wrap ((x : Int) * 256) = (x : Int) * 256 := u64_in (by omega) (by omega)
      have hwy : IntKind.u64.wrap (y.toNat : Int) = (y.toNat : Int) := u64_in (by omega) (by omega)
      have hor : Go.bits .or .u64 ((x : Int) * 256) (y.toNat : Int) = ((tailLE bs p size (i + 1) : Nat) : Int) := by rw [HS.out]; exact or_byte x y.toNat hx1 (by omega)
      go_wp2
      exact ⟨⟨trivial, i + 1, hlt, by go_num, rfl⟩, by simp [intOf]; omega⟩
    · obtain rfl : i = size := by omega
      have hT : tailLE bs p i i = getLE bs p i := by unfold tailLE; rw [Nat.sub_self]; rfl
      rw [hT]
      go_wp2
      go_ret2
      exact ⟨rfl, rfl⟩

/-- One byte of bytes is written. -/
theorem BytesAt.put {w : World} {blk off cap : Nat} {bs : List UInt8} {n : Nat} {R : Nat → Prop} (h : BytesAt w (.slice (some ⟨blk, off, none⟩) n cap) bs R) (j : Nat) (hj : j < bs.length) (y : UInt8) :
    BytesAt (w.setCell ⟨blk, off + j, none⟩ (B8 y)) (.slice (some ⟨blk, off, none⟩) n cap) (bs.set j y) R := by
  obtain ⟨blk', off', cap', c, e, h2, h3, h4, h5⟩ := h
  injection e with e1 e2 e3
  injection e1 with e1
  injection e1 with e1 e4
  subst e1 e2 e3 e4
  have hc : off + j < c.size := by
    rcases Nat.lt_or_ge (off + j) c.size with h | h
    · exact h
    · have := h4 j hj
      rw [Array.getElem?_eq_none h] at this
      cases this
  refine ⟨blk, off, cap, c.setIfInBounds (off + j) (B8 y), by rw [List.length_set], by rw [List.length_set]; exact h2, h3.set _, fun i hi => ?_, h5⟩
  rw [List.length_set] at hi
  rw [List.getD_eq_getElem?_getD]
  by_cases e : i = j
  · subst e
    rw [Array.getElem?_setIfInBounds_self_of_lt hc, List.getElem?_set_self hi]
    rfl
  · rw [Array.getElem?_setIfInBounds_ne (by omega), List.getElem?_set_ne (Ne.symm e), ← List.getD_eq_getElem?_getD]
    exact h4 i hi

/-- Behind i rounds of Put. -/
def putPart (bs : List UInt8) (p n v i : Nat) : List UInt8 := putLE bs p i v

theorem putLE_succ (bs : List UInt8) (p v i : Nat) (h : p + i < bs.length) : putLE bs p (i + 1) v = (putLE bs p i v).set (p + i) (UInt8.ofNat (v / 256 ^ i)) := by
  apply List.ext_getElem?
  intro k
  rw [putLE_get _ _ _ _ _ (by omega), List.getElem?_set, putLE_length _ _ _ _ (by omega), putLE_get _ _ _ _ _ (by omega)]
  by_cases e : p + i = k
  · subst e
    rw [if_pos (by omega), if_pos rfl, if_pos h, show p + i - p = i from by omega]
  · rw [if_neg e]
    by_cases hk : p ≤ k ∧ k < p + i
    · rw [if_pos hk, if_pos (by omega)]
    · rw [if_neg hk, if_neg (by omega)]

theorem putLE_zero (bs : List UInt8) (p v : Nat) : putLE bs p 0 v = bs := by
  unfold putLE
  rw [leBytes, List.append_nil, Nat.add_zero, List.take_append_drop]

theorem two_pow8 (i : Nat) : (2 : Int) ^ (8 * i) = ((256 ^ i : Nat) : Int) := by
  rw [show (256 : Nat) = 2 ^ 8 from rfl, ← Nat.pow_mul]
  norm_cast

theorem shr_nat (n i : Nat) (s : Int) (hs : 8 * (i : Int) = s) : (n : Int) / 2 ^ s.toNat = ((n / 256 ^ i : Nat) : Int) := by
  rw [← hs, show (8 * (i : Int)).toNat = 8 * i from by omega, two_pow8]
  exact (Int.natCast_ediv n (256 ^ i)).symm

theorem byte_nat (q : Nat) : (q : Int) % 256 = ((UInt8.ofNat q).toNat : Int) := by
  rw [UInt8.toNat_ofNat']
  omega

set_option maxRecDepth 100000 in
theorem bitsPut_any (w : World) (v : Value) (bs : List UInt8) (p size n : Nat) (R : Nat → Prop) (hv : BytesAt w v bs R) (h1 : 1 ≤ size) (h2 : size ≤ 8) (h4 : p + size ≤ bs.length) (h5 : bs.length ≤ 140737488355328) (hn : n < 18446744073709551616) :
    Calls Try.prog 109 #[v, .int .i64 p, .int .i64 size, .bool false, .int .u64 n] w fun e w' => Frm NoB w w' ∧ ∃ v', e = .returned (.tuple #[v', .bool true]) ∧ BytesAt w' v' (putLE bs p size n) (Fresh w) := by
  have HV := Lib.hid hv
  have HN := Lib.hid hn
  obtain ⟨a, cap, rfl, hcell⟩ := hv.sliceOf
  clear hcell hv hn
  go_enter Try.func109, Try.ntmps109
  go_wp2_with fail
  refine (bitsMay_any _ _ _ _ _ _ (by omega) (by omega) (by omega) (by omega) (by omega)).mono ?_
  rintro e w2 ⟨rfl, rfl⟩
  go_wp2_with fail
  refine (Clone_any w _ bs R HV.out h5).mono ?_
  rintro e w1 ⟨hf, v1, rfl, hb1⟩
  obtain ⟨blk, off, cap1, rfl, hcap1, _, hfr⟩ := hb1.cells
  have HF := Lib.hid hf
  have HB := Lib.hid hb1
  have HFR : Hid (w.heap.size ≤ blk) := Lib.hid hfr
  clear hf hb1 hfr
  go_wp2_with fail
  go_loopw [13, 14, 23] (fun _ _ ti wr => ∃ i : Nat, i ≤ size ∧ ti = .int .i64 i ∧ Frm NoB w wr ∧ BytesAt wr (.slice (some ⟨blk, off, none⟩) bs.length cap1) (putLE bs p i n) (Fresh w)) (fun _ _ ti _ => size - (intOf ti).toNat)
  case atStart => exact ⟨0, Nat.zero_le _, rfl, HF.out, by rw [putLE_zero]; exact HB.out⟩
  case round =>
    clear HF HB
    obtain ⟨i, hi, rfl, hf, hb⟩ := hrel
    have HF := Lib.hid hf
    have HB := Lib.hid hb
    clear hf hb
    by_cases hlt : i < size
    · have hi0 : (0 : Int) ≤ (i : Int) := Int.natCast_nonneg _
      have hi1 : (i : Int) < (size : Int) := by omega
      obtain ⟨k, hk⟩ : ∃ k : Nat, p + i = k := ⟨_, rfl⟩
      have e1 : ((p : Int) + (i : Int)) = (k : Int) := by omega
      have hk1 : (k : Int) < (bs.length : Int) := by omega
      have hk2 : (k : Int) < 140737488355328 := by omega
      have hk0 : (0 : Int) ≤ (k : Int) := Int.natCast_nonneg _
      have HK := Lib.hid hk
      obtain ⟨s, hs⟩ : ∃ s : Int, 8 * (i : Int) = s := ⟨_, rfl⟩
      have hs0 : 0 ≤ s := by omega
      have hs1 : s ≤ 56 := by omega
      have hws : IntKind.i64.wrap (8 * (i : Int)) = s := by rw [hs]; exact IntWalk.i64_in (by omega) (by omega)
      have hsn : ¬ s < 0 := by omega
      have hsh := shr_nat n i s hs
      clear hs
      have hb8 := byte_nat (n / 256 ^ i)
      have HY := Lib.hid (putLE_succ bs p n i (by omega))
      generalize n / 256 ^ i = q at *
      generalize UInt8.ofNat q = y at *
      have hcell : ∃ u, wr.cell? ⟨blk, off + k, none⟩ = some u := by
        obtain ⟨a', cap', e, hcl⟩ := HB.out.sliceOf
        injection e with e1 e2 e3
        subst e1
        obtain ⟨b', o', e', _, hc⟩ := hcl (p + i) _ (List.getElem?_eq_getElem (by rw [putLE_length _ _ _ _ (by omega)]; omega))
        injection e' with e'
        injection e' with e1 e2
        subst e1 e2
        exact ⟨_, by rw [← hk]; exact hc⟩
      obtain ⟨u, hcell⟩ := hcell
      have hfree : wr.frozen? ⟨blk, off + k, none⟩ = false := by
        obtain ⟨b', o', c', cc, e, _, h3, _⟩ := HB.out
        injection e with e1 e2 e3
        injection e1 with e1
        injection e1 with e1 e2
        subst e1 e2
        exact h3.frozen
      clear hk
      go_wp2
      have HB2 := HB.out.put (p + i) (by rw [putLE_length _ _ _ _ (by omega)]; omega) y
      rw [← HY.out, HK.out] at HB2
      exact ⟨⟨i + 1, hlt, by go_num, HF.out.setCell (.inr HFR.out) _, HB2⟩, by simp [intOf]; omega⟩
    · obtain rfl : i = size := by omega
      go_wp2
      go_ret2
      exact ⟨HF.out, _, rfl, HB.out⟩
end Go.Proofs.Ytkanfpmmgaipnaa

/-
  The journal's small functions: a slot, a place, a number of a block, a block that is laid.
-/
namespace Go.Proofs.Ytkanfpmmgaipnaa
set_option linter.unusedVariables false
open Go.ChangeMaps Go.MapKept Go.RowKit

set_option maxRecDepth 100000 in
theorem slot_any (w : World) (n : Nat) (hn : n < 18446744073709551616) :
    Calls Try.prog 89 #[.int .u64 n] w fun e w' => w = w' ∧ e = .returned (.int .i64 ((n % 4 : Nat) : Int)) := by
  have hn0 : (0 : Int) ≤ (n : Int) := Int.natCast_nonneg _
  obtain ⟨r, hr⟩ : ∃ r : Int, (n : Int) % 4 = r := ⟨_, rfl⟩
  have hr0 : 0 ≤ r := by omega
  have hr1 : r < 4 := by omega
  have hrn : ((n % 4 : Nat) : Int) = r := by omega
  have HR := Lib.hid hrn
  clear hrn hn
  go_enter Try.func89, Try.ntmps89
  go_wp2
  go_ret
  exact ⟨rfl, by rw [HR.out]; rfl⟩

set_option maxRecDepth 100000 in
theorem at_any (w : World) (s b : Int) (h0 : 0 ≤ s) (h1 : s ≤ 1000) (h2 : 0 ≤ b) (h3 : b ≤ 1000) :
    Calls Try.prog 90 #[.agg #[.int .i64 s, .int .i64 b]] w fun e w' => Frm NoB w w' ∧ e = .returned (.int .i64 (1 + s * 61 + b)) := by
  go_enter Try.func90, Try.ntmps90
  go_wp2
  go_ret
  exact ⟨(Frm.refl _ _).alloc _, rfl⟩

set_option maxRecDepth 100000 in
theorem getN_any (w : World) (v : Value) (bs : List UInt8) (k : Nat) (hv : SliceOf w v bs) (hk : k ≤ 63) (hl : bs.length = 512) :
    Calls Try.prog 107 #[v, .int .i64 k] w fun e w' => w = w' ∧ e = .returned (.int .u64 (getLE bs (8 * k) 8)) := by
  have hk0 : (0 : Int) ≤ (k : Int) := Int.natCast_nonneg _
  have hk1 : (k : Int) ≤ 63 := by omega
  have HC := Lib.hid (bitsGet_any w v bs (8 * k) 8 hv (by omega) (by omega) (by omega) (by omega))
  obtain ⟨k8, hk8⟩ : ∃ k8 : Nat, 8 * k = k8 := ⟨_, rfl⟩
  rw [hk8] at HC ⊢
  have e1 : 8 * (k : Int) = (k8 : Int) := by omega
  clear hl hk8
  go_enter Try.func107, Try.ntmps107
  go_wp2_with fail
  refine HC.out.mono ?_
  rintro e w2 ⟨rfl, rfl⟩
  go_wp2
  go_ret
  exact ⟨rfl, rfl⟩
end Go.Proofs.Ytkanfpmmgaipnaa

/-
  tries: what may fail, one behind the other.
-/
namespace Go.Proofs.Ytkanfpmmgaipnaa
set_option linter.unusedVariables false
open Go.ChangeMaps Go.MapKept Go.RowKit

/-- A call of function f enters it. -/
def EntersF (P : Program) (f : FuncId) : Prop := ∀ (args : Array Value) (w : World), (callFunc f args).run P w = .ok (.enter f args) w

theorem entersF_of {P : Program} {f : FuncId} {fn : Func} {c : Code} (hf : P.funcs[f]? = some fn) (hname : (fn.name == "runtime.NumGoroutine") = false) (hb : fn.body = some c) : EntersF P f := by
  intro args w
  have h1 : fn.name ≠ "runtime.NumGoroutine" := by simpa using hname
  simp [callFunc, hf, h1, hb, mark]

theorem upon_callF {P : Program} {o : Oper} {a : Act} {next : Act → World → Prop} {Q : Exit → Act → World → Prop} {w : World} {f : FuncId} {args : Array Value} {R : Ending → World → Prop} (hE : EntersF P f) (h : Calls P f args w R)
    (hR : ∀ e w', R e w' → ∃ v, e = .returned v ∧ next (a.put o.dst v) w') : o.upon P a next Q ((callFunc f args).run P w) := by
  rw [hE args w, Oper.upon_enter]
  refine h.mono ?_
  intro e w' hr
  obtain ⟨v, rfl, hn⟩ := hR e w' hr
  exact hn

set_option maxRecDepth 100000 in
/-- The i-th function is called where T i holds: it answers nought, and leaves T (i + 1); or else it answers x, and leaves Stop x. -/
theorem tries_any (w : World) (blk off len cap : Nat) (T : Nat → World → Prop) (Stop : Int → World → Prop) (g : Nat → FuncId) (fst cp : Nat → Array Value)
    (hT : T 0 w) (hc : ∀ i W, i < len → T i W → W.cell? ⟨blk, off + i, none⟩ = some (.func (.func (g i)) (fst i) (cp i))) (he : ∀ i, i < len → EntersF Try.prog (g i)) (hlen : len ≤ 1000000)
    (hs : ∀ i W, i < len → T i W → Calls Try.prog (g i) (fst i ++ cp i) W fun e w' => ∃ x : Int, e = .returned (.int .i64 x) ∧ (x = 0 → T (i + 1) w') ∧ (x ≠ 0 → Stop x w')) :
    Calls Try.prog 91 #[.slice (some ⟨blk, off, none⟩) len cap] w fun e w' => (e = .returned (.int .i64 0) ∧ T len w') ∨ ∃ x : Int, x ≠ 0 ∧ e = .returned (.int .i64 x) ∧ Stop x w' := by
  have HC := Lib.hid hc
  have HS := Lib.hid hs
  have HT := Lib.hid hT
  have HE := Lib.hid he
  clear hc hs hT he
  go_enter Try.func91, Try.ntmps91
  go_wp2_with fail
  go_loopw [4, 5, 8] (fun _ _ t wr => ∃ i : Nat, i ≤ len ∧ t = .int .i64 i ∧ T i wr) (fun _ _ t _ => len - (intOf t).toNat)
  case atStart => exact ⟨0, Nat.zero_le _, rfl, HT.out⟩
  case round =>
    clear HT
    obtain ⟨i, hi, rfl, hst⟩ := hrel
    have HST := Lib.hid hst
    clear hst
    by_cases hlt : i < len
    · have hi0 : (0 : Int) ≤ (i : Int) := Int.natCast_nonneg _
      have hi1 : (i : Int) < (len : Int) := by omega
      have hcell := HC.out i wr hlt HST.out
      have HCL := Lib.hid (HS.out i wr hlt HST.out)
      have HEN := Lib.hid (HE.out i hlt)
      generalize g i = gi at *
      generalize fst i = fi at *
      generalize cp i = ci at *
      go_wp2_with fail
      refine upon_callF HEN.out HCL.out ?_
      rintro e w2 ⟨x, rfl, h0, h1⟩
      refine ⟨_, rfl, ?_⟩
      by_cases hx : x = 0
      · subst hx
        have H2 := Lib.hid (h0 rfl)
        clear h0 h1
        go_wp2
        exact ⟨⟨i + 1, hlt, by go_num, H2.out⟩, by simp [intOf]; omega⟩
      · have H2 := Lib.hid (h1 hx)
        clear h0 h1
        go_wp2
        go_ret
        exact .inr ⟨x, hx, rfl, H2.out⟩
    · obtain rfl : i = len := by omega
      go_wp2
      go_ret
      exact .inl ⟨rfl, HST.out⟩
end Go.Proofs.Ytkanfpmmgaipnaa

/-
  laid: a block of a text and numbers.
-/
namespace Go.Proofs.Ytkanfpmmgaipnaa
set_option linter.unusedVariables false
open Go.ChangeMaps Go.MapKept Go.RowKit

def U64 (n : Nat) : Value := .int .u64 (n : Int)

/-- A text, and noughts. -/
def textBlk (s : List UInt8) : Blk := s ++ List.replicate (512 - s.length) 0

theorem textBlk_length (s : List UInt8) (h : s.length ≤ 512) : (textBlk s).length = 512 := by
  unfold textBlk
  rw [List.length_append, List.length_replicate]
  omega

/-- Numbers laid behind one another, from the i-th place on. -/
def laidFrom : Blk → Nat → List Nat → Blk
  | b, _, [] => b
  | b, i, n :: r => laidFrom (putLE b (8 * (i + 1)) 8 n) (i + 1) r

theorem laidFrom_snoc : ∀ (l : List Nat) (b : Blk) (i n : Nat), laidFrom b i (l ++ [n]) = putLE (laidFrom b i l) (8 * (i + l.length + 1)) 8 n
  | [], b, i, n => rfl
  | m :: r, b, i, n => by
    have := laidFrom_snoc r (putLE b (8 * (i + 1)) 8 m) (i + 1) n
    rw [show i + (m :: r).length = i + 1 + r.length from by simp; omega]
    exact this

theorem laidFrom_length : ∀ (l : List Nat) (b : Blk) (i : Nat), b.length = 512 → i + l.length ≤ 62 → (laidFrom b i l).length = 512
  | [], b, i, h, _ => h
  | m :: r, b, i, h, hl => by
    simp at hl
    exact laidFrom_length r _ _ ((putLE_length _ _ _ _ (by omega)).trans h) (by omega)

def laidB (s : List UInt8) (ns : List Nat) : Blk := laidFrom (textBlk s) 0 ns

theorem laidB_take (s : List UInt8) (ns : List Nat) (i n : Nat) (h : ns[i]? = some n) : laidB s (ns.take (i + 1)) = putLE (laidB s (ns.take i)) (8 * (i + 1)) 8 n := by
  obtain ⟨h1, h2⟩ := List.getElem?_eq_some_iff.1 h
  unfold laidB
  rw [List.take_succ_eq_append_getElem h1, h2, laidFrom_snoc, List.length_take, Nat.min_eq_left (by omega), Nat.zero_add]

theorem text_cells (s : ByteArray) (hs : s.size ≤ 512) : (zc.toList.take 0 ++ Lib.byteCells s.data.toList ++ zc.toList.drop (0 + s.size)).toArray = ((textBlk s.data.toList).map B8).toArray := by
  have hl : s.data.toList.length = s.size := by rw [Array.length_toList]; rfl
  unfold textBlk
  rw [zc_toList, List.take_zero, List.nil_append, Nat.zero_add, List.drop_replicate, List.map_append, List.map_replicate, hl]
  rfl

set_option maxRecDepth 100000 in
theorem laid_any (w : World) (s : ByteArray) (v : Value) (ns : List Nat) (hv : Elems w v (ns.map U64)) (hs : s.size ≤ 8) (hn : ns.length ≤ 62) (hu : ∀ n ∈ ns, n < 18446744073709551616) :
    Calls Try.prog 97 #[.string s, v] w fun e w' => Frm NoB w w' ∧ ∃ v', e = .returned v' ∧ BytesAt w' v' (laidB s.data.toList ns) (Fresh w) := by
  obtain ⟨a, cap, rfl, ha⟩ := hv
  have HA := Lib.hid ha
  have HU := Lib.hid hu
  rw [List.length_map]
  clear ha hu
  have hmk := run_make512
  have hcp := Lib.run_copy_row_string (P := Try.prog) (w.alloc (.cells zc 5 (0, 0))) 31 9 3 5 w.heap.size 0 512 512 s zc 5 Try.underlying31 (by kernel_rfl) (block_alloc_new _ _) (by omega) (by rw [zc_size]; omega)
  rw [text_cells s (by omega), setRow_alloc] at hcp
  have hsl : s.data.toList.length ≤ 8 := by
    have hl : s.data.toList.length = s.size := by rw [Array.length_toList]; rfl
    omega
  have HSL := Lib.hid hsl
  have HTL := Lib.hid (textBlk_length s.data.toList (by omega))
  go_enter Try.func97, Try.ntmps97
  go_wp2_with fail
  clear hmk hcp
  have HB0 : Hid (BytesAt (w.alloc (.cells ((textBlk s.data.toList).map B8).toArray 5 (0, 0))) (.slice (some ⟨w.heap.size, 0, none⟩) 512 512) (textBlk s.data.toList) (Fresh w)) := Lib.hid (block_at w (textBlk s.data.toList) HTL.out)
  go_loopw [5, 6, 7, 14] (fun tb _ _ ti wr => ∃ i : Nat, i ≤ ns.length ∧ ti = .int .i64 i ∧ Frm NoB w wr ∧ BytesAt wr tb (laidB s.data.toList (ns.take i)) (Fresh w)) (fun _ _ _ ti _ => ns.length - (intOf ti).toNat)
  case atStart => exact ⟨0, Nat.zero_le _, rfl, (Frm.refl _ _).alloc _, HB0.out⟩
  case round =>
    clear HB0
    obtain ⟨i, hi, rfl, hf, hb⟩ := hrel
    have HF := Lib.hid hf
    have HB := Lib.hid hb
    clear hf hb
    by_cases hlt : i < ns.length
    · obtain ⟨x, hx⟩ : ∃ x, ns[i]? = some x := ⟨_, List.getElem?_eq_getElem hlt⟩
      obtain ⟨blk, off, rfl, hb, hcell⟩ := HA.out i (U64 x) (by rw [List.getElem?_map, hx]; rfl)
      have hcell' : wr.cell? ⟨blk, off + i, none⟩ = some (.int .u64 x) := by
        rw [← show U64 x = .int .u64 x from rfl, ← hcell]; exact HF.out.cell hb (fun e => e)
      have hlen : (laidB s.data.toList (ns.take i)).length = 512 := laidFrom_length _ _ _ HTL.out (by rw [List.length_take]; omega)
      have hT := laidB_take s.data.toList ns i x hx
      have HT := Lib.hid hT
      have HP := Lib.hid (bitsPut_any wr _ _ (8 * (i + 1)) 8 x (Fresh w) HB.out (by omega) (by omega) (by omega) (by omega) (HU.out x (List.mem_of_getElem? hx)))
      obtain ⟨k, hk⟩ : ∃ k : Nat, 8 * (i + 1) = k := ⟨_, rfl⟩
      have hi0 : (0 : Int) ≤ (i : Int) := Int.natCast_nonneg _
      have hi1 : (i : Int) < (ns.length : Int) := by omega
      have hi2 : (ns.length : Int) ≤ 62 := by omega
      have e1 : 8 * ((i : Int) + 1) = (k : Int) := by omega
      rw [hk] at HP HT
      clear hx hcell hlen hT hk hb
      go_wp2_with fail
      refine HP.out.mono ?_
      rintro e w2 ⟨hf2, v2, rfl, hb2⟩
      have HF2 := Lib.hid (HF.out.trans hf2 (fun _ _ e => e))
      have HB2 := Lib.hid (hb2.mono (R' := (Fresh w)) (fun x hx hr => Nat.le_trans HF.out.size hr))
      rw [← HT.out] at HB2
      clear hf2 hb2
      go_wp2
      first | exact ⟨⟨i + 1, hlt, by go_num, HF2.out, HB2.out⟩, by simp [intOf]; omega⟩ | (go_roundw; case rel => first | exact ⟨i + 1, hlt, by go_num, HF2.out, HB2.out⟩ | ((repeat apply Exists.intro); exact ⟨⟨i + 1, hlt, by go_num, HF2.out, HB2.out⟩, rfl⟩); case measure => simp [intOf]; omega)
    · obtain rfl : i = ns.length := by omega
      have HB3 := HB.out
      rw [List.take_length] at HB3
      have HB4 := Lib.hid HB3
      clear HB3
      go_wp2
      go_ret
      exact ⟨HF.out, _, rfl, HB4.out⟩
end Go.Proofs.Ytkanfpmmgaipnaa

/-
  first: what the journal's first block says.
-/
namespace Go.Proofs.Ytkanfpmmgaipnaa
set_option linter.unusedVariables false
open Go.ChangeMaps Go.MapKept Go.RowKit

def magicL : List UInt8 := [66, 79, 76, 76, 65, 82, 68, 74]
def isMagic (b : Blk) : Bool := b.take 8 == magicL

set_option maxRecDepth 100000 in
/-- The first eight bytes of a slice of bytes, as a string. -/
theorem head_string {w : World} {blk off cap n : Nat} {bs : Blk} {R : Nat → Prop} (h : BytesAt w (.slice (some ⟨blk, off, none⟩) n cap) bs R) (hl : 8 ≤ bs.length) (c2 : Nat) :
    (convert 31 9 (.slice (some ⟨blk, off, none⟩) 8 c2)).run Try.prog w = .ok (.string ⟨(bs.take 8).toArray⟩) w := by
  have hlen : (bs.take 8).length = 8 := by rw [List.length_take]; omega
  obtain ⟨blk', off', cap', e, _, hc, _⟩ := h.cells
  injection e with e1 e2 e3
  injection e1 with e1
  injection e1 with e1 e4
  subst e1 e4
  have := run_convert_bytes_back (P := Try.prog) w 31 9 5 ⟨blk, off, none⟩ c2 (bs.take 8) Try.underlying31 (by kernel_rfl) (by kernel_rfl) (fun j hj => by
    refine hc j _ ?_
    rw [List.getElem?_map, List.getElem_take, List.getElem?_eq_getElem (by omega)]
    rfl)
  rw [hlen] at this
  exact this

set_option maxRecDepth 100000 in
theorem S_first {w0 : Gnd} {w : World} {rs : List Res} (h : St w0 w rs) (i : Nat) {H : Hdl} {D : DSt} (hr : rs[i]? = some (dev H D)) (hn : 1 ≤ D.n) (ho : D.ops < 4611686018427387904) :
    Calls Try.prog 87 #[.pointer (some ⟨H.b, 0, none⟩)] w fun e w' => e = .returned (.tuple #[.int .u64 (getLE (D.last 0) 8 8), .bool (isMagic (D.last 0))]) ∧ St w0 w' rs := by
  have HL := Lib.hid (DSt.last_length (h.get hr).wf 0)
  have H0 := Lib.hid (S_Read h i hr 0 (by omega) (by omega) ho)
  clear h hr ho
  go_enter Try.func87, Try.ntmps87
  go_wp2_with fail
  refine H0.out.mono ?_
  clear hn
  rintro e w1 ⟨v, rfl, h⟩
  have H1 := Lib.hid (show St w0 w1 (byt v (D.last 0) :: rs) from h)
  clear h H0
  obtain ⟨blk, off, cap, rfl, hcap, _, _⟩ := (H1.out.get (i := 0) rfl).cells
  have hcap8 : 8 ≤ cap := by have := HL.out; omega
  have HG : Hid (∀ k, Calls Try.prog 107 #[.slice (some ⟨blk, off, none⟩) (D.last 0).length cap, .int .i64 1] (w1.drewN k) fun e w' => e = .returned (.int .u64 (getLE (D.last 0) 8 8)) ∧ w' = w1.drewN k) := Lib.hid fun k =>
    (getN_any (w1.drewN k) _ _ 1 (BytesAt.frm0 (H1.out.get (i := 0) rfl) ((Frm.refl NoB w1).drewN k)).sliceOf (by omega) HL.out).mono fun _ _ ⟨a, b⟩ => ⟨b, a.symm⟩
  have hst : ∀ k c2, (convert 31 9 (.slice (some ⟨blk, off, none⟩) 8 c2)).run Try.prog (w1.drewN k) = .ok (.string ⟨((D.last 0).take 8).toArray⟩) (w1.drewN k) := fun k c2 =>
    head_string (BytesAt.frm0 (H1.out.get (i := 0) rfl) ((Frm.refl NoB w1).drewN k)) (by rw [HL.out]; omega) c2
  have hl8 : 8 ≤ (D.last 0).length := by rw [HL.out]; omega
  generalize (D.last 0).length = n512 at *
  go_wp2_with fail
  go_quiet ((go_at_call 107; exact Calls.quiet_of_same (HG.out _)))
  go_wp2
  go_ret2
  exact ⟨rfl, (H1.out.frm0 ((Frm.refl NoB w1).drewN _)).drop 1⟩
end Go.Proofs.Ytkanfpmmgaipnaa

/-
  Format's closures.
-/
namespace Go.Proofs.Ytkanfpmmgaipnaa
set_option linter.unusedVariables false
open Go.ChangeMaps Go.MapKept Go.RowKit

theorem neDp : ¬ U8T (24 : TypeId) := by decide

theorem S_Zero {w0 : Gnd} {w : World} {rs : List Res} (h : St w0 w rs) : St w0 (w.alloc (.cells zc 5 (0, 0))) (byt (.slice (some ⟨w.heap.size, 0, none⟩) 512 512) zeros :: rs) := by
  have h1 := h.mkByt ((Frm.refl NoB w).alloc (bytesObj zeros)) (block_at w zeros zeros_length)
  rw [show bytesObj zeros = .cells zc 5 (0, 0) from by unfold bytesObj; rw [zc_eq]] at h1
  exact h1

set_option maxRecDepth 100000 in
theorem S_fmt1 {w0 : Gnd} {w : World} {rs : List Res} (h : St w0 w rs) (a i j : Nat) {H : Hdl} {D : DSt} {bd bi k : Nat} {ht : ¬ U8T (24 : TypeId)} {ht' : ¬ U8T (3 : TypeId)} (hr : rs[a]? = some (dev H D)) (hd : rs[i]? = some (arr bd #[.pointer (some ⟨H.b, 0, none⟩)] 24 ht))
    (hi : rs[j]? = some (arr bi #[.int .i64 k] 3 ht')) (hk : k ≤ 3) (hn : 246 ≤ D.n) (ho : D.ops < 4611686018427387904) (hoff : D.off = false) (hia : i ≠ a) (hja : j ≠ a) :
    Calls Try.prog 95 #[.pointer (some ⟨bd, 0, none⟩), .pointer (some ⟨bi, 0, none⟩)] w fun e w' => e = .returned (.int .i64 0) ∧ St w0 w' (rs.set a (dev H (D.op.put (1 + 61 * k) zeros))) := by
  have H0 := Lib.hid h
  have c1 : w.cell? ⟨bd, 0, none⟩ = some (.pointer (some ⟨H.b, 0, none⟩)) := (h.arrCell hd 0).trans rfl
  have c2 : w.cell? ⟨bi, 0, none⟩ = some (.int .i64 k) := (h.arrCell hi 0).trans rfl
  have KA : Hid (∀ y, Frm NoB w y → y.cell? ⟨bd, 0, none⟩ = some (.pointer (some ⟨H.b, 0, none⟩)) ∧ y.cell? ⟨bi, 0, none⟩ = some (.int .i64 k)) := Lib.hid fun y hy =>
    ⟨((h.frm0 hy).arrCell hd 0).trans rfl, ((h.frm0 hy).arrCell hi 0).trans rfl⟩
  have KB : Hid (∀ y v X, St w0 y ((v :: rs).set (a + 1) X) → y.cell? ⟨bd, 0, none⟩ = some (.pointer (some ⟨H.b, 0, none⟩)) ∧ y.cell? ⟨bi, 0, none⟩ = some (.int .i64 k)) := Lib.hid fun y v X hy =>
    ⟨(hy.arrCell (i := i + 1) (by rw [List.getElem?_set_ne (by omega), List.getElem?_cons_succ]; exact hd) 0).trans rfl, (hy.arrCell (i := j + 1) (by rw [List.getElem?_set_ne (by omega), List.getElem?_cons_succ]; exact hi) 0).trans rfl⟩
  have hk0 : (0 : Int) ≤ (k : Int) := Int.natCast_nonneg _
  have hk1 : (k : Int) ≤ 3 := by omega
  have hmk := run_make512
  clear h
  go_enter Try.func95, Try.ntmps95
  go_wp2_with fail
  clear c1 c2
  go_region_held3 (fun y => y.cell? ⟨bd, 0, none⟩ = some (.pointer (some ⟨H.b, 0, none⟩)) ∧ y.cell? ⟨bi, 0, none⟩ = some (.int .i64 k))
    (first | exact hS5 | (refine KA.out _ ?_; first | assumption | exact (Frm.refl NoB w).drew | exact ((Frm.refl NoB w).alloc _).drew | exact (Frm.refl NoB w).alloc _ | exact Frm.alloc (by assumption) _ | exact ⟨rfl, rfl, rfl, Nat.le_refl _, fun _ _ _ => rfl⟩))
    (first
      | (go_at_call 90; refine (at_any w.drew (k : Int) 0 hk0 (by omega) (by omega) (by omega)).mono ?_; rintro e w3 ⟨hf3, rfl⟩; have hf3' : Frm NoB w w3 := ((Frm.refl NoB w).drew).trans hf3 (fun _ _ e => e))
      | (go_at_call 90; refine (at_any (w.alloc (.cells zc 5 (0, 0))).drew (k : Int) 0 hk0 (by omega) (by omega) (by omega)).mono ?_; rintro e w3 ⟨hf3, rfl⟩; have hf3' : Frm NoB w w3 := (((Frm.refl NoB w).alloc _).drew).trans hf3 (fun _ _ e => e); have hB := (S_Zero H0.out).frm0 (((Frm.refl NoB _).drew).trans hf3 (fun _ _ e => e)))
      | (go_at_call 31; refine (S_Write hB (a + 1) 0 hr rfl (1 + (k : Int) * 61) ho hoff (by omega) (by omega) zeros_length).mono ?_; rintro e w5 ⟨rfl, h5⟩; have hS5 := KB.out _ _ _ h5)
      | (go_at_call 31; refine (S_Write (S_Zero (H0.out.frm0 hf3')) (a + 1) 0 hr rfl (1 + (k : Int) * 61) ho hoff (by omega) (by omega) zeros_length).mono ?_; rintro e w5 ⟨rfl, h5⟩; have hS5 := KB.out _ _ _ h5))
  all_goals
   have e : ((1 + (k : Int) * 61)).toNat = 1 + 61 * k := by omega
   rw [e] at h5
   have H5 := Lib.hid (h5.drop 1)
   clear h5 hS5
   go_wp2
   go_ret
   exact ⟨rfl, H5.out⟩

theorem neU64 : ¬ U8T (133 : TypeId) := by decide

theorem elems_oneU (w : World) (n : Nat) : Elems (w.alloc (.cells #[.int .u64 (n : Int)] 133 (0, 0))) (.slice (some ⟨w.heap.size, 0, none⟩) 1 1) ([n].map U64) :=
  ⟨_, _, rfl, fun i x hx => by
    obtain ⟨h1, h2⟩ := List.getElem?_eq_some_iff.1 hx
    obtain rfl : i = 0 := by simpa using h1
    exact ⟨_, _, rfl, lt_of_block (block_alloc_new _ _), by rw [cell_of_block (block_alloc_new _ _), ← h2]; rfl⟩⟩

theorem S_laid1 {w0 : Gnd} {w : World} {rs : List Res} (h : St w0 w rs) (n : Nat) (hn : n < 18446744073709551616) :
    Calls Try.prog 97 #[.string { data := #[66, 79, 76, 76, 65, 82, 68, 74] }, .slice (some ⟨w.heap.size, 0, none⟩) 1 1] (w.alloc (.cells #[.int .u64 (n : Int)] 133 (0, 0))) fun e w' => ∃ v, e = .returned v ∧ St w0 w' (byt v (laidB magicL [n]) :: rs) :=
  (laid_any _ { data := #[66, 79, 76, 76, 65, 82, 68, 74] } _ [n] (elems_oneU w n) (by decide) (by simp) (fun x hx => by simp at hx; omega)).mono fun _ _ ⟨hf, v, e, hb⟩ =>
    ⟨v, e, h.mkByt (((Frm.refl NoB w).alloc _).trans hf (fun _ _ e => e)) (hb.fresh ((Frm.refl NoB w).alloc _).size)⟩

set_option maxRecDepth 100000 in
theorem S_fmt2 {w0 : Gnd} {w : World} {rs : List Res} (h : St w0 w rs) (a i j : Nat) {H : Hdl} {D : DSt} {bd bg g : Nat} {ht : ¬ U8T (24 : TypeId)} {ht' : ¬ U8T (133 : TypeId)} (hr : rs[a]? = some (dev H D)) (hd : rs[i]? = some (arr bd #[.pointer (some ⟨H.b, 0, none⟩)] 24 ht))
    (hi : rs[j]? = some (arr bg #[.int .u64 g] 133 ht')) (hg : g < 18446744073709551615) (hn : 246 ≤ D.n) (ho : D.ops < 4611686018427387904) (hoff : D.off = false) (hia : i ≠ a) (hja : j ≠ a) :
    Calls Try.prog 96 #[.pointer (some ⟨bd, 0, none⟩), .pointer (some ⟨bg, 0, none⟩)] w fun e w' => e = .returned (.int .i64 0) ∧ St w0 w' (rs.set a (dev H (D.op.put 0 (laidB magicL [g + 1])))) := by
  have H0 := Lib.hid h
  have KA : Hid (∀ y, Frm NoB w y → y.cell? ⟨bd, 0, none⟩ = some (.pointer (some ⟨H.b, 0, none⟩)) ∧ y.cell? ⟨bg, 0, none⟩ = some (.int .u64 g)) := Lib.hid fun y hy =>
    ⟨((h.frm0 hy).arrCell hd 0).trans rfl, ((h.frm0 hy).arrCell hi 0).trans rfl⟩
  have c1 := (KA.out w (Frm.refl _ _)).1
  have c2 := (KA.out w (Frm.refl _ _)).2
  have KB : Hid (∀ y v X, St w0 y ((v :: rs).set (a + 1) X) → y.cell? ⟨bd, 0, none⟩ = some (.pointer (some ⟨H.b, 0, none⟩)) ∧ y.cell? ⟨bg, 0, none⟩ = some (.int .u64 g)) := Lib.hid fun y v X hy =>
    ⟨(hy.arrCell (i := i + 1) (by rw [List.getElem?_set_ne (by omega), List.getElem?_cons_succ]; exact hd) 0).trans rfl, (hy.arrCell (i := j + 1) (by rw [List.getElem?_set_ne (by omega), List.getElem?_cons_succ]; exact hi) 0).trans rfl⟩
  have KC : Hid (∀ y v, St w0 y (v :: rs) → y.cell? ⟨bd, 0, none⟩ = some (.pointer (some ⟨H.b, 0, none⟩)) ∧ y.cell? ⟨bg, 0, none⟩ = some (.int .u64 g)) := Lib.hid fun y v hy =>
    ⟨(hy.arrCell (i := i + 1) hd 0).trans rfl, (hy.arrCell (i := j + 1) hi 0).trans rfl⟩
  have HGG := Lib.hid hg
  have hg0 : (0 : Int) ≤ (g : Int) := Int.natCast_nonneg _
  have hgw : IntKind.u64.wrap ((g : Int) + 1) = (g : Int) + 1 := u64_in (by omega) (by omega)
  clear h hg
  go_enter Try.func96, Try.ntmps96
  go_wp2_with fail
  clear c1 c2
  go_region_held3 (fun y => y.cell? ⟨bd, 0, none⟩ = some (.pointer (some ⟨H.b, 0, none⟩)) ∧ y.cell? ⟨bg, 0, none⟩ = some (.int .u64 g))
    (first | exact hS5 | exact hS4 | (refine KA.out _ ?_; first | assumption | exact (Frm.refl NoB w).drew | exact ((Frm.refl NoB w).drew).alloc _ | exact (Frm.refl NoB w).alloc _ | exact ⟨rfl, rfl, rfl, Nat.le_refl _, fun _ _ _ => rfl⟩))
    (first
      | (go_at_call 97; refine (S_laid1 (H0.out.frm0 ((Frm.refl NoB w).drew)) (g + 1) (by have := HGG.out; omega)).mono ?_; rintro e w3 ⟨v3, rfl, h3⟩; have hS4 := KC.out _ _ h3)
      | (go_at_call 31; refine (S_Write h3 (a + 1) 0 hr rfl 0 ho hoff (by omega) (by omega) (laidFrom_length _ _ _ (textBlk_length _ (by decide)) (by simp))).mono ?_; rintro e w5 ⟨rfl, h5⟩; have hS5 := KB.out _ _ _ h5))
  all_goals
   have H5 := Lib.hid (h5.drop 1)
   clear h5 hS5
   go_wp2
   go_ret
   exact ⟨rfl, H5.out⟩
end Go.Proofs.Ytkanfpmmgaipnaa

/-
  Slices of function values, and captured variables of a loop, as objects.
-/
namespace Go.Proofs.Ytkanfpmmgaipnaa
set_option linter.unusedVariables false
open Go.ChangeMaps Go.MapKept Go.RowKit

theorem infoFn : (Try.prog.info? 33).map (fun i => (i.zero, i.size, i.bytes)) = some (some .nilFunc, 1, 8) := by kernel_rfl
theorem neFn : ¬ U8T (33 : TypeId) := by decide

/-- A slice of function values that grows by append. -/
def fnRow (v : Value) (xs : List Value) : Res where
  M := fun x => v.ownBlock = some x
  inv := fun Z w => w.ownsRow 0 33 1 v xs.length xs
  lt := fun Z w H x hx => (H.lt x hx).2
  dry := fun Z w H x hx c' e => by
    rcases H.2 with ⟨rfl, _⟩ | ⟨g, cap, cur, rfl, _, h2, _⟩
    · cases hx
    · obtain rfl : g = x := by simpa [Value.ownBlock] using hx
      exact notC_cells h2 neFn _ e
  keep := fun Z w w' N H hf hd ha => ownsRow_of_block H (fun g hg => hf.block g (H.lt g hg).2 (ha g hg))
  zone := fun Z Z' w H _ _ => H

theorem St.fnNil {w0 : Gnd} {w : World} {rs : List Res} (h : St w0 w rs) : St w0 w (fnRow (.slice none 0 0) [] :: rs) :=
  h.make (Frm.refl _ _) (fnRow _ _) (World.ownsRow_nil _ _ _ _) (fun _ hx => by cases hx)

/-- Behind an append to it (o: what the new ones lay in). -/
theorem St.fnAppend {w0 : Gnd} {w : World} {rs : List Res} (h : St w0 w rs) (i : Nat) {v : Value} {xs : List Value} (hr : rs[i]? = some (fnRow v xs)) (o : Obj) {v' : Value} {w' : World} {news : List Value}
    (ho : w'.ownsRow 0 33 1 v' (xs.length + news.length) (xs ++ news)) (hg : (w.alloc o).grownBy w' v.ownBlock) (hat : v'.ownBlock = v.ownBlock ∨ v'.ownBlock = some (w.alloc o).heap.size) :
    St w0 w' (rs.set i (fnRow v' (xs ++ news))) := by
  refine h.write i hr (((Frm.refl (fnRow v xs).M w).alloc o).trans (Frm.ofGrown hg) (fun y _ e => e)) (fnRow v' (xs ++ news)) (by show w'.ownsRow _ _ _ _ (xs ++ news).length _; rw [List.length_append]; exact ho) (fun x hx => ?_)
  rcases hat with e | e
  · exact .inl (show v.ownBlock = some x from e ▸ (show v'.ownBlock = some x from hx))
  · have hx : v'.ownBlock = some x := hx
    rw [e] at hx
    have e' : (w.alloc o).heap.size = x := by injection hx
    have := ((Frm.refl NoB w).alloc o).size
    exact .inr (by omega)

/-- The objects in another order. -/
theorem St.perm {w0 : Gnd} {w : World} {rs rs' : List Res} (h : St w0 w rs) (hp : rs.Perm rs') : St w0 w rs' :=
  ⟨h.base, h.zin, fun r hr => h.inv r (hp.mem_iff.2 hr), fun r hr => h.new r (hp.mem_iff.2 hr), (hp.pairwise_iff (fun h x ha hb => h x hb ha)).1 h.apart⟩

/-- The blocks of a loop's captured counter, the last first. -/
def capR : List Nat → List Res
  | [] => []
  | b :: r => arr b #[.int .i64 (r.length : Int)] 3 neI8 :: capR r

theorem St.capMore {w0 : Gnd} {w : World} {a : Res} {bl : List Nat} {rs : List Res} (h : St w0 w (a :: (capR bl ++ rs))) {z : Int} (hz : z = bl.length) : St w0 (w.alloc (.cells #[.int .i64 z] 3 (0, 0))) (a :: (capR (w.heap.size :: bl) ++ rs)) := by
  subst hz
  exact (h.newArr #[.int .i64 (bl.length : Int)] 3 neI8).perm (List.Perm.swap _ _ _)

/-- The closures that a loop made. -/
def fmtFns (bd : Nat) : List Nat → List Value
  | [] => []
  | b :: r => fmtFns bd r ++ [.func (.func 95) #[] #[.pointer (some ⟨bd, 0, none⟩), .pointer (some ⟨b, 0, none⟩)]]

theorem fmtFns_length (bd : Nat) : ∀ l, (fmtFns bd l).length = l.length
  | [] => rfl
  | b :: r => by rw [fmtFns, List.length_append, fmtFns_length bd r]; rfl

end Go.Proofs.Ytkanfpmmgaipnaa

/-
  Format, walked. 
-/
namespace Go.Proofs.Ytkanfpmmgaipnaa
set_option linter.unusedVariables false
open Go.ChangeMaps Go.MapKept Go.RowKit

def fmtStep (g i : Nat) (E : DSt) : DSt := if i < 4 then E.op.put (1 + 61 * i) zeros else if i = 5 then E.op.put 0 (laidB magicL [g + 1]) else E.op.flushed

/-- The device ahead of the i-th of Format's functions. -/
def fmtD (D : DSt) (g : Nat) : Nat → DSt
  | 0 => D
  | i + 1 => fmtStep g i (fmtD D g i)

theorem fmtD_ok (D : DSt) (g : Nat) (hl : D.lim = none) : ∀ i, (fmtD D g i).n = D.n ∧ (fmtD D g i).ops = D.ops + i ∧ (fmtD D g i).lim = none
  | 0 => ⟨rfl, rfl, hl⟩
  | i + 1 => by
    obtain ⟨h1, h2, h3⟩ := fmtD_ok D g hl i
    have h0 : (fmtD D g i).lim.map (· - 1) = none := by rw [h3]; rfl
    have h4 : (fmtD D g i).ops + 1 = D.ops + (i + 1) := by omega
    unfold fmtD fmtStep
    split
    · exact ⟨h1, h4, h0⟩
    · split
      · exact ⟨h1, h4, h0⟩
      · exact ⟨h1, h4, h0⟩

theorem entFmt1 : EntersF Try.prog 95 := entersF_of Try.func95 (by kernel_rfl) rfl
theorem entFmt2 : EntersF Try.prog 96 := entersF_of Try.func96 (by kernel_rfl) rfl
theorem entFlush : EntersF Try.prog 33 := entersF_of Try.func33 (by kernel_rfl) rfl

set_option maxRecDepth 100000 in
theorem S_Format {w0 : Gnd} {w : World} {rs : List Res} (h : St w0 w rs) (a : Nat) {H : Hdl} {D : DSt} (hr : rs[a]? = some (dev H D)) (hn : 246 ≤ D.n) (ho : D.ops < 1000000) (hlim : D.lim = none) (hm : isMagic (D.last 0) = false) (hg : getLE (D.last 0) 8 8 < 18446744073709551615) :
    Calls Try.prog 51 #[.pointer (some ⟨H.b, 0, none⟩)] w fun e w' => e = .returned (.int .i64 0) ∧ St w0 w' (rs.set a (dev H (fmtD D (getLE (D.last 0) 8 8) 7))) := by
  obtain ⟨g, hgg⟩ : ∃ g, getLE (D.last 0) 8 8 = g := ⟨_, rfl⟩
  have HD := Lib.hid (h.newArr #[.pointer (some ⟨H.b, 0, none⟩)] 24 neDp)
  have c1 := HD.out.arrCell (i := 0) rfl 0
  have c1 : (w.alloc (.cells #[.pointer (some ⟨H.b, 0, none⟩)] 24 (0, 0))).cell? ⟨w.heap.size, 0, none⟩ = some (.pointer (some ⟨H.b, 0, none⟩)) := c1
  have HB := Lib.hid (S_Blocks HD.out (a + 1) hr)
  have HFI := Lib.hid (S_first HD.out (a + 1) hr (by omega) (by omega))
  rw [hgg, hm] at HFI
  rw [hgg] at hg ⊢
  have hn' : ¬ (D.n : Int) < 246 := by omega
  have HG := Lib.hid hg
  have HLIM := Lib.hid hlim
  clear hgg hm hg h hlim
  go_enter Try.func51, Try.ntmps51
  go_wp2_with fail
  refine HB.out.mono ?_
  rintro e w2 ⟨rfl, rfl⟩
  go_wp2_with fail
  refine HFI.out.mono ?_
  rintro e w3 ⟨rfl, h3⟩
  have H3 := Lib.hid h3
  clear h3 HD HB HFI c1
  generalize w.heap.size = bd at *
  go_wp2_with fail
  have H4 := Lib.hid ((H3.out.newArr #[.int .u64 (g : Int)] 133 neU64).fnNil)
  clear H3
  generalize w3.heap.size = bg at *
  go_loopw [5, 6, 17] (fun v _ t wr => ∃ bl : List Nat, bl.length ≤ 4 ∧ t = .int .i64 bl.length ∧ St w0 wr (fnRow v (fmtFns bd bl) :: (capR bl ++ (arr bg #[.int .u64 (g : Int)] 133 neU64 :: arr bd #[.pointer (some ⟨H.b, 0, none⟩)] 24 neDp :: rs)))) (fun _ _ t _ => 4 - (intOf t).toNat)
  case atStart => exact ⟨[], Nat.zero_le _, rfl, H4.out⟩
  case round =>
    clear H4
    obtain ⟨bl, hbl, rfl, hst⟩ := hrel
    have HST := Lib.hid hst
    clear hst
    by_cases hlt : bl.length < 4
    · have hi0 : (0 : Int) ≤ (bl.length : Int) := Int.natCast_nonneg _
      have hi1 : (bl.length : Int) < 4 := by omega
      have H5 := Lib.hid (HST.out.capMore (z := (bl.length : Int)) rfl)
      have HO := Lib.hid (World.ownsRow.alloc (H5.out.get (i := 0) rfl) (.cells #[.func (.func 95) #[] #[.pointer (some ⟨bd, 0, none⟩), .pointer (some ⟨wr.heap.size, 0, none⟩)]] 33 (0, 0)))
      have hxl := fmtFns_length bd bl
      obtain ⟨ii, hi0i, hz0, hz1, hz2⟩ := info_parts infoFn
      have HN : Hid (∀ (j : Nat) u, [Value.func (.func 95) #[] #[.pointer (some ⟨bd, 0, none⟩), .pointer (some ⟨wr.heap.size, 0, none⟩)]][j]? = some u → ((wr.alloc (.cells #[.int .i64 (bl.length : Int)] 3 (0, 0))).alloc (.cells #[.func (.func 95) #[] #[.pointer (some ⟨bd, 0, none⟩), .pointer (some ⟨wr.heap.size, 0, none⟩)]] 33 (0, 0))).cell? ((⟨wr.heap.size + 1, 0, none⟩ : Addr).add j) = some u) := Lib.hid fun j u hj => by
        obtain ⟨h1, h2⟩ := List.getElem?_eq_some_iff.1 hj
        obtain rfl : j = 0 := by simp at h1; exact h1
        have e : wr.heap.size + 1 = (wr.alloc (.cells #[.int .i64 (bl.length : Int)] 3 (0, 0))).heap.size := (size_alloc _ _).symm
        rw [show ((⟨wr.heap.size + 1, 0, none⟩ : Addr).add 0) = ⟨wr.heap.size + 1, 0, none⟩ from rfl, e, cell_of_block (block_alloc_new _ _), ← h2]
        rfl
      have hmf : ∀ (fn : Fn) (first cap : Array Value) (W : World), (Instr.makeFunc fn first cap).run Try.prog W = .ok (.func fn first cap) W := fun _ _ _ _ => rfl
      go_wp2_with (at_builtin; refine wpList_append_own_at _ rfl _ _ 146 rfl 0 33 ii .nilFunc 1 8 Try.underlying146 hi0i hz0 hz1 hz2 rfl (by decide) _ _ _ rfl HO.out ⟨wr.heap.size + 1, 0, none⟩ 1 1 [.func (.func 95) #[] #[.pointer (some ⟨bd, 0, none⟩), .pointer (some ⟨wr.heap.size, 0, none⟩)]] rfl rfl HN.out ?c0 ?c1 ?c2 ?c3 ?_)
      case c0 => intro u hu; simp at hu; subst hu; rfl
      case c1 => simp only [maxLen]; omega
      case c2 => omega
      case c3 => omega
      intro v' w6 ho hg2 hnn hat
      have h7 := H5.out.fnAppend 0 rfl (.cells #[.func (.func 95) #[] #[.pointer (some ⟨bd, 0, none⟩), .pointer (some ⟨wr.heap.size, 0, none⟩)]] 33 (0, 0)) (news := [.func (.func 95) #[] #[.pointer (some ⟨bd, 0, none⟩), .pointer (some ⟨wr.heap.size, 0, none⟩)]]) (by rw [hxl]; exact ho) hg2 (by rw [size_alloc, size_alloc]; first | exact hat | (rw [size_alloc, size_alloc] at hat; exact hat))
      have H7 := Lib.hid (show St w0 w6 (fnRow v' (fmtFns bd (wr.heap.size :: bl)) :: (capR (wr.heap.size :: bl) ++ (arr bg #[.int .u64 (g : Int)] 133 neU64 :: arr bd #[.pointer (some ⟨H.b, 0, none⟩)] 24 neDp :: rs))) from h7)
      clear ho hg2 hnn hat h7
      go_wp2
      first | exact ⟨⟨wr.heap.size :: bl, hlt, by go_num, H7.out⟩, by simp [intOf]; omega⟩ | (go_roundw; case rel => first | exact ⟨wr.heap.size :: bl, hlt, by go_num, H7.out⟩ | ((repeat apply Exists.intro); exact ⟨⟨wr.heap.size :: bl, hlt, by go_num, H7.out⟩, rfl⟩); case measure => simp [intOf]; omega)
    · have hi1 : ¬ (bl.length : Int) < 4 := by omega
      have hmf : ∀ (fn : Fn) (first cap : Array Value) (W : World), (Instr.makeFunc fn first cap).run Try.prog W = .ok (.func fn first cap) W := fun _ _ _ _ => rfl
      obtain ⟨pd, hpd⟩ : ∃ pd, capR bl ++ (arr bg #[.int .u64 (g : Int)] 133 neU64 :: arr bd #[.pointer (some ⟨H.b, 0, none⟩)] 24 neDp :: rs) = pd := ⟨_, rfl⟩
      have hcd : wr.cell? ⟨bd, 0, none⟩ = some (.pointer (some ⟨H.b, 0, none⟩)) :=
        ((HST.out.arrCell (i := 1 + (capR bl).length + 1) (b := bd) (c := #[.pointer (some ⟨H.b, 0, none⟩)]) (t := 24) (ht := neDp) (by
          rw [show 1 + (capR bl).length + 1 = ((capR bl).length + 1) + 1 from by omega, List.getElem?_cons_succ, List.getElem?_append_right (by omega), show (capR bl).length + 1 - (capR bl).length = 1 from by omega]
          rfl) 0).trans rfl)
      clear hpd
      have hxl := fmtFns_length bd bl
      have hbl4 : bl.length = 4 := by omega
      have HO := Lib.hid (World.ownsRow.alloc (HST.out.get (i := 0) rfl) (.cells #[.func (.func 33) #[.pointer (some ⟨H.b, 0, none⟩)] #[], .func (.func 96) #[] #[.pointer (some ⟨bd, 0, none⟩), .pointer (some ⟨bg, 0, none⟩)], .func (.func 33) #[.pointer (some ⟨H.b, 0, none⟩)] #[]] 33 (0, 0)))
      have HN : Hid (∀ (j : Nat) u, (([.func (.func 33) #[.pointer (some ⟨H.b, 0, none⟩)] #[], .func (.func 96) #[] #[.pointer (some ⟨bd, 0, none⟩), .pointer (some ⟨bg, 0, none⟩)], .func (.func 33) #[.pointer (some ⟨H.b, 0, none⟩)] #[]] : List Value))[j]? = some u → (wr.alloc (.cells #[.func (.func 33) #[.pointer (some ⟨H.b, 0, none⟩)] #[], .func (.func 96) #[] #[.pointer (some ⟨bd, 0, none⟩), .pointer (some ⟨bg, 0, none⟩)], .func (.func 33) #[.pointer (some ⟨H.b, 0, none⟩)] #[]] 33 (0, 0))).cell? ((⟨wr.heap.size, 0, none⟩ : Addr).add j) = some u) := Lib.hid fun j u hj => by
        have e : ((⟨wr.heap.size, 0, none⟩ : Addr).add j) = ⟨wr.heap.size, j, none⟩ := by unfold Addr.add; split <;> simp_all
        rw [e, cell_of_block (block_alloc_new _ _), ← Array.getElem?_toList]
        exact hj
      obtain ⟨ii, hi0i, hz0, hz1, hz2⟩ := info_parts infoFn
      go_wp2_with (at_builtin; refine wpList_append_own_at _ rfl _ _ 146 rfl 0 33 ii .nilFunc 1 8 Try.underlying146 hi0i hz0 hz1 hz2 rfl (by decide) _ _ _ rfl HO.out ⟨wr.heap.size, 0, none⟩ 3 3 [.func (.func 33) #[.pointer (some ⟨H.b, 0, none⟩)] #[], .func (.func 96) #[] #[.pointer (some ⟨bd, 0, none⟩), .pointer (some ⟨bg, 0, none⟩)], .func (.func 33) #[.pointer (some ⟨H.b, 0, none⟩)] #[]] rfl rfl HN.out ?c0 ?c1 ?c2 ?c3 ?_)
      case c0 => exact ⟨rfl, rfl, rfl⟩
      case c1 => simp only [maxLen]; omega
      try case c2 => omega
      try case c3 => omega
      intro v' w6 ho hg2 hnn hat
      have H7 := Lib.hid (HST.out.fnAppend 0 rfl (.cells #[.func (.func 33) #[.pointer (some ⟨H.b, 0, none⟩)] #[], .func (.func 96) #[] #[.pointer (some ⟨bd, 0, none⟩), .pointer (some ⟨bg, 0, none⟩)], .func (.func 33) #[.pointer (some ⟨H.b, 0, none⟩)] #[]] 33 (0, 0)) (news := [.func (.func 33) #[.pointer (some ⟨H.b, 0, none⟩)] #[], .func (.func 96) #[] #[.pointer (some ⟨bd, 0, none⟩), .pointer (some ⟨bg, 0, none⟩)], .func (.func 33) #[.pointer (some ⟨H.b, 0, none⟩)] #[]]) (by rw [hxl, hbl4]; exact ho) hg2 (by rw [size_alloc]; exact hat))
      have HNE : Hid (v' ≠ .slice none 0 0) := Lib.hid (by first | exact hnn | exact fun e => by have := (hnn.1 e).2; omega)
      clear ho hg2 hnn hat HO HN HST hxl hi1 hcd
      go_wp2_with fail
      match bl, hbl4 with
      | [b3, b2, b1, b0], _ =>
      have H8 := H7.out
      obtain ⟨XS, hXS⟩ : ∃ XS, fmtFns bd [b3, b2, b1, b0] ++ [.func (.func 33) #[.pointer (some ⟨H.b, 0, none⟩)] #[], .func (.func 96) #[] #[.pointer (some ⟨bd, 0, none⟩), .pointer (some ⟨bg, 0, none⟩)], .func (.func 33) #[.pointer (some ⟨H.b, 0, none⟩)] #[]] = XS := ⟨_, rfl⟩
      rw [hXS] at H8
      have hlen : XS.length = 7 := by rw [← hXS]; rfl
      have hgetX : ∀ i, i < 7 → XS[i]? = some (.func (.func ([95, 95, 95, 95, 33, 96, 33].getD i 0)) ([#[], #[], #[], #[], #[.pointer (some ⟨H.b, 0, none⟩)], #[], #[.pointer (some ⟨H.b, 0, none⟩)]].getD i #[]) ([#[.pointer (some ⟨bd, 0, none⟩), .pointer (some ⟨b0, 0, none⟩)], #[.pointer (some ⟨bd, 0, none⟩), .pointer (some ⟨b1, 0, none⟩)], #[.pointer (some ⟨bd, 0, none⟩), .pointer (some ⟨b2, 0, none⟩)], #[.pointer (some ⟨bd, 0, none⟩), .pointer (some ⟨b3, 0, none⟩)], #[], #[.pointer (some ⟨bd, 0, none⟩), .pointer (some ⟨bg, 0, none⟩)], #[]].getD i #[])) := fun i hi => by
        rw [← hXS]
        rcases (by omega : i = 0 ∨ i = 1 ∨ i = 2 ∨ i = 3 ∨ i = 4 ∨ i = 5 ∨ i = 6) with rfl | rfl | rfl | rfl | rfl | rfl | rfl <;> rfl
      clear hXS
      obtain ⟨gb, gc, rfl⟩ : ∃ gb gc, v' = .slice (some ⟨gb, 0, none⟩) 7 gc := by
        have ho : w6.ownsRow 0 33 1 v' XS.length XS := H8.get (i := 0) rfl
        rcases ho.2 with h | ⟨gb, gc, _, h, _⟩
        · exact absurd h.1 HNE.out
        · exact ⟨gb, gc, by rw [h, hlen]⟩
      obtain ⟨ha1, ha2⟩ := List.getElem?_eq_some_iff.1 hr
      have hok := fmtD_ok D g HLIM.out
      have hdev : ∀ X : Res, (rs.set a X)[a]? = some X := fun X => List.getElem?_set_self ha1
      have hrs : rs.set a (dev H D) = rs := by rw [← ha2]; exact List.set_getElem_self ha1
      have hnext : ∀ (W : World) (i : Nat) (X : Res), X = dev H (fmtD D g (i + 1)) → St w0 W ((fnRow (.slice (some ⟨gb, 0, none⟩) 7 gc) XS :: arr b3 #[.int .i64 ((3 : Nat) : Int)] 3 neI8 :: arr b2 #[.int .i64 ((2 : Nat) : Int)] 3 neI8 :: arr b1 #[.int .i64 ((1 : Nat) : Int)] 3 neI8 :: arr b0 #[.int .i64 ((0 : Nat) : Int)] 3 neI8 :: arr bg #[.int .u64 (g : Int)] 133 neU64 :: arr bd #[.pointer (some ⟨H.b, 0, none⟩)] 24 neDp :: rs.set a (dev H (fmtD D g i))).set (a + 7) X) → St w0 W (fnRow (.slice (some ⟨gb, 0, none⟩) 7 gc) XS :: arr b3 #[.int .i64 ((3 : Nat) : Int)] 3 neI8 :: arr b2 #[.int .i64 ((2 : Nat) : Int)] 3 neI8 :: arr b1 #[.int .i64 ((1 : Nat) : Int)] 3 neI8 :: arr b0 #[.int .i64 ((0 : Nat) : Int)] 3 neI8 :: arr bg #[.int .u64 (g : Int)] 133 neU64 :: arr bd #[.pointer (some ⟨H.b, 0, none⟩)] 24 neDp :: rs.set a (dev H (fmtD D g (i + 1)))) := fun W i X hX h => by
        subst hX
        have h' : St w0 W (fnRow (.slice (some ⟨gb, 0, none⟩) 7 gc) XS :: arr b3 #[.int .i64 ((3 : Nat) : Int)] 3 neI8 :: arr b2 #[.int .i64 ((2 : Nat) : Int)] 3 neI8 :: arr b1 #[.int .i64 ((1 : Nat) : Int)] 3 neI8 :: arr b0 #[.int .i64 ((0 : Nat) : Int)] 3 neI8 :: arr bg #[.int .u64 (g : Int)] 133 neU64 :: arr bd #[.pointer (some ⟨H.b, 0, none⟩)] 24 neDp :: (rs.set a (dev H (fmtD D g i))).set a (dev H (fmtD D g (i + 1)))) := h
        rw [List.set_set] at h'
        exact h'
      refine (tries_any w6 gb 0 7 gc (fun i W => St w0 W (fnRow (.slice (some ⟨gb, 0, none⟩) 7 gc) XS :: arr b3 #[.int .i64 ((3 : Nat) : Int)] 3 neI8 :: arr b2 #[.int .i64 ((2 : Nat) : Int)] 3 neI8 :: arr b1 #[.int .i64 ((1 : Nat) : Int)] 3 neI8 :: arr b0 #[.int .i64 ((0 : Nat) : Int)] 3 neI8 :: arr bg #[.int .u64 (g : Int)] 133 neU64 :: arr bd #[.pointer (some ⟨H.b, 0, none⟩)] 24 neDp :: rs.set a (dev H (fmtD D g i)))) (fun _ _ => False) (fun i => [95, 95, 95, 95, 33, 96, 33].getD i 0) (fun i => [#[], #[], #[], #[], #[.pointer (some ⟨H.b, 0, none⟩)], #[], #[.pointer (some ⟨H.b, 0, none⟩)]].getD i #[]) (fun i => [#[.pointer (some ⟨bd, 0, none⟩), .pointer (some ⟨b0, 0, none⟩)], #[.pointer (some ⟨bd, 0, none⟩), .pointer (some ⟨b1, 0, none⟩)], #[.pointer (some ⟨bd, 0, none⟩), .pointer (some ⟨b2, 0, none⟩)], #[.pointer (some ⟨bd, 0, none⟩), .pointer (some ⟨b3, 0, none⟩)], #[], #[.pointer (some ⟨bd, 0, none⟩), .pointer (some ⟨bg, 0, none⟩)], #[]].getD i #[]) ?_ ?_ ?_ (by omega) ?_).mono ?_
      · show St w0 w6 (fnRow (.slice (some ⟨gb, 0, none⟩) 7 gc) XS :: arr b3 #[.int .i64 ((3 : Nat) : Int)] 3 neI8 :: arr b2 #[.int .i64 ((2 : Nat) : Int)] 3 neI8 :: arr b1 #[.int .i64 ((1 : Nat) : Int)] 3 neI8 :: arr b0 #[.int .i64 ((0 : Nat) : Int)] 3 neI8 :: arr bg #[.int .u64 (g : Int)] 133 neU64 :: arr bd #[.pointer (some ⟨H.b, 0, none⟩)] 24 neDp :: rs.set a (dev H (D)))
        rw [hrs]
        exact H8
      · intro i W hi hT
        have ho : W.ownsRow 0 33 1 (.slice (some ⟨gb, 0, none⟩) 7 gc) XS.length XS := hT.get (i := 0) rfl
        have h1 := ho.cells (g := gb) rfl i _ (hgetX i hi)
        rw [show (⟨gb, 0, none⟩ : Addr).add i = ⟨gb, 0 + i, none⟩ from by unfold Addr.add; split <;> simp_all] at h1
        exact h1
      · intro i hi
        rcases (by omega : i = 0 ∨ i = 1 ∨ i = 2 ∨ i = 3 ∨ i = 4 ∨ i = 5 ∨ i = 6) with rfl | rfl | rfl | rfl | rfl | rfl | rfl
        · exact entFmt1
        · exact entFmt1
        · exact entFmt1
        · exact entFmt1
        · exact entFlush
        · exact entFmt2
        · exact entFlush
      · intro i W hi hT
        rcases (by omega : i = 0 ∨ i = 1 ∨ i = 2 ∨ i = 3 ∨ i = 4 ∨ i = 5 ∨ i = 6) with rfl | rfl | rfl | rfl | rfl | rfl | rfl
        · exact (S_fmt1 (k := 0) hT (a + 7) 6 4 (hdev _) rfl rfl (by omega) (by rw [(hok 0).1]; exact hn) (by rw [(hok 0).2.1]; omega) (off_of_lim (hok 0).2.2) (by omega) (by omega)).mono fun _ _ ⟨e, h⟩ => ⟨0, e, fun _ => hnext _ 0 _ rfl h, fun h => absurd rfl h⟩
        · exact (S_fmt1 (k := 1) hT (a + 7) 6 3 (hdev _) rfl rfl (by omega) (by rw [(hok 1).1]; exact hn) (by rw [(hok 1).2.1]; omega) (off_of_lim (hok 1).2.2) (by omega) (by omega)).mono fun _ _ ⟨e, h⟩ => ⟨0, e, fun _ => hnext _ 1 _ rfl h, fun h => absurd rfl h⟩
        · exact (S_fmt1 (k := 2) hT (a + 7) 6 2 (hdev _) rfl rfl (by omega) (by rw [(hok 2).1]; exact hn) (by rw [(hok 2).2.1]; omega) (off_of_lim (hok 2).2.2) (by omega) (by omega)).mono fun _ _ ⟨e, h⟩ => ⟨0, e, fun _ => hnext _ 2 _ rfl h, fun h => absurd rfl h⟩
        · exact (S_fmt1 (k := 3) hT (a + 7) 6 1 (hdev _) rfl rfl (by omega) (by rw [(hok 3).1]; exact hn) (by rw [(hok 3).2.1]; omega) (off_of_lim (hok 3).2.2) (by omega) (by omega)).mono fun _ _ ⟨e, h⟩ => ⟨0, e, fun _ => hnext _ 3 _ rfl h, fun h => absurd rfl h⟩
        · exact (S_Flush hT (a + 7) (hdev _) (by rw [(hok 4).2.1]; omega) (off_of_lim (hok 4).2.2)).mono fun _ _ ⟨e, h⟩ => ⟨0, e, fun _ => hnext _ 4 _ rfl h, fun h => absurd rfl h⟩
        · exact (S_fmt2 (g := g) hT (a + 7) 6 5 (hdev _) rfl rfl HG.out (by rw [(hok 5).1]; exact hn) (by rw [(hok 5).2.1]; omega) (off_of_lim (hok 5).2.2) (by omega) (by omega)).mono fun _ _ ⟨e, h⟩ => ⟨0, e, fun _ => hnext _ 5 _ rfl h, fun h => absurd rfl h⟩
        · exact (S_Flush hT (a + 7) (hdev _) (by rw [(hok 6).2.1]; omega) (off_of_lim (hok 6).2.2)).mono fun _ _ ⟨e, h⟩ => ⟨0, e, fun _ => hnext _ 6 _ rfl h, fun h => absurd rfl h⟩
      · rintro e w7 (⟨rfl, h9⟩ | ⟨x, hx, _, hf⟩)
        · have H9 := Lib.hid (h9.drop 7)
          clear h9 hnext hdev hrs hok hgetX hlen H8
          go_wp2
          go_ret
          exact ⟨rfl, H9.out⟩
        · exact hf.elim
end Go.Proofs.Ytkanfpmmgaipnaa

/-
  Format of a device that is too small; what Format leaves.
-/
namespace Go.Proofs.Ytkanfpmmgaipnaa
set_option linter.unusedVariables false
open Go.ChangeMaps Go.MapKept Go.RowKit

set_option maxRecDepth 100000 in
theorem S_FormatTiny {w0 : Gnd} {w : World} {rs : List Res} (h : St w0 w rs) (a : Nat) {H : Hdl} {D : DSt} (hr : rs[a]? = some (dev H D)) (hn : D.n < 246) :
    Calls Try.prog 51 #[.pointer (some ⟨H.b, 0, none⟩)] w fun e w' => e = .returned (.int .i64 1) ∧ St w0 w' rs := by
  have HD := Lib.hid (h.newArr #[.pointer (some ⟨H.b, 0, none⟩)] 24 neDp)
  have c1 : (w.alloc (.cells #[.pointer (some ⟨H.b, 0, none⟩)] 24 (0, 0))).cell? ⟨w.heap.size, 0, none⟩ = some (.pointer (some ⟨H.b, 0, none⟩)) := HD.out.arrCell (i := 0) rfl 0
  have HB := Lib.hid (S_Blocks HD.out (a + 1) hr)
  have hn' : (D.n : Int) < 246 := by omega
  clear h
  go_enter Try.func51, Try.ntmps51
  go_wp2_with fail
  refine HB.out.mono ?_
  rintro e w2 ⟨rfl, rfl⟩
  go_wp2
  go_ret
  exact ⟨rfl, HD.out.drop 1⟩

/-- What Format leaves: a journal of the next generation in the first block. -/
theorem fmtD_last0 (D : DSt) (g : Nat) : (fmtD D g 7).last 0 = laidB magicL [g + 1] := by
  show (fmtStep g 6 (fmtStep g 5 (fmtD D g 5))).last 0 = _
  show ((fmtD D g 5).op.put 0 (laidB magicL [g + 1])).last 0 = _
  exact last_put_same _ _ _

theorem fmtD_pend (D : DSt) (g k : Nat) : (fmtD D g 7).pend k = [] := rfl

theorem laid_gen (g : Nat) (hg : g < 18446744073709551615) : getLE (laidB magicL [g + 1]) 8 8 = g + 1 :=
  getLE_putLE_same (textBlk magicL) 8 8 (g + 1) (by rw [textBlk_length _ (by decide)]; omega) (by omega)

theorem laid_magic (g : Nat) : isMagic (laidB magicL [g + 1]) = true := by
  have h : (laidB magicL [g + 1]).take 8 = (textBlk magicL).take 8 := by
    apply List.ext_getElem?
    intro i
    rw [List.getElem?_take, List.getElem?_take]
    split
    · show (putLE (textBlk magicL) 8 8 (g + 1))[i]? = _
      rw [putLE_get _ _ _ _ _ (by rw [textBlk_length _ (by decide)]; omega), if_neg (by omega)]
    · rfl
  unfold isMagic
  rw [h]
  rfl
end Go.Proofs.Ytkanfpmmgaipnaa

/-
  home: whether a block is one of the journal's homes.
-/
namespace Go.Proofs.Ytkanfpmmgaipnaa
set_option linter.unusedVariables false
open Go.ChangeMaps Go.MapKept Go.RowKit

theorem neJrn : ¬ U8T (138 : TypeId) := by decide

set_option maxRecDepth 100000 in
theorem S_home {w0 : Gnd} {w : World} {rs : List Res} (h : St w0 w rs) (a i : Nat) {H : Hdl} {D : DSt} {jb : Nat} {c : Array Value} {ht : ¬ U8T (138 : TypeId)} (hr : rs[a]? = some (dev H D)) (hj : rs[i]? = some (arr jb c 138 ht))
    (hc : c[0]? = some (.pointer (some ⟨H.b, 0, none⟩))) (k : Int) :
    Calls Try.prog 93 #[.pointer (some ⟨jb, 0, none⟩), .int .i64 k] w fun e w' => w = w' ∧ e = .returned (.bool (decide (245 ≤ k) && decide (k < (D.n : Int)))) := by
  have hcell : w.cell? ⟨jb, 0, none⟩ = some (.pointer (some ⟨H.b, 0, none⟩)) := (h.arrCell hj 0).trans hc
  have HB := Lib.hid (S_Blocks h a hr)
  clear h
  by_cases h1 : 245 ≤ k
  · by_cases h2 : k < (D.n : Int)
    · have HT : Hid ((decide (245 ≤ k) && decide (k < (D.n : Int))) = true) := Lib.hid (by rw [decide_eq_true h1, decide_eq_true h2]; rfl)
      go_enter Try.func93, Try.ntmps93
      go_wp2_with fail
      refine HB.out.mono ?_
      rintro e w2 ⟨rfl, rfl⟩
      go_wp2
      go_ret
      exact ⟨rfl, by rw [HT.out]; rfl⟩
    · have HT : Hid ((decide (245 ≤ k) && decide (k < (D.n : Int))) = false) := Lib.hid (by rw [decide_eq_false h2, Bool.and_false])
      go_enter Try.func93, Try.ntmps93
      go_wp2_with fail
      refine HB.out.mono ?_
      rintro e w2 ⟨rfl, rfl⟩
      go_wp2
      go_ret
      exact ⟨rfl, congrArg (fun b => Ending.returned (.bool b)) ((decide_eq_false (by omega)).trans HT.out.symm)⟩
  · have HT : Hid ((decide (245 ≤ k) && decide (k < (D.n : Int))) = false) := Lib.hid (by rw [decide_eq_false h1, Bool.false_and])
    go_enter Try.func93, Try.ntmps93
    go_wp2
    go_ret
    exact ⟨rfl, congrArg (fun b => Ending.returned (.bool b)) HT.out.symm⟩
end Go.Proofs.Ytkanfpmmgaipnaa

/-
  slices.Index on ints.
-/
namespace Go.Proofs.Ytkanfpmmgaipnaa
set_option linter.unusedVariables false
open Go.ChangeMaps Go.MapKept Go.RowKit

/-- Where a number stands first in a list, or -1. -/
def FirstAt (l : List Int) (k : Int) (r : Int) : Prop :=
  (∃ i : Nat, r = i ∧ l[i]? = some k ∧ ∀ j, j < i → l[j]? ≠ some k) ∨ (r = -1 ∧ ∀ j : Nat, l[j]? ≠ some k)

set_option maxRecDepth 100000 in
theorem index_any (w : World) (v : Value) (l : List Int) (k : Int) (hv : Elems w v (l.map IntK)) (hl : l.length ≤ 1000000) :
    Calls Try.prog 94 #[v, .int .i64 k] w fun e w' => w = w' ∧ ∃ r, e = .returned (.int .i64 r) ∧ FirstAt l k r := by
  obtain ⟨a, cap, rfl, ha⟩ := hv
  have HA := Lib.hid ha
  rw [List.length_map]
  clear ha
  go_enter Try.func94, Try.ntmps94
  go_wp2_with fail
  go_loopw [5, 8] (fun _ t wr => wr = w ∧ ∃ i : Nat, i ≤ l.length ∧ t = .int .i64 i ∧ ∀ j, j < i → l[j]? ≠ some k) (fun _ t _ => l.length - (intOf t).toNat)
  case atStart => exact ⟨rfl, 0, Nat.zero_le _, rfl, fun j hj => by omega⟩
  case round =>
    obtain ⟨rfl, i, hi, rfl, hno⟩ := hrel
    have HNO := Lib.hid hno
    clear hno
    by_cases hlt : i < l.length
    · obtain ⟨x, hx⟩ : ∃ x, l[i]? = some x := ⟨_, List.getElem?_eq_getElem hlt⟩
      obtain ⟨blk, off, rfl, hb, hc⟩ := HA.out i (IntK x) (by rw [List.getElem?_map, hx]; rfl)
      have hc' : wr.cell? ⟨blk, off + i, none⟩ = some (.int .i64 x) := hc
      have hi0 : (0 : Int) ≤ (i : Int) := Int.natCast_nonneg _
      have hi1 : (i : Int) < (l.length : Int) := by omega
      have HX := Lib.hid hx
      clear hx hc hb
      by_cases hk : k = x
      · have hk2 : (k == x) = true := beq_iff_eq.2 hk
        have HK := Lib.hid hk
        clear hk
        go_wp2
        go_ret
        exact ⟨rfl, _, rfl, .inl ⟨i, rfl, by rw [HX.out, HK.out], HNO.out⟩⟩
      · have hk2 : (k == x) = false := beq_eq_false_iff_ne.2 hk
        have HK := Lib.hid hk
        clear hk
        have hno2 : ∀ j, j < i + 1 → l[j]? ≠ some k := fun j hj => by
          rcases Nat.lt_or_ge j i with h | h
          · exact HNO.out j h
          · obtain rfl : j = i := by omega
            rw [HX.out]
            intro e
            injection e with e
            exact HK.out e.symm
        have HN2 := Lib.hid hno2
        clear hno2
        go_wp2
        exact ⟨⟨trivial, i + 1, hlt, by go_num, HN2.out⟩, by simp [intOf]; omega⟩
    · obtain rfl : i = l.length := by omega
      go_wp2
      go_ret
      refine ⟨rfl, _, rfl, .inr ⟨rfl, fun j => ?_⟩⟩
      rcases Nat.lt_or_ge j l.length with h | h
      · exact HNO.out j h
      · rw [List.getElem?_eq_none h]; intro e; cases e
end Go.Proofs.Ytkanfpmmgaipnaa
