/-
  laid: a block of a text and numbers.
-/
import Derived.Test.YtkanfpmmgaipnaaJrnB
import Derived.Lib.BufferWrite
namespace Go.Proofs.Ytkanfpmmgaipnaa
set_option linter.unusedVariables false
open Go.ChangeMaps Go.MapKept Go.RowKit

def U64 (n : Nat) : Value := .int .u64 (n : Int)

/-- A text, and noughts. -/
def textBlk (s : List UInt8) : Blk := s ++ List.replicate (512 - s.length) 0

theorem textBlk_length (s : List UInt8) (h : s.length ≤ 512) : (textBlk s).length = 512 := by
  unfold textBlk
  rw [List.length_append, List.length_replicate]
  omega

/-- Numbers laid behind one another, from the i-th place on. -/
def laidFrom : Blk → Nat → List Nat → Blk
  | b, _, [] => b
  | b, i, n :: r => laidFrom (putLE b (8 * (i + 1)) 8 n) (i + 1) r

theorem laidFrom_snoc : ∀ (l : List Nat) (b : Blk) (i n : Nat), laidFrom b i (l ++ [n]) = putLE (laidFrom b i l) (8 * (i + l.length + 1)) 8 n
  | [], b, i, n => rfl
  | m :: r, b, i, n => by
    have := laidFrom_snoc r (putLE b (8 * (i + 1)) 8 m) (i + 1) n
    rw [show i + (m :: r).length = i + 1 + r.length from by simp; omega]
    exact this

theorem laidFrom_length : ∀ (l : List Nat) (b : Blk) (i : Nat), b.length = 512 → i + l.length ≤ 62 → (laidFrom b i l).length = 512
  | [], b, i, h, _ => h
  | m :: r, b, i, h, hl => by
    simp at hl
    exact laidFrom_length r _ _ ((putLE_length _ _ _ _ (by omega)).trans h) (by omega)

def laidB (s : List UInt8) (ns : List Nat) : Blk := laidFrom (textBlk s) 0 ns

theorem laidB_take (s : List UInt8) (ns : List Nat) (i n : Nat) (h : ns[i]? = some n) : laidB s (ns.take (i + 1)) = putLE (laidB s (ns.take i)) (8 * (i + 1)) 8 n := by
  obtain ⟨h1, h2⟩ := List.getElem?_eq_some_iff.1 h
  unfold laidB
  rw [List.take_succ_eq_append_getElem h1, h2, laidFrom_snoc, List.length_take, Nat.min_eq_left (by omega), Nat.zero_add]

theorem text_cells (s : ByteArray) (hs : s.size ≤ 512) : (zc.toList.take 0 ++ Lib.byteCells s.data.toList ++ zc.toList.drop (0 + s.size)).toArray = ((textBlk s.data.toList).map B8).toArray := by
  have hl : s.data.toList.length = s.size := by rw [Array.length_toList]; rfl
  unfold textBlk
  rw [zc_toList, List.take_zero, List.nil_append, Nat.zero_add, List.drop_replicate, List.map_append, List.map_replicate, hl]
  rfl

set_option maxRecDepth 100000 in
theorem laid_any (w : World) (s : ByteArray) (v : Value) (ns : List Nat) (hv : Elems w v (ns.map U64)) (hs : s.size ≤ 8) (hn : ns.length ≤ 62) (hu : ∀ n ∈ ns, n < 18446744073709551616) :
    Calls Try.prog 97 #[.string s, v] w fun e w' => Frm NoB w w' ∧ ∃ v', e = .returned v' ∧ BytesAt w' v' (laidB s.data.toList ns) AnyB := by
  obtain ⟨a, cap, rfl, ha⟩ := hv
  have HA := Lib.hid ha
  have HU := Lib.hid hu
  rw [List.length_map]
  clear ha hu
  have hmk := run_make512
  have hcp := Lib.run_copy_row_string (P := Try.prog) (w.alloc (.cells zc 5 (0, 0))) 31 9 3 5 w.heap.size 0 512 512 s zc 5 Try.underlying31 (by kernel_rfl) (block_alloc_new _ _) (by omega) (by rw [zc_size]; omega)
  rw [text_cells s (by omega), setRow_alloc] at hcp
  have hsl : s.data.toList.length ≤ 8 := by
    have hl : s.data.toList.length = s.size := by rw [Array.length_toList]; rfl
    omega
  have HSL := Lib.hid hsl
  have HTL := Lib.hid (textBlk_length s.data.toList (by omega))
  go_enter Try.func97, Try.ntmps97
  go_wp2_with fail
  clear hmk hcp
  have HB0 : Hid (BytesAt (w.alloc (.cells ((textBlk s.data.toList).map B8).toArray 5 (0, 0))) (.slice (some ⟨w.heap.size, 0, none⟩) 512 512) (textBlk s.data.toList) AnyB) := Lib.hid (block_at w (textBlk s.data.toList) HTL.out)
  go_loopw [5, 6, 7, 14] (fun tb _ _ ti wr => ∃ i : Nat, i ≤ ns.length ∧ ti = .int .i64 i ∧ Frm NoB w wr ∧ BytesAt wr tb (laidB s.data.toList (ns.take i)) AnyB) (fun _ _ _ ti _ => ns.length - (intOf ti).toNat)
  case atStart => exact ⟨0, Nat.zero_le _, rfl, (Frm.refl _ _).alloc _, HB0.out⟩
  case round =>
    clear HB0
    obtain ⟨i, hi, rfl, hf, hb⟩ := hrel
    have HF := Lib.hid hf
    have HB := Lib.hid hb
    clear hf hb
    by_cases hlt : i < ns.length
    · obtain ⟨x, hx⟩ : ∃ x, ns[i]? = some x := ⟨_, List.getElem?_eq_getElem hlt⟩
      obtain ⟨blk, off, rfl, hb, hcell⟩ := HA.out i (U64 x) (by rw [List.getElem?_map, hx]; rfl)
      have hcell' : wr.cell? ⟨blk, off + i, none⟩ = some (.int .u64 x) := by
        rw [← show U64 x = .int .u64 x from rfl, ← hcell]; exact HF.out.cell hb (fun e => e)
      have hlen : (laidB s.data.toList (ns.take i)).length = 512 := laidFrom_length _ _ _ HTL.out (by rw [List.length_take]; omega)
      have hT := laidB_take s.data.toList ns i x hx
      have HT := Lib.hid hT
      have HP := Lib.hid (bitsPut_any wr _ _ (8 * (i + 1)) 8 x AnyB HB.out (by omega) (by omega) (by omega) (by omega) (HU.out x (List.mem_of_getElem? hx)))
      obtain ⟨k, hk⟩ : ∃ k : Nat, 8 * (i + 1) = k := ⟨_, rfl⟩
      have hi0 : (0 : Int) ≤ (i : Int) := Int.natCast_nonneg _
      have hi1 : (i : Int) < (ns.length : Int) := by omega
      have hi2 : (ns.length : Int) ≤ 62 := by omega
      have e1 : 8 * ((i : Int) + 1) = (k : Int) := by omega
      rw [hk] at HP HT
      clear hx hcell hlen hT hk hb
      go_wp2_with fail
      refine HP.out.mono ?_
      rintro e w2 ⟨hf2, v2, rfl, hb2⟩
      have HF2 := Lib.hid (HF.out.trans hf2 (fun _ _ e => e))
      have HB2 := Lib.hid (hb2.mono (R' := AnyB) (fun _ _ _ => trivial))
      rw [← HT.out] at HB2
      clear hf2 hb2
      go_wp2
      first | exact ⟨⟨i + 1, hlt, by go_num, HF2.out, HB2.out⟩, by simp [intOf]; omega⟩ | (go_roundw; case rel => first | exact ⟨i + 1, hlt, by go_num, HF2.out, HB2.out⟩ | ((repeat apply Exists.intro); exact ⟨⟨i + 1, hlt, by go_num, HF2.out, HB2.out⟩, rfl⟩); case measure => simp [intOf]; omega)
    · obtain rfl : i = ns.length := by omega
      have HB3 := HB.out
      rw [List.take_length] at HB3
      have HB4 := Lib.hid HB3
      clear HB3
      go_wp2
      go_ret
      exact ⟨HF.out, _, rfl, HB4.out⟩
end Go.Proofs.Ytkanfpmmgaipnaa
