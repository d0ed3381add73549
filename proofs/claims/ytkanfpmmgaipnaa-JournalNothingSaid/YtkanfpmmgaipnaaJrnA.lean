/-
  The journal's small functions: a slot, a place, a number of a block, a block that is laid.
-/
import Derived.Test.YtkanfpmmgaipnaaBits
namespace Go.Proofs.Ytkanfpmmgaipnaa
set_option linter.unusedVariables false
open Go.ChangeMaps Go.MapKept Go.RowKit

set_option maxRecDepth 100000 in
theorem slot_any (w : World) (n : Nat) (hn : n < 18446744073709551616) :
    Calls Try.prog 89 #[.int .u64 n] w fun e w' => w = w' ∧ e = .returned (.int .i64 ((n % 4 : Nat) : Int)) := by
  have hn0 : (0 : Int) ≤ (n : Int) := Int.natCast_nonneg _
  obtain ⟨r, hr⟩ : ∃ r : Int, (n : Int) % 4 = r := ⟨_, rfl⟩
  have hr0 : 0 ≤ r := by omega
  have hr1 : r < 4 := by omega
  have hrn : ((n % 4 : Nat) : Int) = r := by omega
  have HR := Lib.hid hrn
  clear hrn hn
  go_enter Try.func89, Try.ntmps89
  go_wp2
  go_ret
  exact ⟨rfl, by rw [HR.out]; rfl⟩

set_option maxRecDepth 100000 in
theorem at_any (w : World) (s b : Int) (h0 : 0 ≤ s) (h1 : s ≤ 1000) (h2 : 0 ≤ b) (h3 : b ≤ 1000) :
    Calls Try.prog 90 #[.agg #[.int .i64 s, .int .i64 b]] w fun e w' => Frm NoB w w' ∧ e = .returned (.int .i64 (1 + s * 61 + b)) := by
  go_enter Try.func90, Try.ntmps90
  go_wp2
  go_ret
  exact ⟨(Frm.refl _ _).alloc _, rfl⟩

set_option maxRecDepth 100000 in
theorem getN_any (w : World) (v : Value) (bs : List UInt8) (k : Nat) (hv : SliceOf w v bs) (hk : k ≤ 63) (hl : bs.length = 512) :
    Calls Try.prog 107 #[v, .int .i64 k] w fun e w' => w = w' ∧ e = .returned (.int .u64 (getLE bs (8 * k) 8)) := by
  have hk0 : (0 : Int) ≤ (k : Int) := Int.natCast_nonneg _
  have hk1 : (k : Int) ≤ 63 := by omega
  have HC := Lib.hid (bitsGet_any w v bs (8 * k) 8 hv (by omega) (by omega) (by omega) (by omega))
  obtain ⟨k8, hk8⟩ : ∃ k8 : Nat, 8 * k = k8 := ⟨_, rfl⟩
  rw [hk8] at HC ⊢
  have e1 : 8 * (k : Int) = (k8 : Int) := by omega
  clear hl hk8
  go_enter Try.func107, Try.ntmps107
  go_wp2_with fail
  refine HC.out.mono ?_
  rintro e w2 ⟨rfl, rfl⟩
  go_wp2
  go_ret
  exact ⟨rfl, rfl⟩
end Go.Proofs.Ytkanfpmmgaipnaa
