/-
  bollardlaw3: in, does, same.
-/
import Derived.Test.YtkanfpmmgaipnaaTlwO
import Derived.Test.YtkanfpmmgaipnaaTlwM
import Derived.Test.YtkanfpmmgaipnaaM1
namespace Go.Proofs.Ytkanfpmmgaipnaa
set_option linter.unusedVariables false
set_option linter.unusedSimpArgs false
open Go.ChangeMaps Go.MapKept Go.RowKit

def In3 (n : Int) (len : Nat) (e : Ending) : Prop := ∃ b, e = .returned (.bool b) ∧ (b = true → n ≤ 40 ∧ len ≤ 80)

theorem in3_any (w : World) (n : Int) (hn : okI n) (v : Value) (l : List Ply) (hv : Plays w v l) (hl : l.length ≤ maxLen) :
    Calls Try.prog 41 #[.int .i64 n, v] w fun e w' => w = w' ∧ In3 n l.length e := by
  obtain ⟨a, cap, rfl, hcell⟩ := hv
  have hl2 : ((l.length : Nat) : Int) ≤ 9223372036854775807 := by unfold maxLen at hl; omega
  have HC := Lib.hid hcell
  have hn' := (okI_iff n).1 hn
  obtain ⟨hn1, hn2⟩ := hn'
  clear hcell hn hl
  go_enter Try.func41, Try.ntmps41
  go_wp2_with fail
  go_loop [5, 6] (fun t5 t6 => ∃ (z : Int) (i : Nat), t5 = .int .i64 z ∧ i ≤ l.length ∧ t6 = .int .i64 i) (fun _ t6 => l.length - (intOf t6).toNat)
  case atStart => exact ⟨0, 0, rfl, Nat.zero_le _, rfl⟩
  case round =>
    obtain ⟨z, i, rfl, hi, rfl⟩ := hrel
    have hi0 : (0 : Int) ≤ (i : Int) := Int.natCast_nonneg _
    by_cases hlt : i < l.length
    · have hi1 : (i : Int) < (l.length : Int) := by omega
      obtain ⟨p, hp⟩ : ∃ p, l[i]? = some p := ⟨_, List.getElem?_eq_getElem hlt⟩
      obtain ⟨gb, go, u, rfl, _, c0, c1, c2, c3, hu⟩ := HC.out i p hp
      obtain ⟨ua, uc, rfl, -⟩ := hu
      rw [List.length_map] at c3
      clear c0 c1 c2 hp
      go_wp2
      go_round
      case rel => exact ⟨_, i + 1, rfl, hlt, by go_num⟩
      case measure => simp [intOf]; omega
    · have hi1 : ¬ (i : Int) < (l.length : Int) := by omega
      by_cases h1 : n ≤ 40
      · by_cases h2 : ((l.length : Nat) : Int) ≤ 80
        · by_cases h3 : z ≤ 500
          · go_wp2
            go_ret
            exact ⟨rfl, _, rfl, fun _ => ⟨h1, by omega⟩⟩
          · go_wp2
            go_ret
            exact ⟨rfl, _, rfl, fun e => by simp at e⟩
        · go_wp2
          go_ret
          exact ⟨rfl, _, rfl, fun e => by simp at e⟩
      · go_wp2
        go_ret
        exact ⟨rfl, _, rfl, fun e => by simp at e⟩

/-- The device behind a step. -/
def stepD (D : DSt) (p : Ply) : DSt :=
  if p.1 = 1 then D.write p.2.1 (blockOf p.2.2.1)
  else if p.1 = 2 then D.flush
  else if p.1 = 3 then D.cut p.2.1
  else if p.1 = 4 then D.crash p.2.2.2
  else if p.1 = 5 then D
  else if p.1 = 6 then D.write 0 (List.replicate (p.2.1 % 600).toNat 0)
  else D

theorem write_ops (D : DSt) (k : Int) (b : Blk) : (D.write k b).ops = D.ops + 1 := by
  unfold DSt.write
  split
  · rfl
  · split <;> rfl

theorem write_n (D : DSt) (k : Int) (b : Blk) : (D.write k b).n = D.n := by
  unfold DSt.write
  split
  · rfl
  · split <;> rfl

theorem stepD_n (D : DSt) (p : Ply) : (stepD D p).n = D.n := by
  unfold stepD
  split
  · exact write_n _ _ _
  split
  · unfold DSt.flush; split <;> rfl
  split
  · rfl
  split
  · rfl
  split
  · rfl
  split
  · exact write_n _ _ _
  · rfl

theorem stepD_ops (D : DSt) (p : Ply) : (stepD D p).ops ≤ D.ops + 1 := by
  unfold stepD
  split
  · exact Nat.le_of_eq (write_ops _ _ _)
  split
  · unfold DSt.flush; split <;> exact Nat.le_refl _
  split
  · exact Nat.le_succ _
  split
  · exact Nat.zero_le _
  split
  · exact Nat.le_succ _
  split
  · exact Nat.le_of_eq (write_ops _ _ _)
  · exact Nat.le_succ _

theorem stepD_wf {D : DSt} (h : D.Wf) (p : Ply) : (stepD D p).Wf := by
  unfold stepD
  split
  · exact DSt.write_wf h _ _
  split
  · exact DSt.flush_wf h
  split
  · exact DSt.cut_wf h _
  split
  · exact DSt.crash_wf h _
  split
  · exact h
  split
  · exact DSt.write_wf h _ _
  · exact h

section
variable {w0 : Gnd} {w : World} {rs : List Res}

/-- The device's Write, whatever is written. -/
theorem S_dWrite (h : St w0 w rs) (i j : Nat) {H : Hdl} {D : DSt} {v : Value} {bs : Blk} (hr : rs[i]? = some (dev H D)) (hv : rs[j]? = some (byt v bs)) (k : Int) (ho : D.ops < 4611686018427387904) (hl : bs.length ≤ 1000000) :
    Calls Try.prog 31 #[.pointer (some ⟨H.b, 0, none⟩), .int .i64 k, v] w fun e w' => e = .returned (.int .i64 (D.writeE k bs)) ∧ St w0 w' (rs.set i (dev H (D.write k bs))) := by
  cases hoff : D.off with
  | true =>
    rw [show D.writeE k bs = 9 from by unfold DSt.writeE; rw [hoff]; rfl, show D.write k bs = D.op from by unfold DSt.write; rw [hoff]; rfl]
    exact S_WriteOff h i hr k v ho hoff
  | false =>
    by_cases hm : 0 ≤ k ∧ k < D.n ∧ bs.length = 512
    · have e : D.may k bs = true := decide_eq_true hm
      rw [show D.writeE k bs = 0 from by unfold DSt.writeE; rw [hoff, e]; rfl, show D.write k bs = D.op.put k.toNat bs from by unfold DSt.write; rw [hoff, e]; rfl]
      exact S_Write h i j hr hv k ho hoff hm.1 hm.2.1 hm.2.2
    · have e : D.may k bs = false := decide_eq_false hm
      rw [show D.writeE k bs = 1 from by unfold DSt.writeE; rw [hoff, e]; rfl, show D.write k bs = D.op from by unfold DSt.write; rw [hoff, e]; rfl]
      obtain ⟨blk, off, cap, rfl, _⟩ := (show BytesAt w v bs AnyB from h.get hv).cells
      exact (Write_arg w H D (Off w0.Z) (h.get hr) ho hoff k _ _ cap (by omega) (by omega)).mono fun _ _ ⟨a, hd, hf⟩ => ⟨a, h.write i hr hf (dev H _) hd (fun _ h => .inl h)⟩

theorem S_dFlush (h : St w0 w rs) (i : Nat) {H : Hdl} {D : DSt} (hr : rs[i]? = some (dev H D)) (ho : D.ops < 4611686018427387903) :
    Calls Try.prog 33 #[.pointer (some ⟨H.b, 0, none⟩)] w fun e w' => e = .returned (.int .i64 D.flushE) ∧ St w0 w' (rs.set i (dev H D.flush)) := by
  cases hoff : D.off with
  | true =>
    rw [show D.flushE = 9 from by unfold DSt.flushE; rw [hoff]; rfl, show D.flush = D.op from by unfold DSt.flush; rw [hoff]; rfl]
    exact S_FlushOff h i hr (by omega) hoff
  | false =>
    rw [show D.flushE = 0 from by unfold DSt.flushE; rw [hoff]; rfl, show D.flush = D.op.flushed from by unfold DSt.flush; rw [hoff]; rfl]
    exact S_Flush h i hr ho hoff
end
end Go.Proofs.Ytkanfpmmgaipnaa
