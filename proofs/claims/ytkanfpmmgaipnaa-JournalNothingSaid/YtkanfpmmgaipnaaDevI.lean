/-
  maps.Copy of a map of blocks.
-/
import Derived.Test.YtkanfpmmgaipnaaDevG
import Derived.Test.YtkanfpmmgaipnaaLib2
namespace Go.Proofs.Ytkanfpmmgaipnaa
open Go.ChangeMaps Go.MapKept Go.RowKit

def CopyRel (w : World) (bd bs n : Nat) (f0 f : Int → Option Value) (wr : World) : Prop :=
  ∃ (left : Int → Prop) (cnt n' : Nat) (f' : Int → Option Value), RangeAt IntK okI wr bs w.heap.size n f left cnt ∧ MapAt IntK okI wr bd n' f' ∧
    (∀ a, okI a → left a → f' a = f0 a) ∧ (∀ a, okI a → ¬ left a → f' a = (f a).or (f0 a)) ∧ Frm (Only bd) w wr

theorem mapsCopy_any (w : World) (bd bs n0 n : Nat) (f0 f : Int → Option Value) (hd : MapAt IntK okI w bd n0 f0) (hs : MapAt IntK okI w bs n f) (hne : bd ≠ bs) :
    Calls Try.prog 72 #[.map (some bd), .map (some bs)] w fun e w' =>
      e = .returned (.tuple #[]) ∧ (∃ n', MapAt IntK okI w' bd n' (fun a => (f a).or (f0 a))) ∧ Frm (Only bd) w w' := by
  have hbd := hd.lt
  have HD := Lib.hid hd
  clear hd
  go_enter Try.func72, Try.ntmps72
  go_wp2_with (at_range; refine wpList_range_at rfl _ 109 rfl 3 31 Try.underlying109 rfl hs ?_; intro o' hrg)
  go_frame
  go_loopw [4, 5] (fun _ _ wr => CopyRel w bd bs n f0 f wr) (fun _ _ wr => wr.rangeLeft bs w.heap.size)
  case atStart =>
    refine ⟨_, _, n0, f0, hrg, HD.out.of_block (Below.heap_alloc _ _ _ hbd), fun _ _ _ => rfl, fun a _ hna => ?_, (Frm.refl _ _).alloc _⟩
    have : f a = none := by
      cases hf : f a with
      | none => rfl
      | some v => rw [hf] at hna; exact absurd rfl hna
    rw [this]; rfl
  case round =>
    clear hrg
    obtain ⟨left, cnt, n', f', hrg, hm', hl1, hl2, hfr⟩ := hrel
    have HL1 := Lib.hid hl1
    have HL2 := Lib.hid hl2
    have HFR := Lib.hid hfr
    clear hl1 hl2 hfr
    go_wp2_with (at_next; refine wpList_next_at rfl _ rfl kindInt rfl hrg ?_ ?_)
    · intro hno
      have FIN : ∃ n', MapAt IntK okI wr bd n' (fun a => (f a).or (f0 a)) := ⟨n', hm'.congr fun a ha => (HL2.out a ha (hno a ha)).symm⟩
      have HFIN := Lib.hid FIN
      clear FIN hno
      go_wp2
      go_end0
      exact ⟨rfl, HFIN.out, HFR.out⟩
    · intro x v w2 cnt' hokx hlx hfx hrg2 hlt hf2 hs2 hen
      have hbr : bd ≠ w.heap.size := by omega
      have hm2 : MapAt IntK okI w2 bd n' f' := hm'.frm hf2 hbr
      obtain ⟨o3, u1, u2⟩ := hm2.update kindInt Try.underlying109 hokx v
      have u1' := u1 w2 rfl
      have hrg4 : RangeAt IntK okI (setBlock w2 bd o3) bs w.heap.size n f (fun y => left y ∧ y ≠ x) cnt' := hrg2.of_blocks (block_setBlock_other _ rfl (Ne.symm hne)) (block_setBlock_other _ rfl (Ne.symm hbr))
      have REL : CopyRel w bd bs n f0 f (setBlock w2 bd o3) := by
        refine ⟨_, cnt', _, _, hrg4, u2 w2 hm2.lt, fun a ha hl => ?_, fun a ha hl => ?_, ?_⟩
        · unfold upd
          rw [if_neg hl.2]
          exact HL1.out a ha hl.1
        · unfold upd
          by_cases hax : a = x
          · subst hax; rw [if_pos rfl, hfx]; rfl
          · rw [if_neg hax]
            exact HL2.out a ha (fun h => hl ⟨h, hax⟩)
        · exact (HFR.out.trans hf2 (fun y hy e => by have e' : y = w.heap.size := e; omega)).setBlock (.inl rfl) _
      have HREL := Lib.hid REL
      have HR4 := Lib.hid hrg4
      have HRG := Lib.hid hrg
      have HLT := Lib.hid hlt
      clear REL hrg4 hrg hlt u1 u2 hm2 hf2 hs2 hlx hfx hrg2
      go_wp2
      go_roundw
      case rel => first | exact HREL.out | ((repeat apply Exists.intro); exact ⟨HREL.out, rfl⟩)
      case measure => rw [HR4.out.left_eq, HRG.out.left_eq]; exact HLT.out
end Go.Proofs.Ytkanfpmmgaipnaa
