/-
  first: what the journal's first block says.
-/
import Derived.Test.YtkanfpmmgaipnaaJrnC
namespace Go.Proofs.Ytkanfpmmgaipnaa
set_option linter.unusedVariables false
open Go.ChangeMaps Go.MapKept Go.RowKit

def magicL : List UInt8 := [66, 79, 76, 76, 65, 82, 68, 74]
def isMagic (b : Blk) : Bool := b.take 8 == magicL

set_option maxRecDepth 100000 in
/-- The first eight bytes of a slice of bytes, as a string. -/
theorem head_string {w : World} {blk off cap n : Nat} {bs : Blk} {R : Nat → Prop} (h : BytesAt w (.slice (some ⟨blk, off, none⟩) n cap) bs R) (hl : 8 ≤ bs.length) (c2 : Nat) :
    (convert 31 9 (.slice (some ⟨blk, off, none⟩) 8 c2)).run Try.prog w = .ok (.string ⟨(bs.take 8).toArray⟩) w := by
  have hlen : (bs.take 8).length = 8 := by rw [List.length_take]; omega
  obtain ⟨blk', off', cap', e, _, hc, _⟩ := h.cells
  injection e with e1 e2 e3
  injection e1 with e1
  injection e1 with e1 e4
  subst e1 e4
  have := run_convert_bytes_back (P := Try.prog) w 31 9 5 ⟨blk, off, none⟩ c2 (bs.take 8) Try.underlying31 (by kernel_rfl) (by kernel_rfl) (fun j hj => by
    refine hc j _ ?_
    rw [List.getElem?_map, List.getElem_take, List.getElem?_eq_getElem (by omega)]
    rfl)
  rw [hlen] at this
  exact this

set_option maxRecDepth 100000 in
theorem S_first {w0 w : World} {rs : List Res} (h : St w0 w rs) (i : Nat) {H : Hdl} {D : DSt} (hr : rs[i]? = some (dev H D)) (hn : 1 ≤ D.n) (ho : D.ops < 4611686018427387904) :
    Calls Try.prog 87 #[.pointer (some ⟨H.b, 0, none⟩)] w fun e w' => e = .returned (.tuple #[.int .u64 (getLE (D.last 0) 8 8), .bool (isMagic (D.last 0))]) ∧ St w0 w' rs := by
  have HL := Lib.hid (DSt.last_length (h.get hr).wf 0)
  have H0 := Lib.hid (S_Read h i hr 0 (by omega) (by omega) ho)
  clear h hr ho
  go_enter Try.func87, Try.ntmps87
  go_wp2_with fail
  refine H0.out.mono ?_
  clear hn
  rintro e w1 ⟨v, rfl, h⟩
  have H1 := Lib.hid (show St w0 w1 (byt v (D.last 0) :: rs) from h)
  clear h H0
  obtain ⟨blk, off, cap, rfl, hcap, _, _⟩ := (H1.out.get (i := 0) rfl).cells
  have hcap8 : 8 ≤ cap := by have := HL.out; omega
  have HG : Hid (∀ k, Calls Try.prog 107 #[.slice (some ⟨blk, off, none⟩) (D.last 0).length cap, .int .i64 1] (w1.drewN k) fun e w' => e = .returned (.int .u64 (getLE (D.last 0) 8 8)) ∧ w' = w1.drewN k) := Lib.hid fun k =>
    (getN_any (w1.drewN k) _ _ 1 (BytesAt.frm0 (H1.out.get (i := 0) rfl) ((Frm.refl NoB w1).drewN k)).sliceOf (by omega) HL.out).mono fun _ _ ⟨a, b⟩ => ⟨b, a.symm⟩
  have hst : ∀ k c2, (convert 31 9 (.slice (some ⟨blk, off, none⟩) 8 c2)).run Try.prog (w1.drewN k) = .ok (.string ⟨((D.last 0).take 8).toArray⟩) (w1.drewN k) := fun k c2 =>
    head_string (BytesAt.frm0 (H1.out.get (i := 0) rfl) ((Frm.refl NoB w1).drewN k)) (by rw [HL.out]; omega) c2
  have hl8 : 8 ≤ (D.last 0).length := by rw [HL.out]; omega
  generalize (D.last 0).length = n512 at *
  go_wp2_with fail
  go_quiet ((go_at_call 107; exact Calls.quiet_of_same (HG.out _)))
  go_wp2
  go_ret2
  exact ⟨rfl, (H1.out.frm0 ((Frm.refl NoB w1).drewN _)).drop 1⟩
end Go.Proofs.Ytkanfpmmgaipnaa
