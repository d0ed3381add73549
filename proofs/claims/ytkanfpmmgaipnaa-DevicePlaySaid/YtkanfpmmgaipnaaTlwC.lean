/-
  The reference's Read.
-/
import Derived.Test.YtkanfpmmgaipnaaTlwB
namespace Go.Proofs.Ytkanfpmmgaipnaa
set_option linter.unusedVariables false
open Go.ChangeMaps Go.MapKept Go.RowKit

section
variable {w0 : Gnd} {w : World} {rs : List Res}

set_option maxRecDepth 100000 in
theorem S_rRead {rb : Nat} {bv pv : Value} {ds : List Blk} {ps : List (Value × List Blk)} {N last : Int} {D : DSt} (h : St w0 w (refL rb bv pv ds ps N last ++ rs)) (hD : D.Wf) (hR : RefOk D ds ps last) (k : Nat) (hk : k < D.n) :
    Calls Try.prog 84 #[.pointer (some ⟨rb, 0, none⟩), .int .i64 k] w fun e w' => ∃ v, e = .returned (.tuple #[v, .int .i64 0]) ∧ Frm NoB w w' ∧ BytesAt w' v (D.last k) (Fresh w) := by
  obtain ⟨i0, hi0, hz0, hz1, hz2⟩ := info_parts infoU8
  obtain ⟨pk, hpk⟩ := hR.pend k hk
  have hbk := hR.base k hk
  obtain ⟨ab, cb, rfl⟩ := h.bsLen (i := 1) rfl
  obtain ⟨ap, cp0, rfl⟩ := h.pnLen
  obtain ⟨gb, u0, rfl, cu0, _, hu0⟩ := h.bsCell (i := 1) rfl hbk
  obtain ⟨gp, rfl, cpk, _⟩ := h.pnCell hpk
  have hin := h.pnGet hpk
  obtain ⟨aq, cq, rfl⟩ := h.bsLen hin
  have c0 : w.cell? ⟨rb, 0, none⟩ = some (.slice (some ⟨gb, 0, none⟩) ds.length cb) := (h.arrCell (i := 0) rfl 0).trans rfl
  have c1 : w.cell? ⟨rb, 1, none⟩ = some (.slice (some ⟨gp, 0, none⟩) ps.length cp0) := (h.arrCell (i := 0) rfl 1).trans rfl
  have hk0 : (0 : Int) ≤ (k : Int) := Int.natCast_nonneg _
  have hk1 : (k : Int) < (ds.length : Int) := by rw [hR.nb]; omega
  have hk2 : (k : Int) < (ps.length : Int) := by rw [hR.np]; omega
  have hk3 : ¬ (ds.length : Int) ≤ (k : Int) := by omega
  cases hp : D.pend k with
  | nil =>
    have hb512 : (D.base k).length = 512 := hD.base k
    have EQ2 : Hid (D.last k = D.base k) := Lib.hid (by unfold DSt.last; rw [hp]; rfl)
    rw [hp] at cpk hin
    have HB0 := Lib.hid hu0
    obtain ⟨bb, hbb⟩ : ∃ bb, D.base k = bb := ⟨_, rfl⟩
    rw [hbb] at HB0 EQ2 hb512
    clear h hR hD hpk hbk hu0 hin hp hbb hk
    go_enter Try.func84, Try.ntmps84
    obtain ⟨blk, off, cp, rfl, hcp, hcell, _⟩ := HB0.out.cells
    have hlt : blk < w.heap.size := by
      obtain ⟨b', o', c', cc, e, _, h3, _⟩ := HB0.out
      cases e
      exact h3.lt
    have HCL := Lib.hid hcell
    have HO := Lib.hid (World.ownsRow_nil w w.heap.size 5 1)
    have h1 : ∀ u ∈ bb.map B8, u.oneCell' = true := by intro u hu; obtain ⟨x, _, rfl⟩ := List.mem_map.1 hu; rfl
    have H512 := Lib.hid hb512
    have HPO : Hid (0 < bb.length) := Lib.hid (by omega)
    have hb1 : ((bb.length : Nat) : Int) ≤ 1000000 := by omega
    clear hcell hlt hb512
    go_wp2_with (at_builtin; refine wpList_append_own _ rfl _ _ 31 rfl w.heap.size 5 i0 (.int .u8 0) 1 1 Try.underlying31 hi0 hz0 hz1 hz2 rfl (by decide) _ _ _ rfl HO.out ⟨blk, off, none⟩ bb.length cp (bb.map B8) rfl ?paa HCL.out h1 ?pab ?pac ?pad ?_)
    try case paa => simp
    case pab => have := H512.out; simp only [maxLen]; omega
    case pac => have := H512.out; omega
    try case pad => simp
    intro v' w' ho hg hn
    have hne : v' ≠ .slice none 0 0 := fun e => absurd HPO.out (by rw [hn.mp e]; simp)
    have hb := BytesAt_of_owns (bs := bb) (by simpa using ho) hne
    have HB := Lib.hid hb
    have hf : Frm NoB w w' := (Frm.ofGrown hg).mono (fun x hx e => by simp [Value.ownBlock] at e)
    have HF := Lib.hid hf
    clear hb ho hg hn hne hf
    go_wp2
    go_ret2
    exact ⟨v', rfl, HF.out, by rw [EQ2.out]; exact HB.out⟩
  | cons a0 f0 =>
    obtain ⟨bl, hbl⟩ : ∃ bl, (D.pend k)[(D.pend k).length - 1]? = some bl := ⟨_, List.getElem?_eq_getElem (by rw [hp]; simp)⟩
    obtain ⟨gq, ul, e1, cul, _, hul⟩ := h.bsCell hin hbl
    subst e1
    have hb512 : bl.length = 512 := hD.pend k bl (List.mem_of_getElem? hbl)
    have EQ2 : Hid (D.last k = bl) := Lib.hid (by
      unfold DSt.last
      rw [List.getLastD_eq_getLast?, List.getLast?_eq_getElem?, hbl]; rfl)
    obtain ⟨n, hn⟩ : ∃ n, (D.pend k).length = n + 1 := ⟨f0.length, by rw [hp]; rfl⟩
    rw [hn] at cpk cul
    have cul : w.cell? ⟨gq, n, none⟩ = some ul := cul
    have hn0 : (0 : Int) ≤ (n : Int) := Int.natCast_nonneg _
    have hn1 : (n : Int) ≤ 1000 := by
      have := hD.few k
      have := hR.ops
      omega
    have HB0 := Lib.hid hul
    obtain ⟨un, hun⟩ : ∃ u, u0 = u := ⟨_, rfl⟩
    obtain ⟨blk0, off0, cp1, hu0e, _⟩ := hu0.cells
    subst hu0e
    clear h hR hD hpk hbk hu0 hin hp hbl hn hun un hk hul
    go_enter Try.func84, Try.ntmps84
    obtain ⟨blk, off, cp, rfl, hcp, hcell, _⟩ := HB0.out.cells
    have hlt : blk < w.heap.size := by
      obtain ⟨b', o', c', cc, e, _, h3, _⟩ := HB0.out
      cases e
      exact h3.lt
    have HCL := Lib.hid hcell
    have HO := Lib.hid (World.ownsRow_nil w w.heap.size 5 1)
    have h1 : ∀ u ∈ bl.map B8, u.oneCell' = true := by intro u hu; obtain ⟨x, _, rfl⟩ := List.mem_map.1 hu; rfl
    have H512 := Lib.hid hb512
    have HPO : Hid (0 < bl.length) := Lib.hid (by omega)
    have hb1 : ((bl.length : Nat) : Int) ≤ 1000000 := by omega
    clear hcell hlt hb512
    go_wp2_with (at_builtin; refine wpList_append_own _ rfl _ _ 31 rfl w.heap.size 5 i0 (.int .u8 0) 1 1 Try.underlying31 hi0 hz0 hz1 hz2 rfl (by decide) _ _ _ rfl HO.out ⟨blk, off, none⟩ bl.length cp (bl.map B8) rfl ?pba HCL.out h1 ?pbb ?pbc ?pbd ?_)
    try case pba => simp
    case pbb => have := H512.out; simp only [maxLen]; omega
    case pbc => have := H512.out; omega
    try case pbd => simp
    intro v' w' ho hg hn
    have hne : v' ≠ .slice none 0 0 := fun e => absurd HPO.out (by rw [hn.mp e]; simp)
    have hb := BytesAt_of_owns (bs := bl) (by simpa using ho) hne
    have HB := Lib.hid hb
    have hf : Frm NoB w w' := (Frm.ofGrown hg).mono (fun x hx e => by simp [Value.ownBlock] at e)
    have HF := Lib.hid hf
    clear hb ho hg hn hne hf
    go_wp2
    go_ret2
    exact ⟨v', rfl, HF.out, by rw [EQ2.out]; exact HB.out⟩
end
end Go.Proofs.Ytkanfpmmgaipnaa
