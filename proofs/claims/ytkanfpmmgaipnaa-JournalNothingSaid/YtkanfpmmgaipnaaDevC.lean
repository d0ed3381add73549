/-
  The device's Read, Blocks, Ops, Cut.
-/
import Derived.Test.YtkanfpmmgaipnaaDevB
namespace Go.Proofs.Ytkanfpmmgaipnaa
open Go.ChangeMaps Go.MapKept Go.RowKit

/-- A new block of bytes. -/
def bytesObj (bs : List UInt8) : Obj := .cells (bs.map B8).toArray 5 (0, 0)

/-- 512 cells of noughts, as make lays them. -/
def zc : Array Value := madeCells #[.int .u8 0] 512

theorem infoU8 : (Try.prog.info? 5).map (fun i => (i.zero, i.size, i.bytes)) = some (some (.int .u8 0), 1, 1) := by kernel_rfl

theorem madeCells_one (v : Value) (n : Nat) : (madeCells #[v] n).toList = List.replicate n v := by
  apply List.ext_getElem
  · simp [size_madeCells]
  · intro i h1 h2
    simp [madeCells, Nat.mod_one]

theorem zc_toList : zc.toList = List.replicate 512 (.int .u8 0) := madeCells_one _ _

theorem zc_size : zc.size = 512 := size_madeCells _ _

theorem zc_eq : zc = (zeros.map B8).toArray := by
  apply Array.toList_inj.1
  rw [zc_toList]
  unfold zeros
  rw [List.map_replicate]
  rfl

theorem run_make512 (W : World) : (Instr.makeSlice 31 (.int .i64 512) (.int .i64 512)).run Try.prog W = .ok (.slice (some ⟨W.heap.size, 0, none⟩) 512 512) (W.alloc (.cells zc 5 (0, 0))) := by
  obtain ⟨i0, hi0, hz0, hz1, hz2⟩ := info_parts infoU8
  have := run_make (P := Try.prog) W 31 5 i0 _ Try.underlying31 hi0 hz0 .i64 .i64 512 512 (by omega) (by omega) (by rw [hz2]; omega) (by omega)
  rw [hz1] at this
  exact this

theorem setRow_alloc (w : World) (c cs : Array Value) (e : TypeId) (f : Nat × Nat) : (w.alloc (.cells c e f)).setRow w.heap.size cs = w.alloc (.cells cs e f) := by
  simp only [World.setRow, World.alloc]
  congr 1
  apply Array.ext
  · simp
  · intro i h1 h2
    simp only [Array.getElem_modify, Array.getElem_push]
    by_cases hi : w.heap.size = i
    · subst hi; simp
    · have : i < w.heap.size := by simp at h2; omega
      simp [this, hi]

theorem BytesAt.cells {w : World} {v : Value} {bs : List UInt8} {R : Nat → Prop} (h : BytesAt w v bs R) : ∃ blk off cap, v = .slice (some ⟨blk, off, none⟩) bs.length cap ∧ bs.length ≤ cap ∧
    (∀ j u, (bs.map B8)[j]? = some u → w.cell? ((⟨blk, off, none⟩ : Addr).add j) = some u) ∧ R blk := by
  obtain ⟨blk, off, cap, c, h1, h2, h3, h4, h5⟩ := h
  refine ⟨blk, off, cap, h1, h2, fun j u hj => ?_, h5⟩
  have hl : j < bs.length := by
    have := (List.getElem?_eq_some_iff.1 hj).1
    simpa using this
  have h6 := h4 j hl
  have : ((⟨blk, off, none⟩ : Addr).add j) = ⟨blk, off + j, none⟩ := by
    unfold Addr.add
    split
    · rename_i h0; subst h0; rfl
    · rfl
  rw [this, cell_of_block h3, h6]
  rw [List.getElem?_map, List.getElem?_eq_getElem hl] at hj
  rw [List.getD_eq_getElem?_getD, List.getElem?_eq_getElem hl]
  exact hj

theorem DevAt.keep {w w' : World} {h : Hdl} {D : DSt} {R : Nat → Prop} (H : DevAt w h D R) (hk : ∀ b, b < w.heap.size → h.M b ∨ R b → w'.heap[b]? = w.heap[b]?) : DevAt w' h D R := by
  obtain ⟨wf, ⟨left, hb, hl⟩, ⟨nf, f, Mf, f1, f2⟩, ⟨ng, g, Mg, g1, g2⟩, ⟨nm, m, Mm, m1, m2⟩, ap⟩ := H
  have hB : ∀ v bs, BytesAt w v bs R → BytesAt w' v bs R := fun v bs hv => hv.of_block (fun x c hx hc => hk x (lt_of_block hc) (.inr hx))
  refine ⟨wf, ⟨left, (hk _ (lt_of_block hb) (.inl (.inl rfl))).trans hb, hl⟩, ⟨nf, f, Mf.of_block (hk _ Mf.lt (.inl (.inr (.inl rfl)))), f1, fun k v h1 h2 => ?_⟩,
    ⟨ng, g, Mg.of_block (hk _ Mg.lt (.inl (.inr (.inr (.inl rfl))))), fun k i hi => ?_, g2⟩, ⟨nm, m, Mm.of_block (hk _ Mm.lt (.inl (.inr (.inr (.inr rfl))))), m1, m2⟩, ap⟩
  · obtain ⟨a, b, c⟩ := f2 k v h1 h2
    exact ⟨a, b, hB _ _ c⟩
  · obtain ⟨v, hv, c⟩ := g1 k i hi
    exact ⟨v, hv, hB _ _ c⟩

theorem DevAt.frm {w w' : World} {h : Hdl} {D : DSt} {R M : Nat → Prop} (H : DevAt w h D R) (hf : Frm M w w') (hm : ∀ x, x < w.heap.size → h.M x ∨ R x → ¬ M x) : DevAt w' h D R :=
  H.keep fun b hb hx => hf.block b hb (hm b hb hx)

theorem DevAt.alloc {w : World} {h : Hdl} {D : DSt} {R : Nat → Prop} (H : DevAt w h D R) (o : Obj) : DevAt (w.alloc o) h D R :=
  H.keep fun b hb _ => Below.heap_alloc w o b hb

theorem DevAt.drewN {w : World} {h : Hdl} {D : DSt} {R : Nat → Prop} (H : DevAt w h D R) (n : Nat) : DevAt (w.drewN n) h D R := H.keep fun _ _ _ => rfl

theorem DevAt.mono {w : World} {h : Hdl} {D : DSt} {R R' : Nat → Prop} (H : DevAt w h D R) (hR : ∀ x, x < w.heap.size → R x → R' x) : DevAt w h D R' := by
  obtain ⟨wf, hb, ⟨nf, f, Mf, f1, f2⟩, ⟨ng, g, Mg, g1, g2⟩, hm, ap⟩ := H
  refine ⟨wf, hb, ⟨nf, f, Mf, f1, fun k v h1 h2 => ?_⟩, ⟨ng, g, Mg, fun k i hi => ?_, g2⟩, hm, ap⟩
  · obtain ⟨a, b, c⟩ := f2 k v h1 h2
    exact ⟨a, b, c.mono hR⟩
  · obtain ⟨v, hv, c⟩ := g1 k i hi
    exact ⟨v, hv, c.mono hR⟩

theorem Read_far (w : World) (h : Hdl) (D : DSt) (R : Nat → Prop) (H : DevAt w h D R) (k : Int) (hk : k < 0 ∨ (D.n : Int) ≤ k) :
    Calls Try.prog 35 #[.pointer (some ⟨h.b, 0, none⟩), .int .i64 k] w fun e w' => w = w' ∧ e = .returned (.tuple #[.slice none 0 0, .int .i64 1]) := by
  obtain ⟨left, hb, _, _⟩ := H.blk
  obtain ⟨c0, _, _, _, _, _, _, _⟩ := devObj_cells h _ _ _ _ hb
  have HB := Lib.hid hb
  clear hb
  rcases hk with hk | hk
  · go_enter Try.func35, Try.ntmps35
    go_wp2
    go_ret2
    exact ⟨rfl, rfl⟩
  · by_cases h0 : k < 0
    · go_enter Try.func35, Try.ntmps35
      go_wp2
      go_ret2
      exact ⟨rfl, rfl⟩
    · have h0' : 0 ≤ k := by omega
      go_enter Try.func35, Try.ntmps35
      go_wp2
      go_ret2
      exact ⟨rfl, rfl⟩

theorem Read_nil (w : World) (k : Int) :
    Calls Try.prog 35 #[.pointer none, .int .i64 k] w fun e w' => w = w' ∧ e = .returned (.tuple #[.slice none 0 0, .int .i64 1]) := by
  go_enter Try.func35, Try.ntmps35
  go_wp2
  go_ret2
  exact ⟨rfl, rfl⟩

theorem Read_any (w : World) (h : Hdl) (D : DSt) (R : Nat → Prop) (H : DevAt w h D R) (k : Int) (h0 : 0 ≤ k) (hk : k < D.n) (ho : D.ops < 4611686018427387904) :
    Calls Try.prog 35 #[.pointer (some ⟨h.b, 0, none⟩), .int .i64 k] w fun e w' =>
      w' = w.alloc (bytesObj (D.last k.toNat)) ∧ e = .returned (.tuple #[.slice (some ⟨w.heap.size, 0, none⟩) 512 512, .int .i64 0]) := by
  have hlen := DSt.last_length H.wf k.toNat
  obtain ⟨left, hb, _, _⟩ := H.blk
  obtain ⟨c0, _, _, _, _, _, _, _⟩ := devObj_cells h _ _ _ _ hb
  have hbl := lt_of_block hb
  have HB := Lib.hid hb
  have HL := Lib.hid hlen
  clear hb hlen
  have hmk := run_make512
  have H1 := H.alloc (.cells zc 5 (0, 0))
  have HC := Lib.hid (last_any _ h D R H1 k h0 hk ho)
  clear H1
  go_enter Try.func35, Try.ntmps35
  go_wp2_with fail
  refine HC.out.mono ?_
  rintro e w' ⟨rfl, v, rfl, hv, _⟩
  clear hmk
  rcases hv with ⟨rfl, hz⟩ | hv
  · have hcp := fun W => run_copy_nil (P := Try.prog) W 31 31 3 5 ⟨w.heap.size, 0, none⟩ 512 512 Try.underlying31 (by kernel_rfl)
    have HZ := Lib.hid hz
    clear hz
    go_wp2
    go_ret2
    exact ⟨by rw [HZ.out, zc_eq]; rfl, rfl⟩
  · obtain ⟨blk, off, cap, rfl, hcap, hcell, _⟩ := hv.cells
    rw [HL.out] at hcap ⊢
    have hcp := run_copy_row (P := Try.prog) (w.alloc (.cells zc 5 (0, 0))) 31 31 3 5 w.heap.size 0 512 512 ⟨blk, off, none⟩ 512 cap zc 5 ((D.last k.toNat).map B8)
      Try.underlying31 (by kernel_rfl) (block_alloc_new _ _) (by rw [List.length_map, HL.out]; rfl) hcell (by rw [List.length_map, HL.out, zc_size]; omega) (by intro u hu; obtain ⟨x, _, rfl⟩ := List.mem_map.1 hu; rfl)
    have e1 : (zc.toList.take 0 ++ (D.last k.toNat).map B8 ++ zc.toList.drop (0 + ((D.last k.toNat).map B8).length)).toArray = ((D.last k.toNat).map B8).toArray := by
      have hz : zc.toList.length = 512 := by rw [Array.length_toList]; exact zc_size
      rw [List.take_zero, List.nil_append, List.drop_of_length_le (by rw [hz, List.length_map, HL.out]; omega), List.append_nil]
    rw [e1, setRow_alloc, List.length_map, HL.out] at hcp
    have HV := Lib.hid hv
    clear hv hcell e1
    go_wp2
    go_ret2
    exact ⟨rfl, rfl⟩
end Go.Proofs.Ytkanfpmmgaipnaa
