/-
  The device's Copy.
-/
import Derived.Test.YtkanfpmmgaipnaaDevJ
namespace Go.Proofs.Ytkanfpmmgaipnaa
open Go.ChangeMaps Go.MapKept Go.RowKit

theorem cloneF_any (b : Nat) (es : Array MapEntry) (clock : Nat) (w : World) (hb : w.heap[b]? = some (.map es clock)) :
    Calls Try.prog 76 #[.map (some b)] w fun e w' => e = .returned (.map (some w.heap.size)) ∧ w' = w.alloc (.map es clock) := AnyW.maps_Clone Try.cloneF b es clock w hb
theorem cloneW_any (b : Nat) (es : Array MapEntry) (clock : Nat) (w : World) (hb : w.heap[b]? = some (.map es clock)) :
    Calls Try.prog 77 #[.map (some b)] w fun e w' => e = .returned (.map (some w.heap.size)) ∧ w' = w.alloc (.map es clock) := AnyW.maps_Clone Try.cloneW b es clock w hb
theorem cloneN_any (b : Nat) (es : Array MapEntry) (clock : Nat) (w : World) (hb : w.heap[b]? = some (.map es clock)) :
    Calls Try.prog 78 #[.map (some b)] w fun e w' => e = .returned (.map (some w.heap.size)) ∧ w' = w.alloc (.map es clock) := AnyW.maps_Clone Try.cloneN b es clock w hb

theorem Copy_nil (w : World) :
    Calls Try.prog 40 #[.pointer none] w fun e w' => e = .returned (.pointer (some ⟨w.heap.size, 0, none⟩)) ∧ w' = w.alloc (.cells #[.int .i64 0, .map none, .map none, .map none, .int .i64 0, .bool false, .int .i64 0] 112 (0, 0)) := by
  go_enter Try.func40, Try.ntmps40
  go_wp2
  go_ret
  exact ⟨rfl, rfl⟩

/-- A device of no blocks has none. -/
theorem Blocks_zero (w : World) (b : Nat) (r : List Value) (hb : w.heap[b]? = some (.cells ((Value.int .i64 0 :: r).toArray) 112 (0, 0))) :
    Calls Try.prog 37 #[.pointer (some ⟨b, 0, none⟩)] w fun e w' => w = w' ∧ e = .returned (.int .i64 0) := by
  have c0 : w.cell? ⟨b, 0, none⟩ = some (.int .i64 0) := by rw [cell_of_block hb]; rfl
  clear hb
  go_enter Try.func37, Try.ntmps37
  go_wp2
  go_ret
  exact ⟨rfl, rfl⟩

/-- As in the old world where that has blocks; and no smaller. -/
def AgS (w y : World) : Prop := Agree w y ∧ w.heap.size ≤ y.heap.size
theorem AgS.refl (w : World) : AgS w w := ⟨Agree.refl w, Nat.le_refl _⟩
theorem AgS.drew {w y : World} (h : AgS w y) : AgS w y.drew := h
theorem AgS.alloc {w y : World} (h : AgS w y) (o : Obj) : AgS w (y.alloc o) :=
  ⟨fun b hb => (Below.heap_alloc y o b (Nat.lt_of_lt_of_le hb h.2)).trans (h.1 b hb), by have := h.2; rw [size_alloc]; omega⟩
theorem AgS.setNew {w y : World} (h : AgS w y) (i : Nat) (v : Value) : AgS w (y.setCell ⟨w.heap.size, i, none⟩ v) :=
  ⟨fun b hb => (Below.heap_setCell y _ v b (by show b ≠ w.heap.size; omega)).trans (h.1 b hb), by have := h.2; simp [World.setCell]; omega⟩

set_option maxRecDepth 100000 in
theorem Copy_any (w : World) (h : Hdl) (D : DSt) (R : Nat → Prop) (H : DevAt w h D R) :
    Calls Try.prog 40 #[.pointer (some ⟨h.b, 0, none⟩)] w fun e w' => ∃ v, e = .returned v ∧ Made w D R v w' := by
  obtain ⟨wf, ⟨left, hb, hl, hokl⟩, ⟨nf, f, Mf, f1, f2⟩, ⟨ng, g, Mg, g1, g2⟩, ⟨nm, m, Mm, m1, m2⟩, ap⟩ := H
  obtain ⟨c0, c1, c2, c3, c4, c5, c6, _⟩ := devObj_cells h _ _ _ _ hb
  have hbl := lt_of_block hb
  obtain ⟨ef, kf, bf, rf⟩ := Mf
  obtain ⟨eg, kg, bg, rg⟩ := Mg
  obtain ⟨em, km, bm, rm⟩ := Mm
  have Hf := Lib.hid rf
  have Hg := Lib.hid rg
  have Hm := Lib.hid rm
  have Hbf := Lib.hid bf
  have Hbg := Lib.hid bg
  have Hbm := Lib.hid bm
  have HB := Lib.hid hb
  have HF1 := Lib.hid f1
  have HF2 := Lib.hid f2
  have HG1 := Lib.hid g1
  have HG2 := Lib.hid g2
  have HM1 := Lib.hid m1
  have HM2 := Lib.hid m2
  have HAP := Lib.hid ap
  have HL := Lib.hid hl
  have HBL := Lib.hid hbl
  have HW := Lib.hid wf
  clear rf rg rm bf bg bm hb f1 f2 g1 g2 m1 m2 ap hl wf
  go_enter Try.func40, Try.ntmps40
  go_wp2_with fail
  have KA : Hid (∀ y, AgS w y → y.cell? ⟨h.b, 1, none⟩ = some (.map (some h.fm)) ∧ y.cell? ⟨h.b, 2, none⟩ = some (.map (some h.wm)) ∧ y.cell? ⟨h.b, 3, none⟩ = some (.map (some h.mm))) := Lib.hid fun y hy =>
    ⟨by rw [← c1]; exact hy.1.cell hbl, by rw [← c2]; exact hy.1.cell hbl, by rw [← c3]; exact hy.1.cell hbl⟩
  have HCF : Hid (∀ y, AgS w y → Calls Try.prog 76 #[.map (some h.fm)] y fun e w' => e = .returned (.map (some y.heap.size)) ∧ w' = y.alloc (.map ef kf)) := Lib.hid fun y hy => cloneF_any _ _ _ y ((hy.1 _ (lt_of_block Hbf.out)).trans Hbf.out)
  have HCW : Hid (∀ y, AgS w y → Calls Try.prog 77 #[.map (some h.wm)] y fun e w' => e = .returned (.map (some y.heap.size)) ∧ w' = y.alloc (.map eg kg)) := Lib.hid fun y hy => cloneW_any _ _ _ y ((hy.1 _ (lt_of_block Hbg.out)).trans Hbg.out)
  have HCN : Hid (∀ y, AgS w y → Calls Try.prog 78 #[.map (some h.mm)] y fun e w' => e = .returned (.map (some y.heap.size)) ∧ w' = y.alloc (.map em km)) := Lib.hid fun y hy => cloneN_any _ _ _ y ((hy.1 _ (lt_of_block Hbm.out)).trans Hbm.out)
  go_region_held3 (fun y => y.cell? ⟨h.b, 1, none⟩ = some (.map (some h.fm)) ∧ y.cell? ⟨h.b, 2, none⟩ = some (.map (some h.wm)) ∧ y.cell? ⟨h.b, 3, none⟩ = some (.map (some h.mm)))
    (first | (refine KA.out _ ?_; (repeat (first | exact AgS.refl _ | refine AgS.drew ?_ | refine AgS.alloc ?_ _ | refine AgS.setNew ?_ _ _))))
    (first
      | (go_at_call 76; refine (HCF.out _ ?_).mono ?_; (repeat (first | exact AgS.refl _ | refine AgS.drew ?_ | refine AgS.alloc ?_ _ | refine AgS.setNew ?_ _ _)); rintro e w' ⟨rfl, rfl⟩)
      | (go_at_call 77; refine (HCW.out _ ?_).mono ?_; (repeat (first | exact AgS.refl _ | refine AgS.drew ?_ | refine AgS.alloc ?_ _ | refine AgS.setNew ?_ _ _)); rintro e w' ⟨rfl, rfl⟩)
      | (go_at_call 78; refine (HCN.out _ ?_).mono ?_; (repeat (first | exact AgS.refl _ | refine AgS.drew ?_ | refine AgS.alloc ?_ _ | refine AgS.setNew ?_ _ _)); rintro e w' ⟨rfl, rfl⟩))
  have FIN : Made w D R (.pointer (some ⟨w.heap.size, 0, none⟩)) (((((w.alloc (devObj ⟨w.heap.size, w.heap.size + 1, w.heap.size + 1 + 1, w.heap.size + 1 + 1 + 1⟩ D.n D.ops D.lim.isSome left)).alloc (.map ef kf)).alloc (.map eg kg)).alloc (.map em km)).drew) := by
    refine ⟨((((((Frm.refl NoB w).alloc _).alloc _).alloc _).alloc _).drew), ⟨w.heap.size, w.heap.size + 1, w.heap.size + 1 + 1, w.heap.size + 1 + 1 + 1⟩, rfl, ?_, ?_⟩
    · generalize hO : devObj ⟨w.heap.size, w.heap.size + 1, w.heap.size + 1 + 1, w.heap.size + 1 + 1 + 1⟩ D.n D.ops D.lim.isSome left = O
      have hA : AgS w (((((w.alloc O).alloc (.map ef kf)).alloc (.map eg kg)).alloc (.map em km)).drew) := (((((AgS.refl w).alloc _).alloc _).alloc _).alloc _).drew
      have hB : ∀ v bs, BytesAt w v bs R → BytesAt (((((w.alloc O).alloc (.map ef kf)).alloc (.map eg kg)).alloc (.map em km)).drew) v bs R := fun v bs hv => hv.of_block fun x c _ hc => hA.1 x (lt_of_block hc)
      have s1 : (w.alloc O).heap.size = w.heap.size + 1 := by simp
      have s2 : ((w.alloc O).alloc (.map ef kf)).heap.size = w.heap.size + 1 + 1 := by simp
      have s3 : (((w.alloc O).alloc (.map ef kf)).alloc (.map eg kg)).heap.size = w.heap.size + 1 + 1 + 1 := by simp
      have b0 : (((((w.alloc O).alloc (.map ef kf)).alloc (.map eg kg)).alloc (.map em km)).drew).heap[w.heap.size]? = some O :=
        block_alloc_old _ (block_alloc_old _ (block_alloc_old _ (block_alloc_new w O)))
      have b1 : (((((w.alloc O).alloc (.map ef kf)).alloc (.map eg kg)).alloc (.map em km)).drew).heap[w.heap.size + 1]? = some (.map ef kf) :=
        block_alloc_old _ (block_alloc_old _ (s1 ▸ block_alloc_new (w.alloc O) (.map ef kf)))
      have b2 : (((((w.alloc O).alloc (.map ef kf)).alloc (.map eg kg)).alloc (.map em km)).drew).heap[w.heap.size + 1 + 1]? = some (.map eg kg) :=
        block_alloc_old _ (s2 ▸ block_alloc_new ((w.alloc O).alloc (.map ef kf)) (.map eg kg))
      have b3 : (((((w.alloc O).alloc (.map ef kf)).alloc (.map eg kg)).alloc (.map em km)).drew).heap[w.heap.size + 1 + 1 + 1]? = some (.map em km) :=
        s3 ▸ block_alloc_new (((w.alloc O).alloc (.map ef kf)).alloc (.map eg kg)) (.map em km)
      generalize (((((w.alloc O).alloc (.map ef kf)).alloc (.map eg kg)).alloc (.map em km)).drew) = y at *
      subst hO
      refine ⟨HW.out, ⟨left, b0, HL.out, hokl⟩, ⟨nf, f, ⟨ef, kf, b1, Hf.out⟩, HF1.out, fun k v h1 h2 => ?_⟩, ⟨ng, g, ⟨eg, kg, b2, Hg.out⟩, fun k i hi => ?_, HG2.out⟩, ⟨nm, m, ⟨em, km, b3, Hm.out⟩, HM1.out, HM2.out⟩, ?_⟩
      · obtain ⟨a, b, c⟩ := HF2.out k v h1 h2
        exact ⟨a, b, hB _ _ c⟩
      · obtain ⟨v, hv, c⟩ := HG1.out k i hi
        exact ⟨v, hv, hB _ _ c⟩
      · refine ⟨?_, ?_, ?_, ?_, ?_, ?_⟩ <;> simp <;> omega
    · rintro x (rfl | rfl | rfl | rfl) <;> simp <;> omega
  have HFIN := Lib.hid FIN
  clear FIN
  unfold devObj at HFIN
  go_wp2
  go_ret
  exact ⟨_, rfl, HFIN.out⟩
end Go.Proofs.Ytkanfpmmgaipnaa
