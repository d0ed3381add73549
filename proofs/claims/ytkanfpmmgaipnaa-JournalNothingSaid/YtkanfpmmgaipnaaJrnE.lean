/-
  Format's closures.
-/
import Derived.Test.YtkanfpmmgaipnaaJrnD
namespace Go.Proofs.Ytkanfpmmgaipnaa
set_option linter.unusedVariables false
open Go.ChangeMaps Go.MapKept Go.RowKit

theorem neDp : (24 : TypeId) ≠ 5 := by decide

theorem S_Zero {w0 w : World} {rs : List Res} (h : St w0 w rs) : St w0 (w.alloc (.cells zc 5 (0, 0))) (byt (.slice (some ⟨w.heap.size, 0, none⟩) 512 512) zeros :: rs) := by
  have h1 := h.make ((Frm.refl NoB w).alloc (bytesObj zeros)) (byt (.slice (some ⟨w.heap.size, 0, none⟩) 512 512) zeros) (block_at w zeros zeros_length) (fun _ h => h.elim)
  rw [show bytesObj zeros = .cells zc 5 (0, 0) from by unfold bytesObj; rw [zc_eq]] at h1
  exact h1

set_option maxRecDepth 100000 in
theorem S_fmt1 {w0 w : World} {rs : List Res} (h : St w0 w rs) (a i j : Nat) {H : Hdl} {D : DSt} {bd bi k : Nat} {ht : (24 : TypeId) ≠ 5} {ht' : (3 : TypeId) ≠ 5} (hr : rs[a]? = some (dev H D)) (hd : rs[i]? = some (arr bd #[.pointer (some ⟨H.b, 0, none⟩)] 24 ht))
    (hi : rs[j]? = some (arr bi #[.int .i64 k] 3 ht')) (hk : k ≤ 3) (hn : 246 ≤ D.n) (ho : D.ops < 4611686018427387904) (hoff : D.off = false) (hia : i ≠ a) (hja : j ≠ a) :
    Calls Try.prog 95 #[.pointer (some ⟨bd, 0, none⟩), .pointer (some ⟨bi, 0, none⟩)] w fun e w' => e = .returned (.int .i64 0) ∧ St w0 w' (rs.set a (dev H (D.op.put (1 + 61 * k) zeros))) := by
  have H0 := Lib.hid h
  have c1 : w.cell? ⟨bd, 0, none⟩ = some (.pointer (some ⟨H.b, 0, none⟩)) := (h.arrCell hd 0).trans rfl
  have c2 : w.cell? ⟨bi, 0, none⟩ = some (.int .i64 k) := (h.arrCell hi 0).trans rfl
  have KA : Hid (∀ y, Frm NoB w y → y.cell? ⟨bd, 0, none⟩ = some (.pointer (some ⟨H.b, 0, none⟩)) ∧ y.cell? ⟨bi, 0, none⟩ = some (.int .i64 k)) := Lib.hid fun y hy =>
    ⟨((h.frm0 hy).arrCell hd 0).trans rfl, ((h.frm0 hy).arrCell hi 0).trans rfl⟩
  have KB : Hid (∀ y v X, St w0 y ((v :: rs).set (a + 1) X) → y.cell? ⟨bd, 0, none⟩ = some (.pointer (some ⟨H.b, 0, none⟩)) ∧ y.cell? ⟨bi, 0, none⟩ = some (.int .i64 k)) := Lib.hid fun y v X hy =>
    ⟨(hy.arrCell (i := i + 1) (by rw [List.getElem?_set_ne (by omega), List.getElem?_cons_succ]; exact hd) 0).trans rfl, (hy.arrCell (i := j + 1) (by rw [List.getElem?_set_ne (by omega), List.getElem?_cons_succ]; exact hi) 0).trans rfl⟩
  have hk0 : (0 : Int) ≤ (k : Int) := Int.natCast_nonneg _
  have hk1 : (k : Int) ≤ 3 := by omega
  have hmk := run_make512
  clear h
  go_enter Try.func95, Try.ntmps95
  go_wp2_with fail
  clear c1 c2
  go_region_held3 (fun y => y.cell? ⟨bd, 0, none⟩ = some (.pointer (some ⟨H.b, 0, none⟩)) ∧ y.cell? ⟨bi, 0, none⟩ = some (.int .i64 k))
    (first | exact hS5 | (refine KA.out _ ?_; first | assumption | exact (Frm.refl NoB w).drew | exact ((Frm.refl NoB w).alloc _).drew | exact (Frm.refl NoB w).alloc _ | exact Frm.alloc (by assumption) _ | exact ⟨rfl, rfl, rfl, Nat.le_refl _, fun _ _ _ => rfl⟩))
    (first
      | (go_at_call 90; refine (at_any w.drew (k : Int) 0 hk0 (by omega) (by omega) (by omega)).mono ?_; rintro e w3 ⟨hf3, rfl⟩; have hf3' : Frm NoB w w3 := ((Frm.refl NoB w).drew).trans hf3 (fun _ _ e => e))
      | (go_at_call 90; refine (at_any (w.alloc (.cells zc 5 (0, 0))).drew (k : Int) 0 hk0 (by omega) (by omega) (by omega)).mono ?_; rintro e w3 ⟨hf3, rfl⟩; have hf3' : Frm NoB w w3 := (((Frm.refl NoB w).alloc _).drew).trans hf3 (fun _ _ e => e); have hB := (S_Zero H0.out).frm0 (((Frm.refl NoB _).drew).trans hf3 (fun _ _ e => e)))
      | (go_at_call 31; refine (S_Write hB (a + 1) 0 hr rfl (1 + (k : Int) * 61) ho hoff (by omega) (by omega) zeros_length).mono ?_; rintro e w5 ⟨rfl, h5⟩; have hS5 := KB.out _ _ _ h5)
      | (go_at_call 31; refine (S_Write (S_Zero (H0.out.frm0 hf3')) (a + 1) 0 hr rfl (1 + (k : Int) * 61) ho hoff (by omega) (by omega) zeros_length).mono ?_; rintro e w5 ⟨rfl, h5⟩; have hS5 := KB.out _ _ _ h5))
  all_goals
   have e : ((1 + (k : Int) * 61)).toNat = 1 + 61 * k := by omega
   rw [e] at h5
   have H5 := Lib.hid (h5.drop 1)
   clear h5 hS5
   go_wp2
   go_ret
   exact ⟨rfl, H5.out⟩

theorem neU64 : (133 : TypeId) ≠ 5 := by decide

theorem elems_oneU (w : World) (n : Nat) : Elems (w.alloc (.cells #[.int .u64 (n : Int)] 133 (0, 0))) (.slice (some ⟨w.heap.size, 0, none⟩) 1 1) ([n].map U64) :=
  ⟨_, _, rfl, fun i x hx => by
    obtain ⟨h1, h2⟩ := List.getElem?_eq_some_iff.1 hx
    obtain rfl : i = 0 := by simpa using h1
    exact ⟨_, _, rfl, lt_of_block (block_alloc_new _ _), by rw [cell_of_block (block_alloc_new _ _), ← h2]; rfl⟩⟩

theorem S_laid1 {w0 w : World} {rs : List Res} (h : St w0 w rs) (n : Nat) (hn : n < 18446744073709551616) :
    Calls Try.prog 97 #[.string { data := #[66, 79, 76, 76, 65, 82, 68, 74] }, .slice (some ⟨w.heap.size, 0, none⟩) 1 1] (w.alloc (.cells #[.int .u64 (n : Int)] 133 (0, 0))) fun e w' => ∃ v, e = .returned v ∧ St w0 w' (byt v (laidB magicL [n]) :: rs) :=
  (laid_any _ { data := #[66, 79, 76, 76, 65, 82, 68, 74] } _ [n] (elems_oneU w n) (by decide) (by simp) (fun x hx => by simp at hx; omega)).mono fun _ _ ⟨hf, v, e, hb⟩ =>
    ⟨v, e, h.make (((Frm.refl NoB w).alloc _).trans hf (fun _ _ e => e)) (byt v _) hb (fun _ h => h.elim)⟩

set_option maxRecDepth 100000 in
theorem S_fmt2 {w0 w : World} {rs : List Res} (h : St w0 w rs) (a i j : Nat) {H : Hdl} {D : DSt} {bd bg g : Nat} {ht : (24 : TypeId) ≠ 5} {ht' : (133 : TypeId) ≠ 5} (hr : rs[a]? = some (dev H D)) (hd : rs[i]? = some (arr bd #[.pointer (some ⟨H.b, 0, none⟩)] 24 ht))
    (hi : rs[j]? = some (arr bg #[.int .u64 g] 133 ht')) (hg : g < 18446744073709551615) (hn : 246 ≤ D.n) (ho : D.ops < 4611686018427387904) (hoff : D.off = false) (hia : i ≠ a) (hja : j ≠ a) :
    Calls Try.prog 96 #[.pointer (some ⟨bd, 0, none⟩), .pointer (some ⟨bg, 0, none⟩)] w fun e w' => e = .returned (.int .i64 0) ∧ St w0 w' (rs.set a (dev H (D.op.put 0 (laidB magicL [g + 1])))) := by
  have H0 := Lib.hid h
  have KA : Hid (∀ y, Frm NoB w y → y.cell? ⟨bd, 0, none⟩ = some (.pointer (some ⟨H.b, 0, none⟩)) ∧ y.cell? ⟨bg, 0, none⟩ = some (.int .u64 g)) := Lib.hid fun y hy =>
    ⟨((h.frm0 hy).arrCell hd 0).trans rfl, ((h.frm0 hy).arrCell hi 0).trans rfl⟩
  have c1 := (KA.out w (Frm.refl _ _)).1
  have c2 := (KA.out w (Frm.refl _ _)).2
  have KB : Hid (∀ y v X, St w0 y ((v :: rs).set (a + 1) X) → y.cell? ⟨bd, 0, none⟩ = some (.pointer (some ⟨H.b, 0, none⟩)) ∧ y.cell? ⟨bg, 0, none⟩ = some (.int .u64 g)) := Lib.hid fun y v X hy =>
    ⟨(hy.arrCell (i := i + 1) (by rw [List.getElem?_set_ne (by omega), List.getElem?_cons_succ]; exact hd) 0).trans rfl, (hy.arrCell (i := j + 1) (by rw [List.getElem?_set_ne (by omega), List.getElem?_cons_succ]; exact hi) 0).trans rfl⟩
  have KC : Hid (∀ y v, St w0 y (v :: rs) → y.cell? ⟨bd, 0, none⟩ = some (.pointer (some ⟨H.b, 0, none⟩)) ∧ y.cell? ⟨bg, 0, none⟩ = some (.int .u64 g)) := Lib.hid fun y v hy =>
    ⟨(hy.arrCell (i := i + 1) hd 0).trans rfl, (hy.arrCell (i := j + 1) hi 0).trans rfl⟩
  have HGG := Lib.hid hg
  have hg0 : (0 : Int) ≤ (g : Int) := Int.natCast_nonneg _
  have hgw : IntKind.u64.wrap ((g : Int) + 1) = (g : Int) + 1 := u64_in (by omega) (by omega)
  clear h hg
  go_enter Try.func96, Try.ntmps96
  go_wp2_with fail
  clear c1 c2
  go_region_held3 (fun y => y.cell? ⟨bd, 0, none⟩ = some (.pointer (some ⟨H.b, 0, none⟩)) ∧ y.cell? ⟨bg, 0, none⟩ = some (.int .u64 g))
    (first | exact hS5 | exact hS4 | (refine KA.out _ ?_; first | assumption | exact (Frm.refl NoB w).drew | exact ((Frm.refl NoB w).drew).alloc _ | exact (Frm.refl NoB w).alloc _ | exact ⟨rfl, rfl, rfl, Nat.le_refl _, fun _ _ _ => rfl⟩))
    (first
      | (go_at_call 97; refine (S_laid1 (H0.out.frm0 ((Frm.refl NoB w).drew)) (g + 1) (by have := HGG.out; omega)).mono ?_; rintro e w3 ⟨v3, rfl, h3⟩; have hS4 := KC.out _ _ h3)
      | (go_at_call 31; refine (S_Write h3 (a + 1) 0 hr rfl 0 ho hoff (by omega) (by omega) (laidFrom_length _ _ _ (textBlk_length _ (by decide)) (by simp))).mono ?_; rintro e w5 ⟨rfl, h5⟩; have hS5 := KB.out _ _ _ h5))
  all_goals
   have H5 := Lib.hid (h5.drop 1)
   clear h5 hS5
   go_wp2
   go_ret
   exact ⟨rfl, H5.out⟩
end Go.Proofs.Ytkanfpmmgaipnaa
