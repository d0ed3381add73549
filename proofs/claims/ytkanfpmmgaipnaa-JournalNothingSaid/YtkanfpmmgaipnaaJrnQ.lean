/-
  The closures of write.
-/
import Derived.Test.YtkanfpmmgaipnaaJrnP
namespace Go.Proofs.Ytkanfpmmgaipnaa
set_option linter.unusedVariables false
open Go.ChangeMaps Go.MapKept Go.RowKit

theorem neJp : (59 : TypeId) ≠ 5 := by decide
theorem neBs : (31 : TypeId) ≠ 5 := by decide

set_option maxRecDepth 100000 in
theorem S_wr1 {w0 w : World} {rs : List Res} (h : St w0 w rs) (a ij i1 i2 i3 i4 : Nat) {H : Hdl} {D : DSt} {jb bj bn bi bc n s i : Nat} {c : Array Value} {x : Int} {u : Value} {d : Blk} {t1 : (138 : TypeId) ≠ 5} {t2 : (59 : TypeId) ≠ 5}
    {t3 : (133 : TypeId) ≠ 5} {t4 : (3 : TypeId) ≠ 5} {t5 : (64 : TypeId) ≠ 5}
    (hr : rs[a]? = some (dev H D)) (hj : rs[ij]? = some (arr jb c 138 t1)) (hc0 : c[0]? = some (.pointer (some ⟨H.b, 0, none⟩))) (h1 : rs[i1]? = some (arr bj #[.pointer (some ⟨jb, 0, none⟩)] 59 t2))
    (h2 : rs[i2]? = some (arr bn #[.int .u64 n] 133 t3)) (h3 : rs[i3]? = some (arr bi #[.int .i64 i] 3 t4)) (h4 : rs[i4]? = some (arr bc #[.int .i64 x, u] 64 t5))
    (hu : BytesAt w u d AnyB) (hd : d.length = 512) (hn : n < 18446744073709551616) (hs : n % 4 = s) (hi : i < 60) (hD : 246 ≤ D.n) (ho : D.ops < 2000000000)
    (q1 : ij ≠ a) (q2 : i1 ≠ a) (q3 : i2 ≠ a) (q4 : i3 ≠ a) (q5 : i4 ≠ a) :
    Calls Try.prog 114 #[.pointer (some ⟨bj, 0, none⟩), .pointer (some ⟨bn, 0, none⟩), .pointer (some ⟨bi, 0, none⟩), .pointer (some ⟨bc, 0, none⟩)] w (OpsRet w0 rs a H [.wr (slotB s + 1 + i) d] D) := by
  have H0 := Lib.hid h
  have HS : Hid (∀ W, Calls Try.prog 89 #[.int .u64 n] W fun e w' => e = .returned (.int .i64 s) ∧ w' = W) := Lib.hid fun W => slot_is W n s hn hs
  have hs4 : s < 4 := by omega
  have hs5 : (0 : Int) ≤ (s : Int) := Int.natCast_nonneg _
  have hs6 : (s : Int) ≤ 1000 := by omega
  obtain ⟨j, hjj⟩ : ∃ j : Int, (i : Int) + 1 = j := ⟨_, rfl⟩
  have b1 : 0 ≤ j := by omega
  have b2 : j ≤ 1000 := by omega
  have b4 : 0 ≤ 1 + (s : Int) * 61 + j := by omega
  have b5 : 1 + (s : Int) * 61 + j < (D.n : Int) := by omega
  have b6 : (1 + (s : Int) * 61 + j).toNat = slotB s + 1 + i := by unfold slotB; omega
  have B6 := Lib.hid b6
  have HO : Hid (D.ops < 4611686018427387904) := Lib.hid (by omega)
  have hwr : IntKind.i64.wrap ((i : Int) + 1) = j := by rw [IntWalk.i64_in _ (by omega)]; exact hjj
  have cells : ∀ y rs', (∀ i, i ≠ a + 1 → rs'[i]? = (byt u d :: rs)[i]?) → St w0 y rs' → y.cell? ⟨bj, 0, none⟩ = some (.pointer (some ⟨jb, 0, none⟩)) ∧ y.cell? ⟨jb, 0, none⟩ = some (.pointer (some ⟨H.b, 0, none⟩)) ∧ y.cell? ⟨bn, 0, none⟩ = some (.int .u64 n) ∧ y.cell? ⟨bi, 0, none⟩ = some (.int .i64 i) ∧ y.cell? ⟨bc, 1, none⟩ = some u := fun y rs' he hy =>
    ⟨(hy.arrCell (i := i1 + 1) ((he _ (by omega)).trans h1) 0).trans rfl, (hy.arrCell (i := ij + 1) ((he _ (by omega)).trans hj) 0).trans hc0, (hy.arrCell (i := i2 + 1) ((he _ (by omega)).trans h2) 0).trans rfl, (hy.arrCell (i := i3 + 1) ((he _ (by omega)).trans h3) 0).trans rfl, (hy.arrCell (i := i4 + 1) ((he _ (by omega)).trans h4) 1).trans rfl⟩
  have H1 := Lib.hid (h.make (Frm.refl _ _) (byt u d) hu (fun _ h => h.elim))
  have KA : Hid (∀ y, Frm NoB w y → y.cell? ⟨bj, 0, none⟩ = some (.pointer (some ⟨jb, 0, none⟩)) ∧ y.cell? ⟨jb, 0, none⟩ = some (.pointer (some ⟨H.b, 0, none⟩)) ∧ y.cell? ⟨bn, 0, none⟩ = some (.int .u64 n) ∧ y.cell? ⟨bi, 0, none⟩ = some (.int .i64 i) ∧ y.cell? ⟨bc, 1, none⟩ = some u) := Lib.hid fun y hy => cells y _ (fun _ _ => rfl) (H1.out.frm0 hy)
  have KB : Hid (∀ y X, St w0 y ((byt u d :: rs).set (a + 1) X) → y.cell? ⟨bj, 0, none⟩ = some (.pointer (some ⟨jb, 0, none⟩)) ∧ y.cell? ⟨jb, 0, none⟩ = some (.pointer (some ⟨H.b, 0, none⟩)) ∧ y.cell? ⟨bn, 0, none⟩ = some (.int .u64 n) ∧ y.cell? ⟨bi, 0, none⟩ = some (.int .i64 i) ∧ y.cell? ⟨bc, 1, none⟩ = some u) := Lib.hid fun y X hy => cells y _ (fun i hi => List.getElem?_set_ne (Ne.symm hi)) hy
  obtain ⟨c1, c2, c3, c4, c5⟩ := KA.out w (Frm.refl _ _)
  have HR := Lib.hid hr
  have HDL := Lib.hid hd
  clear h hr hj hc0 h1 h2 h3 h4 hu hd hn hs hi hD ho cells hjj b6 q1 q2 q3 q4 q5 hs4
  go_enter Try.func114, Try.ntmps114
  go_wp2_with fail
  go_region_held3 (fun y => y.cell? ⟨bj, 0, none⟩ = some (.pointer (some ⟨jb, 0, none⟩)) ∧ y.cell? ⟨jb, 0, none⟩ = some (.pointer (some ⟨H.b, 0, none⟩)) ∧ y.cell? ⟨bn, 0, none⟩ = some (.int .u64 n) ∧ y.cell? ⟨bi, 0, none⟩ = some (.int .i64 i) ∧ y.cell? ⟨bc, 1, none⟩ = some u)
    (first | exact hS7 | (refine KA.out _ ?_; first | assumption | exact (Frm.refl NoB w).drew | exact ⟨rfl, rfl, rfl, Nat.le_refl _, fun _ _ _ => rfl⟩))
    (first
      | (go_at_call 89; refine (HS.out _).mono ?_; rintro e w3 ⟨rfl, rfl⟩)
      | (go_at_call 90; refine (at_any w.drew (s : Int) j hs5 hs6 b1 b2).mono ?_; rintro e w6 ⟨hf6, rfl⟩; have hf6' : Frm NoB w w6 := ((Frm.refl NoB w).drew).trans hf6 (fun _ _ e => e))
      | (go_at_call 31; refine (S_WriteOp (H1.out.frm0 hf6') (a + 1) 0 HR.out rfl (1 + (s : Int) * 61 + j) HO.out b4 b5 HDL.out).mono ?_; rintro e w7 ⟨he7, h7⟩; have hS7 := KB.out _ _ h7; rw [B6.out] at he7 h7; subst he7))
  all_goals
   have H7 := Lib.hid (h7.drop 1)
   clear h7 hS7 hwr
   go_wp2
   go_ret
   exact ⟨rfl, H7.out⟩

set_option maxRecDepth 100000 in
theorem S_wr2 {w0 w : World} {rs : List Res} (h : St w0 w rs) (a ij i1 i2 i3 i4 : Nat) {H : Hdl} {D : DSt} {jb bj bn bh n s : Nat} {c : Array Value} {u : Value} {d : Blk} {t1 : (138 : TypeId) ≠ 5} {t2 : (59 : TypeId) ≠ 5}
    {t3 : (133 : TypeId) ≠ 5} {t4 : (31 : TypeId) ≠ 5}
    (hr : rs[a]? = some (dev H D)) (hj : rs[ij]? = some (arr jb c 138 t1)) (hc0 : c[0]? = some (.pointer (some ⟨H.b, 0, none⟩))) (h1 : rs[i1]? = some (arr bj #[.pointer (some ⟨jb, 0, none⟩)] 59 t2))
    (h2 : rs[i2]? = some (arr bn #[.int .u64 n] 133 t3)) (h3 : rs[i3]? = some (arr bh #[u] 31 t4)) (hu : rs[i4]? = some (byt u d)) (hd : d.length = 512) (hn : n < 18446744073709551616) (hs : n % 4 = s) (hD : 246 ≤ D.n) (ho : D.ops < 2000000000)
    (q1 : ij ≠ a) (q2 : i1 ≠ a) (q3 : i2 ≠ a) (q4 : i3 ≠ a) :
    Calls Try.prog 115 #[.pointer (some ⟨bj, 0, none⟩), .pointer (some ⟨bn, 0, none⟩), .pointer (some ⟨bh, 0, none⟩)] w (OpsRet w0 rs a H [.wr (slotB s) d] D) := by
  have H0 := Lib.hid h
  have HS : Hid (∀ W, Calls Try.prog 89 #[.int .u64 n] W fun e w' => e = .returned (.int .i64 s) ∧ w' = W) := Lib.hid fun W => slot_is W n s hn hs
  have hs4 : s < 4 := by omega
  have hs5 : (0 : Int) ≤ (s : Int) := Int.natCast_nonneg _
  have hs6 : (s : Int) ≤ 1000 := by omega
  have b1 : (0 : Int) ≤ 0 := by omega
  have b2 : (0 : Int) ≤ 1000 := by omega
  have b4 : 0 ≤ 1 + (s : Int) * 61 := by omega
  have b5 : 1 + (s : Int) * 61 < (D.n : Int) := by omega
  have b6 : (1 + (s : Int) * 61).toNat = slotB s := by unfold slotB; omega
  have B6 := Lib.hid b6
  have B12 := Lib.hid (And.intro b1 b2)
  have HO : Hid (D.ops < 4611686018427387904) := Lib.hid (by omega)
  have cells : ∀ y rs', (∀ i, i ≠ a → rs'[i]? = rs[i]?) → St w0 y rs' → y.cell? ⟨bj, 0, none⟩ = some (.pointer (some ⟨jb, 0, none⟩)) ∧ y.cell? ⟨jb, 0, none⟩ = some (.pointer (some ⟨H.b, 0, none⟩)) ∧ y.cell? ⟨bn, 0, none⟩ = some (.int .u64 n) ∧ y.cell? ⟨bh, 0, none⟩ = some u := fun y rs' he hy =>
    ⟨(hy.arrCell (i := i1) ((he _ q2).trans h1) 0).trans rfl, (hy.arrCell (i := ij) ((he _ q1).trans hj) 0).trans hc0, (hy.arrCell (i := i2) ((he _ q3).trans h2) 0).trans rfl, (hy.arrCell (i := i3) ((he _ q4).trans h3) 0).trans rfl⟩
  have KA : Hid (∀ y, Frm NoB w y → y.cell? ⟨bj, 0, none⟩ = some (.pointer (some ⟨jb, 0, none⟩)) ∧ y.cell? ⟨jb, 0, none⟩ = some (.pointer (some ⟨H.b, 0, none⟩)) ∧ y.cell? ⟨bn, 0, none⟩ = some (.int .u64 n) ∧ y.cell? ⟨bh, 0, none⟩ = some u) := Lib.hid fun y hy => cells y _ (fun _ _ => rfl) (H0.out.frm0 hy)
  have KB : Hid (∀ y X, St w0 y (rs.set a X) → y.cell? ⟨bj, 0, none⟩ = some (.pointer (some ⟨jb, 0, none⟩)) ∧ y.cell? ⟨jb, 0, none⟩ = some (.pointer (some ⟨H.b, 0, none⟩)) ∧ y.cell? ⟨bn, 0, none⟩ = some (.int .u64 n) ∧ y.cell? ⟨bh, 0, none⟩ = some u) := Lib.hid fun y X hy => cells y _ (fun i hi => List.getElem?_set_ne (Ne.symm hi)) hy
  obtain ⟨c1, c2, c3, c4⟩ := KA.out w (Frm.refl _ _)
  have HR := Lib.hid hr
  have HDL := Lib.hid hd
  have HUU := Lib.hid hu
  clear h hr hj hc0 h1 h2 h3 hu hd hn hs hD ho cells b6 q1 q2 q3 q4 hs4 b1 b2
  go_enter Try.func115, Try.ntmps115
  go_wp2_with fail
  go_region_held3 (fun y => y.cell? ⟨bj, 0, none⟩ = some (.pointer (some ⟨jb, 0, none⟩)) ∧ y.cell? ⟨jb, 0, none⟩ = some (.pointer (some ⟨H.b, 0, none⟩)) ∧ y.cell? ⟨bn, 0, none⟩ = some (.int .u64 n) ∧ y.cell? ⟨bh, 0, none⟩ = some u)
    (first | exact hS7 | (refine KA.out _ ?_; first | assumption | exact (Frm.refl NoB w).drew | exact ⟨rfl, rfl, rfl, Nat.le_refl _, fun _ _ _ => rfl⟩))
    (first
      | (go_at_call 89; refine (HS.out _).mono ?_; rintro e w3 ⟨rfl, rfl⟩)
      | (go_at_call 90; refine (at_any w.drew (s : Int) 0 hs5 hs6 B12.out.1 B12.out.2).mono ?_; rintro e w6 ⟨hf6, rfl⟩; have hf6' : Frm NoB w w6 := ((Frm.refl NoB w).drew).trans hf6 (fun _ _ e => e))
      | (go_at_call 31; refine (S_WriteOp (H0.out.frm0 hf6') a i4 HR.out HUU.out (1 + (s : Int) * 61) HO.out b4 b5 HDL.out).mono ?_; rintro e w7 ⟨he7, h7⟩; have hS7 := KB.out _ _ h7; rw [B6.out] at he7 h7; subst he7))
  all_goals
   have H7 := Lib.hid h7
   clear h7 hS7
   go_wp2
   go_ret
   exact ⟨rfl, H7.out⟩
end Go.Proofs.Ytkanfpmmgaipnaa
