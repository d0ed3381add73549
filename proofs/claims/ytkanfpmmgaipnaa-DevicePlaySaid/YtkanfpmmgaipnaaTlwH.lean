/-
  The reference's New.
-/
import Derived.Test.YtkanfpmmgaipnaaTlwG
namespace Go.Proofs.Ytkanfpmmgaipnaa
set_option linter.unusedVariables false
set_option linter.unusedSimpArgs false
open Go.ChangeMaps Go.MapKept Go.RowKit

theorem infoBb : (Try.prog.info? 124).map (fun i => (i.zero, i.size, i.bytes)) = some (some (.slice none 0 0), 1, 24) := by kernel_rfl

/-- n empty rows. -/
def psN (n : Nat) : List (Value × List Blk) := List.replicate n (.slice none 0 0, [])
theorem psN_succ (n : Nat) : psN (n + 1) = psN n ++ [(.slice none 0 0, [])] := List.replicate_succ'
theorem psN_length (n : Nat) : (psN n).length = n := List.length_replicate

theorem RefOk.new {n : Nat} (h : n ≤ 40) : RefOk (DSt.new n) (List.replicate n zeros) (psN n) (-1) :=
  ⟨List.length_replicate, psN_length n, fun k hk => List.getElem?_replicate_of_lt hk, fun k hk => ⟨_, List.getElem?_replicate_of_lt hk⟩, rfl, h, Nat.zero_le _⟩

section
variable {w0 : Gnd} {w : World} {rs : List Res}

theorem S_rNewFar (n : Int) (hn : n < 1) :
    Calls Try.prog 42 #[.int .i64 n] w fun e w' => w = w' ∧ e = .returned (.tuple #[.pointer none, .int .i64 1]) := by
  go_enter Try.func42, Try.ntmps42
  go_wp2
  go_ret2
  exact ⟨rfl, rfl⟩

set_option maxRecDepth 100000 in
set_option maxHeartbeats 2000000 in
theorem S_rNew (h : St w0 w rs) (n : Nat) (h1 : 1 ≤ n) (h40 : n ≤ 40) :
    Calls Try.prog 42 #[.int .i64 n] w fun e w' => ∃ rb bv pv ds ps, e = .returned (.tuple #[.pointer (some ⟨rb, 0, none⟩), .int .i64 0]) ∧ St w0 w' (refL rb bv pv ds ps ((DSt.new n).ops : Int) (-1) ++ rs) ∧ RefOk (DSt.new n) ds ps (-1) := by
  have H0 := Lib.hid (h.refNew 0 (-1))
  have hmk := run_make512
  obtain ⟨iy, hiy, hy0, hy1, hy2⟩ := info_parts infoBy
  obtain ⟨ib, hib, hb0, hb1, hb2⟩ := info_parts infoBb
  have hn1 : ¬ (n : Int) < 1 := by omega
  have hn2 : (n : Int) ≤ 65536 := by omega
  have HN := Lib.hid (RefOk.new h40)
  clear h
  go_enter Try.func42, Try.ntmps42
  go_wp2_with fail
  go_loopw [5] (fun t wr => ∃ (k : Nat) (bv pv : Value), k ≤ n ∧ t = .int .i64 k ∧ St w0 wr (refL w.heap.size bv pv (List.replicate k zeros) (psN k) 0 (-1) ++ rs)) (fun t _ => n - (intOf t).toNat)
  case atStart => exact ⟨0, _, _, Nat.zero_le _, rfl, H0.out⟩
  case round =>
    clear H0
    obtain ⟨k, bv, pv, hk, rfl, hst⟩ := hrel
    obtain ⟨ab, cb, rfl⟩ := hst.bsLen (i := 1) rfl
    obtain ⟨ap, cp, rfl⟩ := hst.pnLen
    rw [List.length_replicate] at hst
    rw [psN_length] at hst
    have HST := Lib.hid hst
    have hk0 : (0 : Int) ≤ (k : Int) := Int.natCast_nonneg _
    clear hst
    by_cases hlt : k < n
    · have hk1 : (k : Int) < (n : Int) := by omega
      have c0 : wr.cell? ⟨w.heap.size, 0, none⟩ = some (.slice ab k cb) := (HST.out.arrCell (i := 0) rfl 0).trans rfl
      obtain ⟨rb, hrb⟩ : ∃ rb, w.heap.size = rb := ⟨_, rfl⟩
      rw [hrb] at HST c0 ⊢
      have KS : Hid (∀ y, St w0 y (refL rb (.slice ab k cb) (.slice ap k cp) (List.replicate k zeros) (psN k) 0 (-1) ++ rs) → y.cell? ⟨rb, 0, none⟩ = some (.slice ab k cb)) := Lib.hid fun y hy => (hy.arrCell (i := 0) rfl 0).trans rfl
      have MK : Hid (St w0 (wr.alloc (.cells zc 5 (0, 0))).drew (byt (.slice (some ⟨wr.heap.size, 0, none⟩) 512 512) zeros :: (refL rb (.slice ab k cb) (.slice ap k cp) (List.replicate k zeros) (psN k) 0 (-1) ++ rs))) := Lib.hid ((S_Zero HST.out).frm0 (Frm.refl NoB _).drew)
      have POST : Hid (∀ yA yB v1 g2 cap2 vs o, St w0 yA (refL rb (.slice ab k cb) (.slice ap k cp) (List.replicate k zeros) (psN k) 0 (-1) ++ rs) → BytesAt yA v1 zeros AnyB → (yA.ownsRow 0 31 1 (.slice ab k cb) (List.replicate k zeros).length vs ∧ vs.length = (List.replicate k zeros).length ∧ ∀ (i : Nat) u b, vs[i]? = some u → (List.replicate k zeros)[i]? = some b → BytesAt yA u b AnyB) →
          yB.ownsRow 0 31 1 (.slice (some ⟨g2, 0, none⟩) (k + 1) cap2) (k + 1) (vs ++ [v1]) → (yA.alloc o).grownBy yB (Value.slice ab k cb).ownBlock → ((Value.slice ab k cb).ownBlock = some g2 ∨ g2 = (yA.alloc o).heap.size) →
          yB.cell? ⟨rb, 0, none⟩ = some (.slice ab k cb) ∧ yB.frozen? ⟨rb, 0, none⟩ = false ∧ St w0 (yB.setCell ⟨rb, 0, none⟩ (.slice (some ⟨g2, 0, none⟩) (k + 1) cap2)) (refL rb (.slice (some ⟨g2, 0, none⟩) (k + 1) cap2) (.slice ap k cp) (List.replicate (k + 1) zeros) (psN k) 0 (-1) ++ rs)) := Lib.hid fun yA yB v1 g2 cap2 vs o hS hB hv hown hg hat => by
        have hS' : St w0 yA (rst rb (.slice ab k cb) (.slice ap k cp) 0 (-1) :: bsR (.slice ab k cb) (List.replicate k zeros) :: (rowR 124 neBb 1 (.slice ap k cp) (psN k).length ((psN k).map (·.1)) :: (pnL (psN k) ++ rs))) := hS
        have := hS'.growBase hv hB o (v' := .slice (some ⟨g2, 0, none⟩) (k + 1) cap2) (by rw [List.length_replicate]; exact hown) hg (by
          rcases hat with e | e
          · left; rw [e]; simp [Value.ownBlock]
          · right; rw [← e]; simp [Value.ownBlock])
        rw [← List.replicate_succ'] at this
        exact this
      have HMX : Hid (k + 1 ≤ maxLen) := Lib.hid (by simp only [maxLen]; omega)
      have HBY : Hid ((k + 1) * 24 ≤ 140737488355328) := Lib.hid (by omega)
      have HLT := Lib.hid hlt
      go_upto_region 7 with (fail)
      refine wp_region_noPanic ?_
      refine wp_region_T (S := fun y => y.cell? ⟨rb, 0, none⟩ = some (.slice ab k cb)) (by kernel_rfl) ?_
      have hHeld : (fun y : World => y.cell? ⟨rb, 0, none⟩ = some (.slice ab k cb)) wr.drew := c0
      refine wpAnyT_take (i := 0) (v := ?v0) rfl (by kernel_rfl) (fun _ _ _ h => h) (Or.inl ⟨by rfl, ?hy0⟩) hHeld ?rest0
      case hy0 => intro wq hSw; (try dsimp only at hSw); go_simp; try with_reducible rfl
      case rest0 =>
        show wpAnyT _ _ _ _ _ _ _ (Act.put _ (some 19) _) _
        try simp only [Act.put, List.setIfInBounds_toArray, List.set_cons_zero, List.set_cons_succ]
        refine wpAnyT_take (i := 1) (v := ?v1) rfl (by kernel_rfl) (fun _ _ _ h => h) (Or.inl ⟨by rfl, ?hy1⟩) hHeld ?rest1
        case hy1 => intro wq hSw; (try dsimp only at hSw); go_simp; try with_reducible rfl
        case rest1 =>
          show wpAnyT _ _ _ _ _ _ _ (Act.put _ (some 20) _) _
          try simp only [Act.put, List.setIfInBounds_toArray, List.set_cons_zero, List.set_cons_succ]
          refine wpAnyT_take (i := 2) (v := ?v2) rfl (by kernel_rfl) (fun _ _ _ h => h) (Or.inl ⟨by rfl, ?hy2⟩) hHeld ?rest2
          case hy2 => intro wq hSw; (try dsimp only at hSw); go_simp; try with_reducible rfl
          case rest2 =>
            show wpAnyT _ _ _ _ _ _ _ (Act.put _ (some 21) _) _
            try simp only [Act.put, List.setIfInBounds_toArray, List.set_cons_zero, List.set_cons_succ]
            refine wpAnyT_take (i := 3) (v := ?v3) rfl (by kernel_rfl) (fun _ _ _ h => h) (Or.inl ⟨by rfl, ?hy3⟩) hHeld ?rest3
            case hy3 => intro wq hSw; (try dsimp only at hSw); go_simp; try with_reducible rfl
            case rest3 =>
              show wpAnyT _ _ _ _ _ _ _ (Act.put _ (some 22) _) _
              try simp only [Act.put, List.setIfInBounds_toArray, List.set_cons_zero, List.set_cons_succ]
              refine wpAnyT_take (i := 4) (v := ?v4) rfl (by kernel_rfl) (fun _ _ _ h => h) (Or.inl ⟨by rfl, ?hy4⟩) hHeld ?rest4
              case hy4 => intro wq hSw; (try dsimp only at hSw); go_simp; try with_reducible rfl
              case rest4 =>
                show wpAnyT _ _ _ _ _ _ _ (Act.put _ (some 23) _) _
                try simp only [Act.put, List.setIfInBounds_toArray, List.set_cons_zero, List.set_cons_succ]
                refine wpAnyT_one (i := 5) rfl (by kernel_rfl) (fun K hK => ?_)
                go_simp
                have hM := MK.out
                have hHeld1 := KS.out _ (hM.drop 1)
                refine hK.out _ _ (fun _ => hHeld1) ?_
                clear hK K hHeld
                try simp only [Act.put, List.setIfInBounds_toArray, List.set_cons_zero, List.set_cons_succ]
                obtain ⟨yM, hyM⟩ : ∃ yM, yM = (wr.alloc (.cells zc 5 (0, 0))).drew := ⟨_, rfl⟩
                rw [← hyM] at hM hHeld1 ⊢
                clear hyM
                obtain ⟨vs, hv1, hv2, hv3⟩ := hM.get (i := 2) rfl
                have hB : BytesAt yM (.slice (some ⟨wr.heap.size, 0, none⟩) 512 512) zeros AnyB := hM.get (i := 0) rfl
                have hv1' : yM.ownsRow 0 31 1 (.slice ab k cb) k vs := by rw [List.length_replicate] at hv1; exact hv1
                refine wpAnyT_one (i := 6) rfl (by kernel_rfl) (fun K hK => ?_)
                go_simp
                have hHeld2 := KS.out _ ((hM.drop 1).frm0 ((Frm.refl NoB _).alloc (.cells #[.slice (some ⟨wr.heap.size, 0, none⟩) 512 512] 31 (0, 0))))
                refine hK.out _ _ (fun _ => hHeld2) ?_
                clear hK K hHeld1
                try simp only [Act.put, List.setIfInBounds_toArray, List.set_cons_zero, List.set_cons_succ]
                refine wpAnyT_one (i := 7) rfl (by kernel_rfl) (fun K hK => ?_)
                refine step_append_lies _ rfl _ _ 124 rfl 0 31 iy (.slice none 0 0) 1 24 Try.underlying124 hiy hy0 hy1 hy2 rfl (by decide) (.slice ab k cb) k vs rfl (hv1'.alloc _) ⟨yM.heap.size, 0, none⟩ 1 1 [.slice (some ⟨wr.heap.size, 0, none⟩) 512 512] rfl rfl (new_one _ _ _) (by intro u hu; simp at hu; subst hu; rfl) (by decide) HMX.out HBY.out (Nat.zero_le _) _ rfl ?_
                intro g2 cap2 yB hown2 hgrow2 hat2 hlt2
                obtain ⟨hq1, hq2, hq3⟩ := POST.out yM yB _ g2 cap2 vs _ (hM.drop 1) hB ⟨hv1, hv2, hv3⟩ hown2 hgrow2 hat2
                refine hK.out _ _ (fun _ => hq1) ?_
                clear hK K hHeld2 hown2 hgrow2 hat2 hlt2 hv1 hv2 hv3 hv1' hB hM
                try simp only [Act.put, List.setIfInBounds_toArray, List.set_cons_zero, List.set_cons_succ]
                have hHeldC := hq1
                refine wpAnyT_one (i := 8) rfl (by kernel_rfl) (fun K hK => ?_)
                go_simp
                refine hK.out _ _ (fun _ => hq1) ?_
                clear hK K
                try simp only [Act.put, List.setIfInBounds_toArray, List.set_cons_zero, List.set_cons_succ]
                refine wpAnyT_one (i := 9) rfl (by kernel_rfl) (fun K hK => ?_)
                go_simp
                refine hK.out _ _ (fun _ => hq1) ?_
                clear hK K
                try simp only [Act.put, List.setIfInBounds_toArray, List.set_cons_zero, List.set_cons_succ]
                refine wpAnyT_one (i := 10) rfl (by kernel_rfl) (fun K hK => ?_)
                go_simp
                refine hK.out _ _ (fun h => absurd (h.symm.trans (show allB _ _ = true by kernel_rfl)) (by decide)) ?_
                clear hK K
                try simp only [Act.put, List.setIfInBounds_toArray, List.set_cons_zero, List.set_cons_succ]
                refine wpAnyT_done (by kernel_rfl) ?_
                refine NoPanic.normal ?_
                clear KS MK HST c0 hHeldC
                have H8 := Lib.hid hq3
                clear hq3
                obtain ⟨y8, hy8⟩ : ∃ y8, y8 = yB.setCell ⟨rb, 0, none⟩ (.slice (some ⟨g2, 0, none⟩) (k + 1) cap2) := ⟨_, rfl⟩
                rw [← hy8] at H8 ⊢
                clear hy8 hq1 hq2 POST
                have c1 : y8.cell? ⟨rb, 1, none⟩ = some (.slice ap k cp) := (H8.out.arrCell (i := 0) rfl 1).trans rfl
                have HRW : Hid (y8.ownsRow 0 124 1 (.slice ap k cp) k ((psN k).map (·.1))) := Lib.hid (by have := H8.out.get (i := 2) rfl; rw [psN_length] at this; exact this)
                have HO := Lib.hid (HRW.out.alloc (.cells #[.slice none 0 0] 124 (0, 0)))
                go_wp2_with (at_builtin; refine wpList_append_lies _ rfl _ _ 125 rfl 0 124 ib (.slice none 0 0) 1 24 Try.underlying125 hib hb0 hb1 hb2 rfl (by decide) _ _ _ rfl HO.out ⟨y8.heap.size, 0, none⟩ 1 1 [.slice none 0 0] rfl rfl (new_one _ _ _) (by intro u hu; simp at hu; subst hu; rfl) (by decide) HMX.out HBY.out (Nat.zero_le _) _ rfl ?_)
                intro g3 cap3 yC hown3 hgrow3 hat3 hlt3
                have hS8 : St w0 y8 (rst rb (.slice (some ⟨g2, 0, none⟩) (k + 1) cap2) (.slice ap k cp) 0 (-1) :: bsR (.slice (some ⟨g2, 0, none⟩) (k + 1) cap2) (List.replicate (k + 1) zeros) :: rowR 124 neBb 1 (.slice ap k cp) k ((psN k).map (·.1)) :: (pnL (psN k) ++ rs)) := by have := H8.out; unfold refL at this; rw [psN_length] at this; exact this
                obtain ⟨d1, d2, d3⟩ := hS8.growPend (.slice none 0 0) _ (v' := .slice (some ⟨g3, 0, none⟩) (k + 1) cap3) hown3 hgrow3 (by
                    rcases hat3 with e | e
                    · left; rw [e]; simp [Value.ownBlock]
                    · right; rw [e]; simp [Value.ownBlock])
                have H9 : Hid (St w0 (yC.setCell ⟨rb, 1, none⟩ (.slice (some ⟨g3, 0, none⟩) (k + 1) cap3)) (refL rb (.slice (some ⟨g2, 0, none⟩) (k + 1) cap2) (.slice (some ⟨g3, 0, none⟩) (k + 1) cap3) (List.replicate (k + 1) zeros) (psN (k + 1)) 0 (-1) ++ rs)) := Lib.hid (by
                  rw [psN_succ]
                  have := d3.bsNil
                  refine St.refSnoc ?_
                  rw [psN_length]
                  exact this)
                clear hown3 hgrow3 hat3 hlt3 hS8 d3 H8 HRW HO c1
                go_wp2
                first | exact ⟨⟨k + 1, _, _, HLT.out, by go_num, H9.out⟩, by have := HLT.out; simp [intOf]; omega⟩ | (go_roundw; case rel => first | exact ⟨k + 1, _, _, HLT.out, by go_num, H9.out⟩ | ((repeat apply Exists.intro); exact ⟨⟨k + 1, _, _, HLT.out, by go_num, H9.out⟩, rfl⟩); case measure => have := HLT.out; simp [intOf]; omega)
    · have hk1 : ¬ (k : Int) < (n : Int) := by omega
      obtain rfl : k = n := by omega
      clear hlt hk
      go_wp2
      go_ret2
      exact ⟨w.heap.size, rfl, _, _, _, _, HST.out, HN.out⟩
end
end Go.Proofs.Ytkanfpmmgaipnaa
