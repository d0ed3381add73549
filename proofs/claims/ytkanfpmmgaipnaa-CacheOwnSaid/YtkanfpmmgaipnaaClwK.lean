/-
  CacheOwn: what is handed in is not kept, what is read is one's own.
-/
import Derived.Test.YtkanfpmmgaipnaaClwF
import Derived.Test.YtkanfpmmgaipnaaJlwQ
namespace Go.Proofs.Ytkanfpmmgaipnaa
set_option linter.unusedVariables false
open Go.ChangeMaps Go.MapKept Go.RowKit

theorem keepsW (wb : Nat) (l : WrL) : Keeps (wrt wb l) := fun Z w w' N H hf hN ha => keepsWrt wb l Z w w' N H hf (fun x hx h => ha x hx h)

set_option maxRecDepth 100000 in
/-- A block that was written is read: in a block of its own. -/
theorem S_cReadHit {w0 : Gnd} {w : World} {rs : List Res} {cb jb wb : Nat} {op ov : Bool} {l : WrL} (h : St w0 w (cst cb jb op ov wb :: wrt wb l :: rs)) {k : Int} (hok : okI k) {b : Blk} (hb : look l k = some b) (hb512 : b.length = 512) :
    Calls Try.prog 66 #[.pointer (some ⟨cb, 0, none⟩), .int .i64 k] w fun e w' => ∃ v, e = .returned (.tuple #[v, .int .i64 0]) ∧ Frm NoB w w' ∧ BytesAt w' v b (Fresh w) := by
  have hlk := h.wrtLook (i := 1) rfl hok w rfl
  rw [hb] at hlk
  have hlk : (Instr.lookup 149 (.map (some wb)) (.int .i64 k) true).run Try.prog w = .ok (.tuple #[aggB b, .bool true]) w := hlk
  have c0 : w.cell? ⟨cb, 0, none⟩ = some (.pointer (some ⟨jb, 0, none⟩)) := (h.arrCell (i := 0) rfl 0).trans rfl
  have c3 : w.cell? ⟨cb, 3, none⟩ = some (.map (some wb)) := (h.arrCell (i := 0) rfl 3).trans rfl
  have HR := Lib.hid (S_cReady h)
  have HN := Lib.hid (block_alloc_new w (.cells zc 152 (0, 0)))
  have HF3 : Hid (Frm NoB w (w.alloc (.cells (b.map B8).toArray 152 (0, 0)))) := Lib.hid ((Frm.refl _ _).alloc _)
  have HY := Lib.hid (arr_at w b hb512)
  have HBB := Lib.hid hb512
  clear h hb hb512 hok
  go_enter Try.func66, Try.ntmps66
  go_wp2_with fail
  refine HR.out.mono ?_
  rintro e w2 ⟨rfl, rfl⟩
  go_upto_region 4 with (first | refine allocArr rfl rfl ?_ | refine storeArr rfl _ _ rfl w.heap.size b HBB.out rfl rfl zc zc_size HN.out ?_)
  rw [setRow_new]
  clear hlk c0 c3 HR HN
  go_wp2_with fail
  go_ret2
  exact ⟨_, rfl, HF3.out, HY.out⟩

set_option maxHeartbeats 1000000 in
set_option maxRecDepth 100000 in
theorem cacheOwn_any (w : World) (v k : Int) (hk : okI k) :
    Calls Try.prog 25 #[.int .i64 v, .int .i64 k] w fun e w' => e = .returned (.bool true) ∧ Frm NoB w w' := by
  obtain ⟨w1, hw1⟩ : ∃ w1, w = w1 := ⟨_, rfl⟩
  rw [hw1]
  clear hw1
  have HK := Lib.hid hk
  have HF := Lib.hid (S_fresh5 (St.start w1))
  clear hk
  go_enter Try.func25, Try.ntmps25
  go_wp2_with fail
  refine HF.out.mono ?_
  clear HF
  rintro e w2 ⟨H, jh, J, D, cb, wb, rfl, h1, hl1, hlim1, hops1⟩
  have HL := Lib.hid hl1
  have HLI := Lib.hid hlim1
  have HOP := Lib.hid hops1
  have H1 := Lib.hid h1
  clear h1 hl1 hlim1 hops1
  go_wp2_with fail
  refine (S_cBegin H1.out).mono ?_
  rintro e w2 ⟨rfl, h2⟩
  have H2 := Lib.hid (show St w1 w2 (cst cb jh.jb true false wb :: wrt wb [] :: jrn H jh J :: dev H D :: []) from h2)
  clear h2 H1
  go_wp2_with fail
  refine (Round_any _ k 80 HK.out (by omega) (by omega)).mono ?_
  rintro e w3 ⟨rfl, rfl⟩
  obtain ⟨m, hm⟩ : ∃ m : Nat, k % 80 = m := ⟨(k % 80).toNat, by omega⟩
  rw [hm]
  have hm0 : (0 : Int) ≤ (m : Int) := Int.natCast_nonneg _
  have hm1 : (m : Int) < 80 := by omega
  clear hm
  go_wp2_with fail
  refine (Block_any _ v).mono ?_
  rintro e w3 ⟨rfl, rfl⟩
  have HZ := Lib.hid (H2.out.enzone ((Frm.refl NoB w2).alloc (bytesObj (blockOf v))) w2.heap.size (Nat.le_refl _) (by rw [size_alloc]; omega))
  have HBY := Lib.hid (block_at w2 (blockOf v) (blockOf_length v)).any
  have HZ1 := Lib.hid H2.out.base.size
  obtain ⟨w3, hw3⟩ : ∃ w3, w3 = w2.alloc (bytesObj (blockOf v)) := ⟨_, rfl⟩
  rw [← hw3] at HZ HBY ⊢
  clear hw3 H2
  generalize w2.heap.size = z at *
  have H3 := Lib.hid ((HZ.out.mkByt (Frm.refl _ _) HBY.out).perm (List.perm_append_comm (l₁ := [_]) (l₂ := [_, _, _]) |>.append_right _))
  have H3 := Lib.hid (show St ⟨w1, fun x => NoB x ∨ x = z⟩ w3 (cst cb jh.jb true false wb :: wrt wb [] :: jrn H jh J :: byt (.slice (some ⟨z, 0, none⟩) 512 512) (blockOf v) :: dev H D :: []) from H3.out)
  have HW := Lib.hid (S_cWriteIn H3.out 1 0 rfl rfl (blockOf_length _) (HL.out.ok (by omega) (by omega)) (by have := HOP.out; omega) (245 + (m : Int)) (by omega) (by rw [HL.out.dn]; omega) (by rw [HL.out.dn]; decide) (by simp) (fun _ h => by cases h))
  have HCO : Hid (COk 325 ((putW [] (245 + (m : Int)) (blockOf v)))) := Lib.hid ((COk.nil 325).put _ _ (by omega) (blockOf_length v) (.inr (by simp)))
  clear HZ HBY H3
  go_wp2_with fail
  refine HW.out.mono ?_
  clear HW
  rintro e w4 (⟨_, rfl, h4⟩ | ⟨_, hx, _⟩)
  case inr => exact absurd hx (by simp)
  have HCC0 := Lib.hid (BytesAt.room2 (h4.get (i := 3) rfl) (by rw [blockOf_length]; omega) (blockOf_length v))
  have H6 := Lib.hid (show St ⟨w1, fun x => NoB x ∨ x = z⟩ w4 (cst cb jh.jb true false wb :: wrt wb (putW [] (245 + (m : Int)) (blockOf v)) :: jrn H jh J :: dev H D :: []) from h4.sub (List.Sublist.cons_cons _ (List.Sublist.cons_cons _ (List.Sublist.cons_cons _ (List.Sublist.cons _ (List.Sublist.refl _))))))
  clear h4
  go_wp2_with fail
  go_loopw [10] (fun t wr => ∃ (i : Nat) (cc : Array Value), i ≤ 512 ∧ t = .int .i64 i ∧ Hid (IsC wr z cc ∧ 0 + 512 ≤ cc.size) ∧ St ⟨w1, fun x => NoB x ∨ x = z⟩ wr (cst cb jh.jb true false wb :: wrt wb (putW [] (245 + (m : Int)) (blockOf v)) :: jrn H jh J :: dev H D :: [])) (fun t _ => 512 - (intOf t).toNat)
  case atStart =>
    obtain ⟨cc, h1, h2⟩ := HCC0.out
    exact ⟨0, cc, Nat.zero_le _, rfl, Lib.hid ⟨h1, h2⟩, H6.out⟩
  case round =>
    clear H6 HCC0
    obtain ⟨i, cc, hi, rfl, HCC, hst⟩ := hrel
    have HST := Lib.hid hst
    clear hst
    by_cases hlt : i < 512
    · have hi0 : (0 : Int) ≤ (i : Int) := Int.natCast_nonneg _
      have hi1 : (i : Int) < 512 := by omega
      have hcell : ∃ u, wr.cell? ⟨z, i, none⟩ = some u := ⟨_, (HCC.out.1.cell).trans (Array.getElem?_eq_getElem (by have := HCC.out.2; omega))⟩
      obtain ⟨u, hcell⟩ := hcell
      have hfree : wr.frozen? ⟨z, i, none⟩ = false := HCC.out.1.frozen
      have HOWN : Hid (∀ u, IsC (wr.setCell ⟨z, i, none⟩ u) z (cc.setIfInBounds i u) ∧ 0 + 512 ≤ (cc.setIfInBounds i u).size) := Lib.hid fun u => ⟨HCC.out.1.set u, by rw [Array.size_setIfInBounds]; exact HCC.out.2⟩
      have HS2 : Hid (∀ u, St ⟨w1, fun x => NoB x ∨ x = z⟩ (wr.setCell ⟨z, i, none⟩ u) (cst cb jh.jb true false wb :: wrt wb (putW [] (245 + (m : Int)) (blockOf v)) :: jrn H jh J :: dev H D :: [])) := Lib.hid fun u => HST.out.own (fun r hr => by
        rcases List.mem_cons.1 hr with rfl | hr
        · exact keepsArr _ _ _ _
        rcases List.mem_cons.1 hr with rfl | hr
        · exact keepsW _ _
        rcases List.mem_cons.1 hr with rfl | hr
        · exact keepsJrn _ _ _
        rcases List.mem_cons.1 hr with rfl | hr
        · exact keepsDev _ _
        · cases hr) (.inr rfl) HZ1.out HCC.out.1 u
      clear HST
      go_wp2
      first | exact ⟨⟨i + 1, _, hlt, by go_num, Lib.hid (HOWN.out _), HS2.out _⟩, by simp [intOf]; omega⟩ | (go_roundw; case rel => first | exact ⟨i + 1, _, hlt, by go_num, Lib.hid (HOWN.out _), HS2.out _⟩ | ((repeat apply Exists.intro); exact ⟨⟨i + 1, _, hlt, by go_num, Lib.hid (HOWN.out _), HS2.out _⟩, rfl⟩); case measure => simp [intOf]; omega)
    · have hi1 : ¬ (i : Int) < 512 := by omega
      have HR := Lib.hid (S_cReadHit HST.out (k := 245 + (m : Int)) ((okI_iff _).2 (by omega)) (look_put_same _ _ _) (blockOf_length v))
      have HZ0 := Lib.hid HST.out.base.size
      clear HCC
      go_wp2_with fail
      refine HR.out.mono ?_
      clear HR
      rintro e w5 ⟨v5, rfl, hf5, hb5⟩
      obtain ⟨yb, yo, yc, cy, rfl, hc1, hc2, hc3⟩ := hb5.room (by rw [blockOf_length]; omega)
      rw [blockOf_length] at hb5 hc2 ⊢
      have HY := Lib.hid (HST.out.enzone hf5 yb hc3 hc1.lt)
      have HZ2 : Hid (w1.heap.size ≤ yb) := Lib.hid (Nat.le_trans HZ0.out hc3)
      have H7 := Lib.hid (HY.out.mkByt (Frm.refl _ _) hb5)
      clear hf5 hb5 hc1 hc2 hc3 HST HY HZ0
      go_wp2_with fail
      refine (S_Block H7.out v).mono ?_
      rintro e w8 ⟨u8, rfl, h8⟩
      have H8 := Lib.hid h8
      clear h8 H7
      go_wp2_with fail
      refine (S_Bytes H8.out 1 0 rfl rfl (by rw [blockOf_length]; omega)).mono ?_
      rintro e w9 ⟨rfl, h9⟩
      rw [show (blockOf v == blockOf v) = true from beq_self_eq_true _]
      have HCC0 := Lib.hid (BytesAt.room2 (h9.get (i := 1) rfl) (by rw [blockOf_length]; omega) (blockOf_length v))
      have H6 := Lib.hid (show St ⟨w1, fun x => (NoB x ∨ x = z) ∨ x = yb⟩ w9 (cst cb jh.jb true false wb :: wrt wb (putW [] (245 + (m : Int)) (blockOf v)) :: jrn H jh J :: dev H D :: []) from h9.drop 2)
      clear h9 H8
      go_wp2_with fail
      go_loopw [13] (fun t wr => ∃ (i : Nat) (cc : Array Value), i ≤ 512 ∧ t = .int .i64 i ∧ Hid (IsC wr yb cc ∧ yo + 512 ≤ cc.size) ∧ St ⟨w1, fun x => (NoB x ∨ x = z) ∨ x = yb⟩ wr (cst cb jh.jb true false wb :: wrt wb (putW [] (245 + (m : Int)) (blockOf v)) :: jrn H jh J :: dev H D :: [])) (fun t _ => 512 - (intOf t).toNat)
      case atStart =>
        obtain ⟨cc, h1, h2⟩ := HCC0.out
        exact ⟨0, cc, Nat.zero_le _, rfl, Lib.hid ⟨h1, h2⟩, H6.out⟩
      case round =>
        clear H6 HCC0
        obtain ⟨i, cc, hi, rfl, HCC, hst⟩ := hrel
        have HST := Lib.hid hst
        clear hst
        by_cases hlt : i < 512
        · have hi0 : (0 : Int) ≤ (i : Int) := Int.natCast_nonneg _
          have hi1 : (i : Int) < 512 := by omega
          have hcell : ∃ u, wr.cell? ⟨yb, yo + i, none⟩ = some u := ⟨_, (HCC.out.1.cell).trans (Array.getElem?_eq_getElem (by have := HCC.out.2; omega))⟩
          obtain ⟨u, hcell⟩ := hcell
          have hfree : wr.frozen? ⟨yb, yo + i, none⟩ = false := HCC.out.1.frozen
          have HOWN : Hid (∀ u, IsC (wr.setCell ⟨yb, yo + i, none⟩ u) yb (cc.setIfInBounds (yo + i) u) ∧ yo + 512 ≤ (cc.setIfInBounds (yo + i) u).size) := Lib.hid fun u => ⟨HCC.out.1.set u, by rw [Array.size_setIfInBounds]; exact HCC.out.2⟩
          have HS2 : Hid (∀ u, St ⟨w1, fun x => (NoB x ∨ x = z) ∨ x = yb⟩ (wr.setCell ⟨yb, yo + i, none⟩ u) (cst cb jh.jb true false wb :: wrt wb (putW [] (245 + (m : Int)) (blockOf v)) :: jrn H jh J :: dev H D :: [])) := Lib.hid fun u => HST.out.own (fun r hr => by
            rcases List.mem_cons.1 hr with rfl | hr
            · exact keepsArr _ _ _ _
            rcases List.mem_cons.1 hr with rfl | hr
            · exact keepsW _ _
            rcases List.mem_cons.1 hr with rfl | hr
            · exact keepsJrn _ _ _
            rcases List.mem_cons.1 hr with rfl | hr
            · exact keepsDev _ _
            · cases hr) (.inr rfl) HZ2.out HCC.out.1 u
          clear HST
          go_wp2
          first | exact ⟨⟨i + 1, _, hlt, by go_num, Lib.hid (HOWN.out _), HS2.out _⟩, by simp [intOf]; omega⟩ | (go_roundw; case rel => first | exact ⟨i + 1, _, hlt, by go_num, Lib.hid (HOWN.out _), HS2.out _⟩ | ((repeat apply Exists.intro); exact ⟨⟨i + 1, _, hlt, by go_num, Lib.hid (HOWN.out _), HS2.out _⟩, rfl⟩); case measure => simp [intOf]; omega)
        · have hi1 : ¬ (i : Int) < 512 := by omega
          have HR := Lib.hid (S_cRead HST.out 0 rfl (HL.out.ok (by omega) (by omega)) (by have := HOP.out; omega) (245 + (m : Int)) (by omega) (by rw [HL.out.dn]; omega) (by rw [HL.out.dn]; decide) HCO.out.b512)
          rw [show cview (putW [] (245 + (m : Int)) (blockOf v)) (jview J D) (245 + (m : Int)) = blockOf v from by unfold cview; rw [look_put_same]; rfl] at HR
          clear HCC HST
          go_wp2_with fail
          refine HR.out.mono ?_
          clear HR
          rintro e w5 ⟨v5, rfl, h5⟩
          have H5 := Lib.hid h5
          clear h5
          go_wp2_with fail
          refine (S_Block H5.out v).mono ?_
          rintro e w8 ⟨u8, rfl, h8⟩
          have H8 := Lib.hid h8
          clear h8 H5
          go_wp2_with fail
          refine (S_Bytes H8.out 1 0 rfl rfl (by rw [blockOf_length]; omega)).mono ?_
          rintro e w9 ⟨rfl, h9⟩
          rw [show (blockOf v == blockOf v) = true from beq_self_eq_true _]
          have H9 := Lib.hid (h9.drop 2)
          clear h9 H8
          have HCM := Lib.hid (S_cCommitL (show St ⟨w1, fun x => (NoB x ∨ x = z) ∨ x = yb⟩ w9 (cst cb jh.jb true false wb :: wrt wb (putW [] (245 + (m : Int)) (blockOf v)) :: jrn H jh J :: dev H D :: []) from H9.out) 0 rfl HL.out HCO.out (by omega) (by omega) (by omega) (by omega) (by have := HOP.out; omega) HLI.out)
          clear H9
          go_wp2_with fail
          refine HCM.out.mono ?_
          clear HCM
          rintro e w10 ⟨jh4, J4, D4, hjb, rfl, h10, _, _, _⟩
          have H10 := Lib.hid h10
          clear h10
          go_wp2_with fail
          refine (awake5_any H10.out).mono ?_
          rintro e w11 ⟨rfl, h11⟩
          have HF11 := Lib.hid h11.base
          clear h11
          go_wp2
          go_ret
          exact ⟨rfl, HF11.out⟩
end Go.Proofs.Ytkanfpmmgaipnaa
