/-
  The journal's header, read.
-/
import Derived.Test.YtkanfpmmgaipnaaJrnK
namespace Go.Proofs.Ytkanfpmmgaipnaa
set_option linter.unusedVariables false
open Go.ChangeMaps Go.MapKept Go.RowKit

theorem infoInt : (Try.prog.info? 3).map (fun i => (i.zero, i.size, i.bytes)) = some (some (.int .i64 0), 1, 8) := infoI64

/-- What a header's reading answers. -/
def HdrRet (w0 : World) (rs : List Res) (g : Nat) (b : Blk) (e : Ending) (w' : World) : Prop :=
  ∃ v, e = .returned (.tuple #[.int .u64 (if hdrOk g b then hdrN b else 0 : Nat), v]) ∧ St w0 w' (rowI v (if hdrOk g b then hdrL b else []) :: rs)

theorem HdrRet.no {w0 w' : World} {rs : List Res} {g : Nat} {b : Blk} (h : hdrOk g b = false) (hs : St w0 w' rs) : HdrRet w0 rs g b (.returned (.tuple #[.int .u64 0, .slice none 0 0])) w' :=
  ⟨_, by rw [h]; rfl, by rw [h]; exact hs.rowNil _ _ _⟩

theorem HdrRet.yes {w0 w' : World} {rs : List Res} {g : Nat} {b : Blk} {v : Value} (h : hdrOk g b = true) (hs : St w0 w' (rowI v (hdrL b) :: rs)) : HdrRet w0 rs g b (.returned (.tuple #[.int .u64 (hdrN b), v])) w' :=
  ⟨_, by rw [h]; rfl, by rw [h]; exact hs⟩

set_option maxRecDepth 100000 in
theorem S_header {w0 w : World} {rs : List Res} (h : St w0 w rs) (a i : Nat) {H : Hdl} {D : DSt} {jb : Nat} {c : Array Value} {ht : (138 : TypeId) ≠ 5} (hr : rs[a]? = some (dev H D)) (hj : rs[i]? = some (arr jb c 138 ht))
    (hc0 : c[0]? = some (.pointer (some ⟨H.b, 0, none⟩))) {g : Nat} (hc1 : c[1]? = some (.int .u64 g)) (s : Nat) (hs : s < 4) (hn : 246 ≤ D.n) (ho : D.ops < 4611686018427387904) (b : Blk) (hb : D.last (slotB s) = b) (hok : hdrOk g b = true → hdrCnt b ≤ 60) :
    Calls Try.prog 88 #[.pointer (some ⟨jb, 0, none⟩), .int .i64 s] w (HdrRet w0 rs g b) := by
  have H0 := Lib.hid h
  have KA : Hid (∀ y, Frm NoB w y → y.cell? ⟨jb, 0, none⟩ = some (.pointer (some ⟨H.b, 0, none⟩))) := Lib.hid fun y hy => ((h.frm0 hy).arrCell hj 0).trans hc0
  have c1 := KA.out w (Frm.refl _ _)
  have KB : Hid (∀ y v, St w0 y (v :: rs) → y.cell? ⟨jb, 0, none⟩ = some (.pointer (some ⟨H.b, 0, none⟩)) ∧ y.cell? ⟨jb, 1, none⟩ = some (.int .u64 g)) := Lib.hid fun y v hy =>
    ⟨(hy.arrCell (i := i + 1) hj 0).trans hc0, (hy.arrCell (i := i + 1) hj 1).trans hc1⟩
  have hs0 : (0 : Int) ≤ (s : Int) := Int.natCast_nonneg _
  have hs1 : (s : Int) ≤ 3 := by omega
  have HL : Hid (b.length = 512) := Lib.hid (hb ▸ DSt.last_length (h.get hr).wf (slotB s))
  have HB := Lib.hid hb
  clear hb
  have HOK := Lib.hid hok
  clear h hok
  go_enter Try.func88, Try.ntmps88
  go_wp2_with fail
  clear c1
  go_region_held3 (fun y => y.cell? ⟨jb, 0, none⟩ = some (.pointer (some ⟨H.b, 0, none⟩)))
    (first | exact hS5 | (refine KA.out _ ?_; first | assumption | exact (Frm.refl NoB w).drew | exact ⟨rfl, rfl, rfl, Nat.le_refl _, fun _ _ _ => rfl⟩))
    (first
      | (go_at_call 90; refine (at_any w.drew (s : Int) 0 hs0 (by omega) (by omega) (by omega)).mono ?_; rintro e w3 ⟨hf3, rfl⟩; have hf3' : Frm NoB w w3 := ((Frm.refl NoB w).drew).trans hf3 (fun _ _ e => e))
      | (go_at_call 35; refine (S_Read (H0.out.frm0 hf3') a hr (1 + (s : Int) * 61) (by omega) (by omega) ho).mono ?_; rintro e w5 ⟨v5, rfl, h5⟩; have hS5 := (KB.out _ _ h5).1))
  all_goals
   have e : ((1 + (s : Int) * 61)).toNat = slotB s := by unfold slotB; omega
   rw [e, HB.out] at h5
   have H5 := Lib.hid h5
   clear h5 hS5 e hs hn ho
   obtain ⟨blk, off, cap, rfl, hcap, _, _⟩ := (H5.out.get (i := 0) rfl).cells
   have hcap8 : 8 ≤ cap := by have := HL.out; omega
   have hl8 : 8 ≤ b.length := by have := HL.out; omega
   have hce : w5.cell? ⟨jb, 1, none⟩ = some (.int .u64 g) := (KB.out _ _ H5.out).2
   have HG : Hid (∀ k, Calls Try.prog 107 #[.slice (some ⟨blk, off, none⟩) b.length cap, .int .i64 1] (w5.drewN k) fun e w' => e = .returned (.int .u64 (getLE b 8 8)) ∧ w' = w5.drewN k) := Lib.hid fun k =>
    (getN_any (w5.drewN k) _ _ 1 (BytesAt.frm0 (H5.out.get (i := 0) rfl) ((Frm.refl NoB w5).drewN k)).sliceOf (by omega) HL.out).mono fun _ _ ⟨a, b⟩ => ⟨b, a.symm⟩
   by_cases hm : b.take 8 = markL
   · have hst : ∀ k c2, (convert 31 9 (.slice (some ⟨blk, off, none⟩) 8 c2)).run Try.prog (w5.drewN k) = .ok (.string { data := #[66, 79, 76, 76, 65, 82, 68, 72] }) (w5.drewN k) := fun k c2 =>
      (head_string (BytesAt.frm0 (H5.out.get (i := 0) rfl) ((Frm.refl NoB w5).drewN k)) hl8 c2).trans (by rw [hm]; rfl)
     have HM := Lib.hid hm
     clear hm
     obtain ⟨x, hx⟩ : ∃ x, getLE b 8 8 = x := ⟨_, rfl⟩
     rw [hx] at HG
     have HX := Lib.hid hx
     clear hx
     by_cases hxg : x = g
     · subst hxg
       have HT : Hid (hdrOk x b = true) := Lib.hid (by unfold hdrOk; rw [HM.out, HX.out]; simp)
       have hcnt : ((hdrCnt b : Nat) : Int) ≤ 60 := by have := HOK.out HT.out; omega
       have hcnt0 : (0 : Int) ≤ ((hdrCnt b : Nat) : Int) := Int.natCast_nonneg _
       have HG3 : Hid (∀ W, BytesAt W (.slice (some ⟨blk, off, none⟩) b.length cap) b AnyB → Calls Try.prog 107 #[.slice (some ⟨blk, off, none⟩) b.length cap, .int .i64 3] W fun e w' => W = w' ∧ e = .returned (.int .u64 (hdrCnt b))) := Lib.hid fun W hW => getN_any W _ _ 3 hW.sliceOf (by omega) HL.out
       have HG2 : Hid (∀ W, BytesAt W (.slice (some ⟨blk, off, none⟩) b.length cap) b AnyB → Calls Try.prog 107 #[.slice (some ⟨blk, off, none⟩) b.length cap, .int .i64 2] W fun e w' => W = w' ∧ e = .returned (.int .u64 (hdrN b))) := Lib.hid fun W hW => getN_any W _ _ 2 hW.sliceOf (by omega) HL.out
       have HGP : Hid (∀ W (p : Nat), p ≤ 508 → BytesAt W (.slice (some ⟨blk, off, none⟩) b.length cap) b AnyB → Calls Try.prog 108 #[.slice (some ⟨blk, off, none⟩) b.length cap, .int .i64 p, .int .i64 4, .bool false] W fun e w' => W = w' ∧ e = .returned (.tuple #[.int .u64 (getLE b p 4), .bool true])) :=
        Lib.hid fun W p hp hW => bitsGet_any W _ _ p 4 hW.sliceOf (by omega) (by omega) (by rw [HL.out]; omega) (by rw [HL.out]; omega)
       have HLT : Hid (∀ p, p ≤ 508 → getLE b p 4 < 4294967296) := Lib.hid fun p hp => getLE_lt b p 4 (by rw [HL.out]; omega)
       clear HOK
       generalize b.length = n512 at *
       obtain ⟨m, hm⟩ : ∃ m, hdrCnt b = m := ⟨_, rfl⟩
       rw [hm] at hcnt hcnt0 HG3
       have HMM := Lib.hid hm
       clear hm
       go_wp2_with fail
       go_quiet ((go_at_call 107; exact Calls.quiet_of_same (HG.out _)))
       have H6 : Hid (St w0 (w5.drewN nq) (byt (.slice (some ⟨blk, off, none⟩) n512 cap) b :: rs)) := Lib.hid (H5.out.frm0 ((Frm.refl NoB w5).drewN _))
       clear hce hst HG
       go_wp2_with fail
       refine (HG3.out _ (H6.out.get (i := 0) rfl)).mono ?_
       rintro e w6 ⟨rfl, rfl⟩
       go_wp2_with fail
       go_loopw [5, 8, 9, 10, 42] (fun v _ _ _ t wr => ∃ k : Nat, k ≤ m ∧ t = .int .i64 k ∧ St w0 wr (rowI v ((List.range k).map (hdrAt b)) :: byt (.slice (some ⟨blk, off, none⟩) n512 cap) b :: rs)) (fun _ _ _ _ t _ => m - (intOf t).toNat)
       case atStart => exact ⟨0, Nat.zero_le _, rfl, H6.out.rowNil _ _ _⟩
       case round =>
         clear H6
         obtain ⟨k, hk, rfl, hst⟩ := hrel
         have HST := Lib.hid hst
         clear hst
         by_cases hlt : k < m
         · have hk0 : (0 : Int) ≤ (k : Int) := Int.natCast_nonneg _
           have hk1 : (k : Int) < (m : Int) := by omega
           obtain ⟨p, hp⟩ : ∃ p : Nat, 32 + 4 * k = p := ⟨_, rfl⟩
           have hp2 : 32 + 4 * (k : Int) = (p : Int) := by omega
           have hp3 : p ≤ 508 := by omega
           have HG4 := Lib.hid (HGP.out wr p hp3 (HST.out.get (i := 1) rfl))
           obtain ⟨y, hy⟩ : ∃ y, getLE b p 4 = y := ⟨_, rfl⟩
           rw [hy] at HG4
           have hyl : y < 4294967296 := hy ▸ HLT.out p hp3
           have hy0 : (0 : Int) ≤ (y : Int) := Int.natCast_nonneg _
           have hy1 : (y : Int) < 4294967296 := by omega
           have HY : Hid ((List.range (k + 1)).map (hdrAt b) = (List.range k).map (hdrAt b) ++ [y]) := Lib.hid (by
             rw [List.range_succ, List.map_append]
             have : hdrAt b k = y := by unfold hdrAt; rw [hp]; exact hy
             simp [this])
           have HLN : Hid (((List.range k).map (hdrAt b)).length = k) := Lib.hid (by simp)
           obtain ⟨L, hL⟩ : ∃ L, (List.range k).map (hdrAt b) = L := ⟨_, rfl⟩
           rw [hL] at HY HLN HST
           have HHP := Lib.hid hp
           clear hy hyl hp hp3 hL
           go_wp2_with fail
           refine HG4.out.mono ?_
           clear HG4
           rintro e w7 ⟨rfl, rfl⟩
           have HO := Lib.hid (World.ownsRow.alloc (HST.out.get (i := 0) rfl) (.cells #[.int .i64 (y : Int)] 3 (0, 0)))
           obtain ⟨ii, hi0i, hz0, hz1, hz2⟩ := info_parts infoInt
           have HN : Hid (∀ (j : Nat) u, ([.int .i64 (y : Int)] : List Value)[j]? = some u → (wr.alloc (.cells #[.int .i64 (y : Int)] 3 (0, 0))).cell? ((⟨wr.heap.size, 0, none⟩ : Addr).add j) = some u) := Lib.hid (new_one wr _ _)
           go_wp2_with (at_builtin; refine wpList_append_own_at _ rfl _ _ 22 rfl 0 3 ii (.int .i64 0) 1 8 Try.underlying22 hi0i hz0 hz1 hz2 rfl (by decide) _ _ _ rfl HO.out ⟨wr.heap.size, 0, none⟩ 1 1 [.int .i64 (y : Int)] rfl rfl HN.out ?c0 ?c1 ?c2 ?c3 ?_)
           case c0 => intro u hu; simp at hu; subst hu; rfl
           case c1 => rw [HLN.out]; simp only [maxLen]; omega
           case c2 => rw [HLN.out]; omega
           case c3 => omega
           intro v' w8 ho hg2 hnn hat
           have h7 := HST.out.rowAppend 0 rfl (.cells #[.int .i64 (y : Int)] 3 (0, 0)) (m := (L ++ [y]).length) (ys := (L ++ [y]).map NatK) (by rw [List.length_append, List.map_append]; exact ho) hg2 (by rw [size_alloc]; first | exact hat | (rw [size_alloc] at hat; exact hat))
           have H7 := Lib.hid (show St w0 w8 (rowI v' (L ++ [y]) :: byt (.slice (some ⟨blk, off, none⟩) n512 cap) b :: rs) from h7)
           rw [← HY.out] at H7
           clear ho hg2 hnn hat h7 HO HN
           go_wp2
           first | exact ⟨⟨k + 1, hlt, by go_num, H7.out⟩, by simp [intOf]; omega⟩ | (go_roundw; case rel => first | exact ⟨k + 1, hlt, by go_num, H7.out⟩ | ((repeat apply Exists.intro); exact ⟨⟨k + 1, hlt, by go_num, H7.out⟩, rfl⟩); case measure => simp [intOf]; omega)
         · have hk1 : ¬ (k : Int) < (m : Int) := by omega
           have HKM : Hid (k = m) := Lib.hid (by omega)
           have HGT := Lib.hid (HG2.out wr (HST.out.get (i := 1) rfl))
           go_wp2_with fail
           refine HGT.out.mono ?_
           clear HGT
           rintro e w7 ⟨rfl, rfl⟩
           go_wp2
           go_ret2
           refine HdrRet.yes HT.out ?_
           have e : hdrL b = (List.range k).map (hdrAt b) := by unfold hdrL; rw [HMM.out, HKM.out]
           rw [e]
           exact HST.out.drop2nd
     · have HT : Hid (hdrOk g b = false) := Lib.hid (by unfold hdrOk; rw [HX.out]; simp [hxg])
       have hb1 : ((x : Int) != (g : Int)) = true := by rw [bne_iff_ne]; omega
       clear hxg HOK
       generalize b.length = n512 at *
       go_wp2_with fail
       go_quiet ((go_at_call 107; exact Calls.quiet_of_same (HG.out _)))
       go_wp2
       go_ret2
       exact HdrRet.no HT.out ((H5.out.frm0 ((Frm.refl NoB w5).drewN _)).drop 1)
   · have hst : ∀ k c2, (convert 31 9 (.slice (some ⟨blk, off, none⟩) 8 c2)).run Try.prog (w5.drewN k) = .ok (.string ⟨(b.take 8).toArray⟩) (w5.drewN k) := fun k c2 =>
      head_string (BytesAt.frm0 (H5.out.get (i := 0) rfl) ((Frm.refl NoB w5).drewN k)) hl8 c2
     have HT : Hid (hdrOk g b = false) := Lib.hid (by unfold hdrOk; simp [hm])
     have hb1 : (b.take 8 == [66, 79, 76, 76, 65, 82, 68, 72]) = false := by simpa [markL] using hm
     clear hm HG hce HOK
     generalize b.length = n512 at *
     go_wp2_with fail
     go_quiet (fail)
     go_wp2
     go_ret2
     exact HdrRet.no HT.out ((H5.out.frm0 ((Frm.refl NoB w5).drewN _)).drop 1)
end Go.Proofs.Ytkanfpmmgaipnaa
