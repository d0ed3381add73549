/-
  bollardlaw3: same; DevicePlay.
-/
import Derived.Test.YtkanfpmmgaipnaaTlwQ
namespace Go.Proofs.Ytkanfpmmgaipnaa
set_option linter.unusedVariables false
set_option linter.unusedSimpArgs false
open Go.ChangeMaps Go.MapKept Go.RowKit

section
variable {w0 : Gnd} {w : World} {rs : List Res}

theorem Two.drew {H : Hdl} {rb : Nat} {D : DSt} {w' : World} (h : Two w0 w H rb D rs) (hf : Frm NoB w w') : Two w0 w' H rb D rs := by
  obtain ⟨bv, pv, ds, ps, last, h, hr⟩ := h
  exact ⟨bv, pv, ds, ps, last, h.frm0 hf, hr⟩

set_option maxRecDepth 100000 in
set_option maxHeartbeats 2000000 in
theorem same3_any {H : Hdl} {rb : Nat} {D : DSt} (h : Two w0 w H rb D rs) (hD : D.Wf) (ho : D.ops ≤ 1000) :
    Calls Try.prog 44 #[.pointer (some ⟨H.b, 0, none⟩), .pointer (some ⟨rb, 0, none⟩)] w fun e w' => e = .returned (.bool true) ∧ Two w0 w' H rb D rs := by
  obtain ⟨bv, pv, ds, ps, last, h, hR⟩ := h
  obtain ⟨ab, cb, rfl⟩ := h.bsLen (i := 2) rfl
  have hnb := hR.nb
  obtain ⟨n, hn⟩ : ∃ n, D.n = n := ⟨_, rfl⟩
  rw [hnb, hn] at h
  have hn40 : n ≤ 40 := by have := hR.n40; omega
  have HN := Lib.hid hn
  have HNB := Lib.hid hnb
  have HD := Lib.hid hD
  have HR := Lib.hid hR
  have H0 := Lib.hid h
  have HBL : Hid (∀ k, Calls Try.prog 37 #[.pointer (some ⟨H.b, 0, none⟩)] (w.drewN k) fun e w' => e = .returned (.int .i64 n) ∧ w' = w.drewN k) := Lib.hid fun k => by
    rw [← hn]; exact (S_Blocks (h.frm0 ((Frm.refl NoB w).drewN k)) 0 rfl).mono fun _ _ ⟨a, b⟩ => ⟨b, a.symm⟩
  have HOP : Hid (∀ k, Calls Try.prog 39 #[.pointer (some ⟨H.b, 0, none⟩)] (w.drewN k) fun e w' => e = .returned (.int .i64 D.ops) ∧ w' = w.drewN k) := Lib.hid fun k =>
    (S_Ops (h.frm0 ((Frm.refl NoB w).drewN k)) 0 rfl).mono fun _ _ ⟨a, b⟩ => ⟨b, a.symm⟩
  have c2 : w.cell? ⟨rb, 2, none⟩ = some (.int .i64 D.ops) := (h.arrCell (i := 1) rfl 2).trans rfl
  have c0 : w.cell? ⟨rb, 0, none⟩ = some (.slice ab n cb) := (h.arrCell (i := 1) rfl 0).trans rfl
  clear h hR hD hn hnb
  go_enter Try.func44, Try.ntmps44
  have d1 : (((D.ops : Nat) : Int) != ((D.ops : Nat) : Int)) = false := by simp
  have d2 : (((n : Nat) : Int) != ((n : Nat) : Int)) = false := by simp
  go_upto_region 1 with (fail)
  go_quiet ((first
    | (go_at_call 39; exact Calls.quiet_of_same (HOP.out _))
    | (go_at_call 37; exact Calls.quiet_of_same (HBL.out _))))
  have HK : Hid (∀ y, Frm NoB w y → St w0 y (dev H D :: (refL rb (.slice ab n cb) pv ds ps (D.ops : Int) last ++ rs))) := Lib.hid fun y hy => H0.out.frm0 hy
  clear c2 c0 HBL HOP d1 d2
  go_upto_region 3 with (fail)
  clear H0
  go_wp2_with fail
  go_loopw [5, 6, 7, 8, 9] (fun t5 _ _ _ _ wr => ∃ k : Int, -1 ≤ k ∧ k ≤ (n : Int) + 1 ∧ t5 = .int .i64 k ∧ St w0 wr (dev H D :: (refL rb (.slice ab n cb) pv ds ps (D.ops : Int) last ++ rs))) (fun t5 _ _ _ _ _ => ((n : Int) + 1 - intOf t5).toNat)
  case atStart => exact ⟨-1, by omega, by omega, rfl, HK.out _ ((Frm.refl NoB w).drewN _)⟩
  case round =>
    clear HK
    obtain ⟨k, hk0, hk1, rfl, hst⟩ := hrel
    have HST := Lib.hid hst
    have c0 : wr.cell? ⟨rb, 0, none⟩ = some (.slice ab n cb) := (hst.arrCell (i := 1) rfl 0).trans rfl
    clear hst
    have hn0 : (0 : Int) ≤ (n : Int) := Int.natCast_nonneg _
    by_cases hlt : k ≤ (n : Int)
    · by_cases hin : 0 ≤ k ∧ k < (n : Int)
      · obtain ⟨q, rfl⟩ : ∃ q : Nat, k = (q : Int) := ⟨k.toNat, by omega⟩
        have hq : q < D.n := by have := HN.out; omega
        have HRD := Lib.hid (S_Read HST.out 0 rfl (q : Int) hin.1 (by omega) (by omega))
        rw [Int.toNat_natCast] at HRD
        have HL : Hid ((D.last q).length = 512) := Lib.hid (DSt.last_length HD.out q)
        have HQ := Lib.hid hq
        have hq1 : (q : Int) < (n : Int) := hin.2
        clear hin hq
        go_wp2_with fail
        refine HRD.out.mono ?_
        clear HRD
        rintro e w2 ⟨v2, rfl, h2⟩
        have HR2 := Lib.hid (S_rRead (St.flip (A := [byt v2 (D.last q), dev H D]) h2) HD.out HR.out q HQ.out)
        have H2 := Lib.hid h2
        clear h2 HST c0
        go_wp2_with fail
        refine HR2.out.mono ?_
        clear HR2
        rintro e w3 ⟨v3, rfl, hf3, hb3⟩
        have H3 := Lib.hid (H2.out.mkByt hf3 hb3)
        clear hf3 hb3 H2
        go_wp2_with fail
        refine (S_Bytes H3.out 1 0 rfl rfl (by rw [HL.out]; omega)).mono ?_
        rintro e w4 ⟨rfl, h4⟩
        have H4 := Lib.hid (show St w0 w4 (dev H D :: (refL rb (.slice ab n cb) pv ds ps (D.ops : Int) last ++ rs)) from h4.drop 2)
        rw [show (D.last q == D.last q) = true from beq_self_eq_true _]
        clear h4 H3
        go_wp2
        first | exact ⟨⟨(q : Int) + 1, by omega, by omega, by go_num, H4.out⟩, by simp [intOf]; omega⟩ | (go_roundw; case rel => first | exact ⟨(q : Int) + 1, by omega, by omega, by go_num, H4.out⟩ | ((repeat apply Exists.intro); exact ⟨⟨(q : Int) + 1, by omega, by omega, by go_num, H4.out⟩, rfl⟩); case measure => simp [intOf]; omega)
      · have hfar : k < 0 ∨ (n : Int) ≤ k := by omega
        have HRD := Lib.hid (S_ReadFar HST.out 0 rfl k (by rw [HN.out]; exact hfar))
        have HR2 := Lib.hid (S_rReadFar (St.flip (A := [dev H D]) HST.out) k (by rw [HNB.out, HN.out]; exact hfar))
        have HBY := Lib.hid (Bytes_in wr (.slice none 0 0) (.slice none 0 0) [] [] ⟨none, 0, rfl, fun i b h => by simp at h⟩ ⟨none, 0, rfl, fun i b h => by simp at h⟩ (by decide))
        clear hin hfar
        go_wp2_with fail
        refine HRD.out.mono ?_
        clear HRD
        rintro e w2 ⟨rfl, rfl⟩
        go_wp2_with fail
        refine HR2.out.mono ?_
        clear HR2
        rintro e w2 ⟨rfl, rfl⟩
        go_wp2_with fail
        refine HBY.out.mono ?_
        clear HBY
        rintro e w4 ⟨rfl, hf4⟩
        have H4 := Lib.hid (HST.out.frm0 hf4)
        rw [show (([] : List UInt8) == []) = true from rfl]
        clear hf4 HST c0
        go_wp2
        first | exact ⟨⟨k + 1, by omega, by omega, by go_num, H4.out⟩, by simp [intOf]; omega⟩ | (go_roundw; case rel => first | exact ⟨k + 1, by omega, by omega, by go_num, H4.out⟩ | ((repeat apply Exists.intro); exact ⟨⟨k + 1, by omega, by omega, by go_num, H4.out⟩, rfl⟩); case measure => simp [intOf]; omega)
    · have HF : Hid (Two w0 wr H rb D rs) := Lib.hid ⟨_, _, _, _, _, HST.out, HR.out⟩
      clear HST
      go_wp2
      go_ret
      exact ⟨rfl, HF.out⟩
end

set_option maxRecDepth 100000 in
set_option maxHeartbeats 2000000 in
theorem devicePlay_any (w : World) (n : Int) (hn : okI n) (v : Value) (l : List Ply) (hv : Plays w v l) (hok : ∀ p ∈ l, PlyOk p) (hl : l.length ≤ maxLen) :
    Calls Try.prog 9 #[.int .i64 n, v] w fun e w' => e = .returned (.bool true) ∧ Frm NoB w w' := by
  have HIN := Lib.hid (in3_any w n hn v l hv hl)
  have HV : Hid (∀ y, Frm NoB w y → Plays y v l) := Lib.hid fun y hy => hv.frm hy
  obtain ⟨a, cap, rfl, -⟩ := hv
  have HOK := Lib.hid hok
  have hl2 : ((l.length : Nat) : Int) ≤ 9223372036854775807 := by unfold maxLen at hl; omega
  have H0 := Lib.hid (St.start w)
  have HF0 := Lib.hid (S_rNewFar (w := w) n)
  clear hok hl hn
  go_enter Try.func9, Try.ntmps9
  go_wp2_with fail
  refine HIN.out.mono ?_
  clear HIN
  rintro e w2 ⟨rfl, b, rfl, hb⟩
  have HB := Lib.hid hb
  clear hb
  cases b with
  | false =>
    go_wp2_with fail
    refine (awake3_any H0.out).mono ?_
    rintro e w5 ⟨rfl, h5⟩
    have HF5 := Lib.hid h5.base
    clear h5
    go_wp2
    go_ret
    exact ⟨rfl, HF5.out⟩
  | true =>
    obtain ⟨hn40, hl80⟩ := HB.out rfl
    clear HB
    by_cases h1 : n < 1
    · have HNN := Lib.hid (New_no w n (.inl h1))
      have HNF := Lib.hid (HF0.out h1)
      clear HF0
      go_wp2_with fail
      refine HNN.out.mono ?_
      rintro e w2 ⟨rfl, rfl⟩
      go_wp2_with fail
      refine HNF.out.mono ?_
      rintro e w2 ⟨rfl, rfl⟩
      go_wp2_with fail
      refine (awake3_any H0.out).mono ?_
      rintro e w5 ⟨rfl, h5⟩
      have HF5 := Lib.hid h5.base
      clear h5
      go_wp2
      go_ret
      exact ⟨rfl, HF5.out⟩
    · obtain ⟨m, rfl⟩ : ∃ m : Nat, n = (m : Int) := ⟨n.toNat, by omega⟩
      have hm1 : 1 ≤ m := by omega
      have hm40 : m ≤ 40 := by omega
      have HN := Lib.hid (S_New H0.out (m : Int) (by omega) (by omega))
      rw [Int.toNat_natCast] at HN
      clear HF0 h1
      go_wp2_with fail
      refine HN.out.mono ?_
      clear HN
      rintro e w2 ⟨H, rfl, h2⟩
      have HN2 := Lib.hid (S_rNew h2 m hm1 hm40)
      clear h2
      go_wp2_with fail
      refine HN2.out.mono ?_
      clear HN2
      rintro e w3 ⟨rb, bv, pv, ds, ps, rfl, h3, hr3⟩
      have HT : Hid (Two w w3 H rb (DSt.new m) []) := Lib.hid ⟨bv, pv, ds, ps, -1, St.flip (B := [dev H (DSt.new m)]) h3, hr3⟩
      have HW : Hid ((DSt.new m).Wf) := Lib.hid (DSt.new_wf hm1 (by omega))
      have HO : Hid ((DSt.new m).ops ≤ 0) := Lib.hid (Nat.le_refl _)
      generalize DSt.new m = D0 at *
      have hl80' : (l.length : Int) ≤ 80 := by omega
      clear h3 hr3 H0
      go_wp2_with fail
      go_loopw [5, 7, 9, 10] (fun t5 t7 t9 _ wr => ∃ (i : Nat) (H' : Hdl) (rb' : Nat) (D : DSt), i ≤ l.length ∧ t5 = .pointer (some ⟨H'.b, 0, none⟩) ∧ t7 = .pointer (some ⟨rb', 0, none⟩) ∧ t9 = .int .i64 i ∧ Hid (Two w wr H' rb' D []) ∧ D.Wf ∧ D.ops ≤ i) (fun _ _ t9 _ _ => l.length - (intOf t9).toNat)
      case atStart => exact ⟨0, H, rb, D0, Nat.zero_le _, rfl, rfl, rfl, HT, HW.out, HO.out⟩
      case round =>
        clear HT HW HO D0
        obtain ⟨i, H', rb', D, hi, rfl, rfl, rfl, HT, hwf, hops⟩ := hrel
        have HW := Lib.hid hwf
        clear hwf
        have hi0 : (0 : Int) ≤ (i : Int) := Int.natCast_nonneg _
        have HBS : Hid (Frm NoB w wr) := Lib.hid (by obtain ⟨_, _, _, _, _, h, _⟩ := HT.out; exact h.base)
        by_cases hlt : i < l.length
        · have hi1 : (i : Int) < (l.length : Int) := by omega
          obtain ⟨p, hp⟩ : ∃ p, l[i]? = some p := ⟨_, List.getElem?_eq_getElem hlt⟩
          obtain ⟨a', cap', e0, hcl⟩ := HV.out w (Frm.refl _ _)
          injection e0 with e1 e2 e3
          subst e1
          clear e2 e3
          obtain ⟨gb, go, u, rfl, hbl, c0, c1, c2, c3, hu⟩ := hcl i p hp
          have HU : Hid (∀ y, Frm NoB w y → Elems y u (p.2.2.2.map IntK)) := Lib.hid fun y hy => hu.frm hy
          obtain ⟨ua, uc, rfl, -⟩ := hu
          rw [List.length_map] at c3 HU
          replace c0 := (HBS.out.cell hbl (fun e => e)).trans c0
          replace c1 := (HBS.out.cell hbl (fun e => e)).trans c1
          replace c2 := (HBS.out.cell hbl (fun e => e)).trans c2
          replace c3 := (HBS.out.cell hbl (fun e => e)).trans c3
          have HD := Lib.hid (does3_any HT.out HW.out (by omega) p (HOK.out p (List.mem_of_getElem? hp)) _ HU.out)
          have HW2 := Lib.hid (stepD_wf HW.out p)
          have HO2 : Hid ((stepD D p).ops ≤ i + 1) := Lib.hid (by have := stepD_ops D p; omega)
          have HLT := Lib.hid hlt
          clear hcl hp HT HU
          go_wp2_with fail
          refine HD.out.mono ?_
          clear HD
          rintro e w4 ⟨H4, rb4, rfl, h4⟩
          have HS := Lib.hid (same3_any h4 HW2.out (by have := HO2.out; omega))
          clear h4 c0 c1 c2 c3
          go_wp2_with fail
          refine HS.out.mono ?_
          clear HS
          rintro e w5 ⟨rfl, h5⟩
          have H5 := Lib.hid h5
          clear h5
          go_wp2
          first | exact ⟨⟨i + 1, H4, rb4, _, HLT.out, rfl, rfl, by go_num, H5, HW2.out, HO2.out⟩, by have := HLT.out; simp [intOf]; omega⟩ | (go_roundw; case rel => first | exact ⟨i + 1, H4, rb4, _, HLT.out, rfl, rfl, by go_num, H5, HW2.out, HO2.out⟩ | ((repeat apply Exists.intro); exact ⟨⟨i + 1, H4, rb4, _, HLT.out, rfl, rfl, by go_num, H5, HW2.out, HO2.out⟩, rfl⟩); case measure => have := HLT.out; simp [intOf]; omega)
        · have hi1 : ¬ (i : Int) < (l.length : Int) := by omega
          have HA : Hid (Calls Try.prog 28 #[] wr fun e w' => e = .returned (.bool true) ∧ Frm NoB w w') := Lib.hid (by
            obtain ⟨_, _, _, _, _, h, _⟩ := HT.out
            exact (awake3_any h).mono fun _ _ ⟨a, b⟩ => ⟨a, b.base⟩)
          clear HT
          go_wp2_with fail
          refine HA.out.mono ?_
          rintro e w5 ⟨rfl, hf⟩
          have HF5 := Lib.hid hf
          clear hf
          go_wp2
          go_ret
          exact ⟨rfl, HF5.out⟩
end Go.Proofs.Ytkanfpmmgaipnaa
