/-
  The catalog, from the device up, part 20.
-/
import Derived.Test.YtlemndledcmhiaaGreatDoorQ19
namespace Go.Proofs.YtlemndledcmhiaaGreatDoor
set_option linter.unusedVariables false
set_option linter.unusedSimpArgs false
section
open Go.ChangeMaps Go.MapKept Go.RowKit
variable {w0 : Gnd} {w : World} {rs : List Res} {X : Sys} {F : FH} {A : Path → Option Nd} {ι : Path → Nat}
set_option maxHeartbeats 1000000 in
set_option maxRecDepth 100000 in
theorem c_CreateBig {cb mb P : Nat} {next : Int} {L : List Tp} (h : Fs w0 w F X A ι (catS cb F.fb next mb :: catM mb L :: rs)) (hc : CatL L) (h20 : L.length = 20) (hP : 1 ≤ P ∧ P ≤ 8) {nm : ByteArray} (hn50 : nm.size ≤ 50) (hnm : Named nm true) (hno : ∀ x ∈ L, x.nm ≠ nm) (p3 p4 p5 : Int) (p6 : Bool) (p7 : Int)
    (h1 : 512 ≤ p3 ∧ p3 ≤ 8192) (h2 : -1 ≤ p4 ∧ p4 ≤ 1099511627776) (h3 : -1 ≤ p5 ∧ p5 ≤ 1125899906842624) (h4 : 0 ≤ p7 ∧ p7 ≤ 1125899906842624) :
    Calls Tryz.prog 11 #[.pointer (some ⟨cb, 0, none⟩), .string nm, .int .i64 P, .agg (stz p3 p4 p5 p6 p7)] w fun e w' => e = .returned (.tuple #[.agg (tpz ByteArray.empty 0 0 0 0 0 false 0), .int .i64 2]) ∧ Fs w0 w' F X A ι (catS cb F.fb next mb :: catM mb L :: rs) := by
  have hh := (((h.newArr #[.pointer (some ⟨cb, 0, none⟩)] 25 neCatp).newArr (stz p3 p4 p5 p6 p7) 29 neStg1).newArr (tpz ByteArray.empty 0 0 0 0 0 false 0) 31 neTp)
  simp only [size_alloc] at hh
  obtain ⟨y, hy⟩ : ∃ y, ((w.alloc (.cells #[.pointer (some ⟨cb, 0, none⟩)] 25 (0, 0))).alloc (.cells (stz p3 p4 p5 p6 p7) 29 (0, 0))).alloc (.cells (tpz ByteArray.empty 0 0 0 0 0 false 0) 31 (0, 0)) = y := ⟨_, rfl⟩
  obtain ⟨b1, hb1⟩ : ∃ b1, w.heap.size = b1 := ⟨_, rfl⟩
  rw [hy, hb1] at hh
  obtain ⟨b2, hb2⟩ : ∃ b2, b1 + 1 = b2 := ⟨_, rfl⟩
  rw [hb2] at hh
  obtain ⟨b3, hb3⟩ : ∃ b3, b2 + 1 = b3 := ⟨_, rfl⟩
  rw [hb3] at hh
  have P1 : (1 : Int) ≤ (P : Int) := by omega
  have P8 : (P : Int) ≤ 8 := by omega
  have c0 : y.cell? ⟨b1, 0, none⟩ = some (.pointer (some ⟨cb, 0, none⟩)) := (hh.arrCell (i := 2) rfl 0).trans rfl
  have hnm50 : Hid (nm.size ≤ 50) := Lib.hid hn50
  have HR := Lib.hid (c_ready hh (i := 3) rfl)
  have HN := Lib.hid (hnm y)
  have KS : Hid (∀ W, Calls Tryz.prog 41 #[.agg (stz p3 p4 p5 p6 p7)] W fun r w' => r = .returned (.bool true) ∧ Frm NoB W w') := Lib.hid fun W => p_Settings W p3 p4 p5 p6 p7 h1 h2 h3 h4
  have HY := Lib.hid (And.intro hy (And.intro hb1 (And.intro hb2 hb3)))
  have HH := Lib.hid hh
  have HC := Lib.hid hc
  have HP := Lib.hid (And.intro hno h20)
  have HSz := Lib.hid (And.intro h1 (And.intro h2 (And.intro h3 h4)))
  clear h hc hnm hn50 hno h1 h2 h3 h4 hh hy hb1 hb2 hb3 hP h20
  go_enter Tryz.func11, Tryz.ntmps11
  go_upto_region 1 with (refine allocRow rfl _ _ zeroTp rfl ?_)
  rw [HY.out.1, HY.out.2.1, HY.out.2.2.1, HY.out.2.2.2]
  clear HY
  go_wp2_with fail
  refine HR.out.mono ?_
  clear HR
  rintro e w2 ⟨rfl, rfl⟩
  go_wp2_with fail
  refine HN.out.mono ?_
  clear HN
  rintro e w2 ⟨rfl, hf⟩
  have HH2 := Lib.hid (HH.out.frm hf)
  have s0 : w2.cell? ⟨b2, 0, none⟩ = some (.int .i64 p3) := (HH2.out.arrCell (i := 1) rfl 0).trans rfl
  have s1 : w2.cell? ⟨b2, 1, none⟩ = some (.int .i64 p4) := (HH2.out.arrCell (i := 1) rfl 1).trans rfl
  have s2 : w2.cell? ⟨b2, 2, none⟩ = some (.int .i64 p5) := (HH2.out.arrCell (i := 1) rfl 2).trans rfl
  have s3 : w2.cell? ⟨b2, 3, none⟩ = some (.bool p6) := (HH2.out.arrCell (i := 1) rfl 3).trans rfl
  have s4 : w2.cell? ⟨b2, 4, none⟩ = some (.int .i64 p7) := (HH2.out.arrCell (i := 1) rfl 4).trans rfl
  have c0' : w2.cell? ⟨b1, 0, none⟩ = some (.pointer (some ⟨cb, 0, none⟩)) := (HH2.out.arrCell (i := 2) rfl 0).trans rfl
  clear HH hf c0
  go_wp2_with fail
  refine (KS.out _).mono ?_
  clear KS s0 s1 s2 s3 s4
  rintro e w3 ⟨rfl, hf⟩
  have HH3 := Lib.hid (HH2.out.frm hf)
  have d0 : w3.cell? ⟨b1, 0, none⟩ = some (.pointer (some ⟨cb, 0, none⟩)) := (HH3.out.arrCell (i := 2) rfl 0).trans rfl
  have d3 : w3.cell? ⟨cb, 3, none⟩ = some (.map (some mb)) := (HH3.out.arrCell (i := 3) rfl 3).trans rfl
  clear HH2 hf c0'
  go_upto_region 5 with fail
  have KL : Hid (∀ W, Fs w0 W F X A ι (arr b3 (tpz ByteArray.empty 0 0 0 0 0 false 0) 31 neTp :: arr b2 (stz p3 p4 p5 p6 p7) 29 neStg1 :: arr b1 #[.pointer (some ⟨cb, 0, none⟩)] 25 neCatp :: catS cb F.fb next mb :: catM mb L :: rs) → W.cell? ⟨b1, 0, none⟩ = some (.pointer (some ⟨cb, 0, none⟩)) ∧ W.cell? ⟨cb, 3, none⟩ = some (.map (some mb)) ∧ (Instr.lookup 91 (.map (some mb)) (.agg ((keyB nm).map B8).toArray) true).run Tryz.prog W = .ok (.tuple #[.agg #[.string ⟨#[]⟩, .int .i64 0, .int .i64 0, .int .i64 0, .int .i64 0, .int .i64 0, .bool false, .int .i64 0], .bool false]) W) := Lib.hid fun W hW => by
    refine ⟨(hW.arrCell (i := 2) rfl 0).trans rfl, (hW.arrCell (i := 3) rfl 3).trans rfl, ?_⟩
    have this := (hW.catAt (i := 4) rfl).lookup_ok kindCKey Tryz.underlying91 (a := keyB nm) (keyB_length nm hnm50.out) zeroTp W rfl
    rw [tpV_none HC.out hnm50.out HP.out.1] at this
    exact this
  have KO : Hid (∀ W, Calls Tryz.prog 42 #[.string nm] W fun e w' => e = .returned (.agg ((keyB nm).map B8).toArray) ∧ Frm NoB W w') := Lib.hid fun W => c_of W nm hnm50.out
  have HHd := Lib.hid (HH3.out.frm (Frm.refl NoB w3).drew)
  obtain ⟨k1, k2, k3⟩ := KL.out _ HH3.out
  clear d0 d3
  go_cut [10, 11] from 36 (fun t10 t11 wx => t11 = .bool false ∧ Fs w0 wx F X A ι (arr b3 (tpz ByteArray.empty 0 0 0 0 0 false 0) 31 neTp :: arr b2 (stz p3 p4 p5 p6 p7) 29 neStg1 :: arr b1 #[.pointer (some ⟨cb, 0, none⟩)] 25 neCatp :: catS cb F.fb next mb :: catM mb L :: rs))
  case first =>
    refine wp_region_held_drew (S := (fun y => y.cell? ⟨b1, 0, none⟩ = some (.pointer (some ⟨cb, 0, none⟩)) ∧ y.cell? ⟨cb, 3, none⟩ = some (.map (some mb)) ∧ (Instr.lookup 91 (.map (some mb)) (.agg ((keyB nm).map B8).toArray) true).run Tryz.prog y = .ok (.tuple #[.agg #[.string ⟨#[]⟩, .int .i64 0, .int .i64 0, .int .i64 0, .int .i64 0, .int .i64 0, .bool false, .int .i64 0], .bool false]) y)) (by kernel_rfl) (KL.out _ HHd.out) (fun hHeld => ?_)
    refine wpAnyH_take (i := 0) (v := ?v0_1) rfl (by kernel_rfl) (by kernel_rfl) (by kernel_rfl) (fun _ _ _ h => h) (Or.inl ⟨by rfl, ?hy0_1⟩) (by assumption) ?rest0_1
    case hy0_1 => (intro w hSw; (try dsimp only at hSw); go_simp; (try with_reducible rfl))
    try simp only [Act.put, List.setIfInBounds_toArray, List.set_cons_zero, List.set_cons_succ]
    refine wpAnyH_take (i := 1) (v := ?v1_2) rfl (by kernel_rfl) (by kernel_rfl) (by kernel_rfl) (fun _ _ _ h => h) (Or.inl ⟨by rfl, ?hy1_2⟩) (by assumption) ?rest1_2
    case hy1_2 => (intro w hSw; (try dsimp only at hSw); go_simp; (try with_reducible rfl))
    try simp only [Act.put, List.setIfInBounds_toArray, List.set_cons_zero, List.set_cons_succ]
    refine wpAnyH_take (i := 2) (v := ?v2_3) rfl (by kernel_rfl) (by kernel_rfl) (by kernel_rfl) (fun _ _ _ h => h) (Or.inl ⟨by rfl, ?hy2_3⟩) (by assumption) ?rest2_3
    case hy2_3 => (intro w hSw; (try dsimp only at hSw); go_simp; (try with_reducible rfl))
    try simp only [Act.put, List.setIfInBounds_toArray, List.set_cons_zero, List.set_cons_succ]
    refine wpAnyH_take (i := 3) (v := ?v3_4) rfl (by kernel_rfl) (by kernel_rfl) (by kernel_rfl) (fun _ _ _ h => h) (Or.inl ⟨by rfl, ?hy3_4⟩) (by assumption) ?rest3_4
    case hy3_4 => (intro w hSw; (try dsimp only at hSw); go_simp; (try with_reducible rfl))
    try simp only [Act.put, List.setIfInBounds_toArray, List.set_cons_zero, List.set_cons_succ]
    refine wpAnyH_take (i := 4) (v := ?v4_5) rfl (by kernel_rfl) (by kernel_rfl) (by kernel_rfl) (fun _ _ _ h => h) (Or.inl ⟨by rfl, ?hy4_5⟩) (by assumption) ?rest4_5
    case hy4_5 => (intro w hSw; (try dsimp only at hSw); go_simp; (try with_reducible rfl))
    try simp only [Act.put, List.setIfInBounds_toArray, List.set_cons_zero, List.set_cons_succ]
    refine wpAnyH_ready (rs := [5, 10]) (by kernel_rfl) (by simp) ?_
    refine AllReadyH.cons rfl (fun K hK => ?_) ?_
    · go_simp
      refine (KO.out _).mono ?_
      rintro e w4 ⟨rfl, hf4⟩
      go_wp2_with fail
      have HH4 := Lib.hid (HHd.out.frm hf4)
      clear hf4
      refine hK.out _ _ (KL.out _ HH4.out) (fun hHeld => ?_)
      clear hK K
      try simp only [Act.put, List.setIfInBounds_toArray, List.set_cons_zero, List.set_cons_succ]
      refine wpAnyH_take (i := 6) (v := ?v6_6) rfl (by kernel_rfl) (by kernel_rfl) (by kernel_rfl) (fun _ _ _ h => h) (Or.inl ⟨by rfl, ?hy6_6⟩) (by assumption) ?rest6_6
      case hy6_6 => (intro w hSw; (try dsimp only at hSw); go_simp; (try with_reducible rfl))
      try simp only [Act.put, List.setIfInBounds_toArray, List.set_cons_zero, List.set_cons_succ]
      refine wpAnyH_take (i := 7) (v := ?v7_7) rfl (by kernel_rfl) (by kernel_rfl) (by kernel_rfl) (fun _ _ _ h => h) (Or.inl ⟨by rfl, ?hy7_7⟩) (by assumption) ?rest7_7
      case hy7_7 => (intro w hSw; (try dsimp only at hSw); go_simp; (try with_reducible rfl))
      try simp only [Act.put, List.setIfInBounds_toArray, List.set_cons_zero, List.set_cons_succ]
      refine wpAnyH_take (i := 8) (v := ?v8_8) rfl (by kernel_rfl) (by kernel_rfl) (by kernel_rfl) (fun _ _ _ h => h) (Or.inl ⟨by rfl, ?hy8_8⟩) (by assumption) ?rest8_8
      case hy8_8 => (intro w hSw; (try dsimp only at hSw); go_simp; (try with_reducible rfl))
      try simp only [Act.put, List.setIfInBounds_toArray, List.set_cons_zero, List.set_cons_succ]
      refine wpAnyH_take (i := 9) (v := ?v9_9) rfl (by kernel_rfl) (by kernel_rfl) (by kernel_rfl) (fun _ _ _ h => h) (Or.inl ⟨by rfl, ?hy9_9⟩) (by assumption) ?rest9_9
      case hy9_9 => (intro w hSw; (try dsimp only at hSw); go_simp; (try with_reducible rfl))
      change wpAnyH _ _ _ _ _ _ _ (Act.put _ (some 45) _) _
      try simp only [Act.put, List.setIfInBounds_toArray, List.set_cons_zero, List.set_cons_succ]
      refine wpAnyH_ready (rs := [10]) (by kernel_rfl) (by simp) ?_
      refine AllReadyH.cons rfl (fun K hK => ?_) AllReadyH.nil
      go_simp
      have HA := Lib.hid (HH4.out.newArr (tpz ByteArray.empty 0 0 0 0 0 false 0) 31 neTp)
      refine hK.out _ _ (KL.out _ (HA.out.drop 1)) (fun hHeld => ?_)
      clear hK K
      try simp only [Act.put, List.setIfInBounds_toArray, List.set_cons_zero, List.set_cons_succ]
      refine wpAnyH_ready (rs := [11]) (by kernel_rfl) (by simp) ?_
      refine AllReadyH.cons rfl (fun K hK => ?_) AllReadyH.nil
      rw [if_pos (by rfl)]
      refine wp_store_row 31 _ _ rfl w4.heap.size (tpz ByteArray.empty 0 0 0 0 0 false 0) rfl rfl _ _ (HA.out.block (i := 0) rfl) (infoTp _ _ _ _ _ _ _ _) rfl (oneTp _ _ _ _ _ _ _ _) ?_
      have HB := Lib.hid (HA.out.setRow 0 (c' := (tpz ByteArray.empty 0 0 0 0 0 false 0)) rfl)
      refine hK.out _ _ (KL.out _ (HB.out.drop 1)) (fun hHeld => ?_)
      clear hK K
      try simp only [Act.put, List.setIfInBounds_toArray, List.set_cons_zero, List.set_cons_succ]
      refine wpAnyH_take (i := 12) (v := ?v12_10) rfl (by kernel_rfl) (by kernel_rfl) (by kernel_rfl) (fun _ _ _ h => h) (Or.inl ⟨by rfl, ?hy12_10⟩) (by assumption) ?rest12_10
      case hy12_10 => (intro w hSw; (try dsimp only at hSw); go_simp; (try with_reducible rfl))
      change wpAnyH _ _ _ _ _ _ _ (Act.put _ (some 11) _) _
      try simp only [Act.put, List.setIfInBounds_toArray, List.set_cons_zero, List.set_cons_succ]
      refine wpAnyH_done (by kernel_rfl) ?_ _
      go_wp2_with fail
      go_meet
      exact ⟨rfl, HB.out.drop 1⟩
    · refine AllReadyH.cons rfl (fun K hK => ?_) AllReadyH.nil
      go_simp
      have HA := Lib.hid ((HH3.out.newArr (tpz ByteArray.empty 0 0 0 0 0 false 0) 31 neTp).frm (Frm.refl NoB _).drew)
      refine hK.out _ _ (KL.out _ (HA.out.drop 1)) (fun hHeld => ?_)
      clear hK K
      try simp only [Act.put, List.setIfInBounds_toArray, List.set_cons_zero, List.set_cons_succ]
      obtain ⟨wa, hwa⟩ : ∃ wa, (w3.alloc (.cells (tpz ByteArray.empty 0 0 0 0 0 false 0) 31 (0, 0))).drew = wa := ⟨_, rfl⟩
      obtain ⟨ga, hga⟩ : ∃ ga, w3.heap.size = ga := ⟨_, rfl⟩
      change wpAnyH _ _ _ _ _ _ _ _ ((w3.alloc (.cells (tpz ByteArray.empty 0 0 0 0 0 false 0) 31 (0, 0))).drew)
      have hHeld2 := hHeld
      clear hHeld
      have hHeld := KL.out _ (HA.out.drop 1)
      clear hHeld2
      rw [hwa, hga] at HA
      rw [hwa] at hHeld
      rw [hwa, hga]
      clear hwa hga
      refine wpAnyH_ready (rs := [5]) (by kernel_rfl) (by simp) ?_
      refine AllReadyH.cons rfl (fun K hK => ?_) AllReadyH.nil
      go_simp
      refine (KO.out _).mono ?_
      rintro e w4 ⟨rfl, hf4⟩
      go_wp2_with fail
      have HH4 := Lib.hid (HA.out.frm hf4)
      clear hf4 HA
      refine hK.out _ _ (KL.out _ (HH4.out.drop 1)) (fun hHeld => ?_)
      clear hK K
      try simp only [Act.put, List.setIfInBounds_toArray, List.set_cons_zero, List.set_cons_succ]
      refine wpAnyH_take (i := 6) (v := ?v6_11) rfl (by kernel_rfl) (by kernel_rfl) (by kernel_rfl) (fun _ _ _ h => h) (Or.inl ⟨by rfl, ?hy6_11⟩) (by assumption) ?rest6_11
      case hy6_11 => (intro w hSw; (try dsimp only at hSw); go_simp; (try with_reducible rfl))
      try simp only [Act.put, List.setIfInBounds_toArray, List.set_cons_zero, List.set_cons_succ]
      refine wpAnyH_take (i := 7) (v := ?v7_12) rfl (by kernel_rfl) (by kernel_rfl) (by kernel_rfl) (fun _ _ _ h => h) (Or.inl ⟨by rfl, ?hy7_12⟩) (by assumption) ?rest7_12
      case hy7_12 => (intro w hSw; (try dsimp only at hSw); go_simp; (try with_reducible rfl))
      try simp only [Act.put, List.setIfInBounds_toArray, List.set_cons_zero, List.set_cons_succ]
      refine wpAnyH_take (i := 8) (v := ?v8_13) rfl (by kernel_rfl) (by kernel_rfl) (by kernel_rfl) (fun _ _ _ h => h) (Or.inl ⟨by rfl, ?hy8_13⟩) (by assumption) ?rest8_13
      case hy8_13 => (intro w hSw; (try dsimp only at hSw); go_simp; (try with_reducible rfl))
      try simp only [Act.put, List.setIfInBounds_toArray, List.set_cons_zero, List.set_cons_succ]
      refine wpAnyH_take (i := 9) (v := ?v9_14) rfl (by kernel_rfl) (by kernel_rfl) (by kernel_rfl) (fun _ _ _ h => h) (Or.inl ⟨by rfl, ?hy9_14⟩) (by assumption) ?rest9_14
      case hy9_14 => (intro w hSw; (try dsimp only at hSw); go_simp; (try with_reducible rfl))
      change wpAnyH _ _ _ _ _ _ _ (Act.put _ (some 45) _) _
      try simp only [Act.put, List.setIfInBounds_toArray, List.set_cons_zero, List.set_cons_succ]
      refine wpAnyH_ready (rs := [11]) (by kernel_rfl) (by simp) ?_
      refine AllReadyH.cons rfl (fun K hK => ?_) AllReadyH.nil
      rw [if_pos (by rfl)]
      refine wp_store_row 31 _ _ rfl ga (tpz ByteArray.empty 0 0 0 0 0 false 0) rfl rfl _ _ (HH4.out.block (i := 0) rfl) (infoTp _ _ _ _ _ _ _ _) rfl (oneTp _ _ _ _ _ _ _ _) ?_
      have HB := Lib.hid (HH4.out.setRow 0 (c' := (tpz ByteArray.empty 0 0 0 0 0 false 0)) rfl)
      refine hK.out _ _ (KL.out _ (HB.out.drop 1)) (fun hHeld => ?_)
      clear hK K
      try simp only [Act.put, List.setIfInBounds_toArray, List.set_cons_zero, List.set_cons_succ]
      refine wpAnyH_take (i := 12) (v := ?v12_15) rfl (by kernel_rfl) (by kernel_rfl) (by kernel_rfl) (fun _ _ _ h => h) (Or.inl ⟨by rfl, ?hy12_15⟩) (by assumption) ?rest12_15
      case hy12_15 => (intro w hSw; (try dsimp only at hSw); go_simp; (try with_reducible rfl))
      change wpAnyH _ _ _ _ _ _ _ (Act.put _ (some 11) _) _
      try simp only [Act.put, List.setIfInBounds_toArray, List.set_cons_zero, List.set_cons_succ]
      refine wpAnyH_done (by kernel_rfl) ?_ _
      go_wp2_with fail
      go_meet
      exact ⟨rfl, HB.out.drop 1⟩
  case rest =>
  obtain ⟨rfl, hcut⟩ := hcut
  have hlen : ∀ ty, (Builtin.len_ #[91] ty #[.map (some mb)]).run Tryz.prog wc = .ok (goInt L.length) wc := fun ty => (hcut.catAt (i := 4) rfl).len Tryz.underlying91 ty wc rfl
  have hl0 : (0 : Int) ≤ (L.length : Int) := Int.natCast_nonneg _
  have hl20 : (L.length : Int) = 20 := by have := HP.out.2; omega
  have c5 : wc.cell? ⟨b1, 0, none⟩ = some (.pointer (some ⟨cb, 0, none⟩)) := (hcut.arrCell (i := 2) rfl 0).trans rfl
  have d5 : wc.cell? ⟨cb, 3, none⟩ = some (.map (some mb)) := (hcut.arrCell (i := 3) rfl 3).trans rfl
  have HH5 := Lib.hid hcut
  clear hcut KL HH3 HHd k1 k2 k3
  have HB3 := Lib.hid (HH5.out.block (i := 0) rfl)
  have HX := Lib.hid (HH5.out.setRow 0 (c' := tpz ByteArray.empty 0 0 0 0 0 false 0) rfl)
  go_wp2_with (refine storeTp rfl _ _ rfl b3 ByteArray.empty 0 0 0 0 0 false 0 rfl rfl _ rfl HB3.out ?_)
  have hld := run_loadVar_row (P := Tryz.prog) _ b3 31 31 (tpz ByteArray.empty 0 0 0 0 0 false 0) (0, 0) _ (HX.out.block (i := 0) rfl) Tryz.underlying31 rfl (infoTp _ _ _ _ _ _ _ _)
  (try simp only [Exit.inBlock, Exit.then])
  exact bodyPost_ret (v := .tuple #[.agg (tpz ByteArray.empty 0 0 0 0 0 false 0), .int .i64 2]) (results_ct Tryz.results11 _ _ ⟨b3, 0, none⟩ rfl _ hld) rfl ⟨rfl, HX.out.drop 3⟩
end
section
open Go.ChangeMaps Go.MapKept Go.RowKit
theorem tpsC_name : ∀ (L : List Tp) (m : Nat) (t : Tp), L[m]? = some t → (tpsC L)[m * 8]? = some (.string t.nm)
  | [], m, t, h => by cases h
  | a :: L, 0, t, h => by
    cases h
    rfl
  | a :: L, m + 1, t, h => by
    have e : tpsC (a :: L) = a.cells.toList ++ tpsC L := rfl
    have hl : a.cells.toList.length = 8 := rfl
    rw [e, List.getElem?_append_right (by rw [hl]; omega), hl, show (m + 1) * 8 - 8 = m * 8 by omega]
    exact tpsC_name L m t h
theorem own_name {w : World} {base n cap : Nat} {a : Option Addr} {L : List Tp} (h : w.ownsRow base 31 8 (.slice a n cap) L.length (tpsC L)) {g : Nat} (hg : a = some ⟨g, 0, none⟩) {m : Nat} {t : Tp} (ht : L[m]? = some t) : w.cell? ⟨g, m * 8, none⟩ = some (.string t.nm) := by
  subst hg
  rcases h.2 with ⟨e, h0⟩ | ⟨g', cap', cur, e, h2, h3, h4, h5, h6, h7⟩
  · cases e
  · injection e with e1 e2 e3
    injection e1 with e1
    injection e1 with e1
    subst e1
    refine (cell_of_block h3).trans ?_
    have hm := (List.getElem?_eq_some_iff.1 ht).1
    rw [← Array.getElem?_toList, ← List.getElem?_take_of_lt (show m * 8 < L.length * 8 by omega), h7]
    exact tpsC_name L m t ht
theorem _root_.Go.World.ownsRow.frm0 {w w' : World} {base n size : Nat} {e : TypeId} {v : Value} {xs : List Value} (h : w.ownsRow base e size v n xs) (hf : Frm NoB w w') : w'.ownsRow base e size v n xs := by
  refine ⟨h.1, ?_⟩
  rcases h.2 with h | ⟨g, cap, cur, h1, h2, h3, h4⟩
  · exact .inl h
  · exact .inr ⟨g, cap, cur, h1, h2, (hf.block g (lt_of_block h3) (fun e => e)).trans h3, h4⟩
theorem CatI.cat {w0 : Gnd} {w : World} {rs : List Res} {fb cb next used ops : Nat} {L : List Tp} (h : CatI w0 w fb cb next used ops L rs) : CatL L := by
  obtain ⟨F, X, A, ι, mb, n, D, rfl, hf, hc, hr⟩ := h
  exact hr.cat
theorem CatI.asc {w0 : Gnd} {w : World} {rs : List Res} {fb cb next used ops : Nat} {L : List Tp} (h : CatI w0 w fb cb next used ops L rs) (i j : Nat) (x y : Tp) (hx : L[i]? = some x) (hy : L[j]? = some y) (hij : i < j) : lessN x.nm y.nm = true := by
  obtain ⟨g1, g2⟩ := List.getElem?_eq_some_iff.1 hx
  obtain ⟨g3, g4⟩ := List.getElem?_eq_some_iff.1 hy
  have := List.pairwise_iff_getElem.1 h.cat.asc i j g1 g3 hij
  rw [g2, g4] at this
  exact this
theorem ci_CreateBig {w0 : Gnd} {w : World} {rs : List Res} {fb cb next used ops : Nat} {L : List Tp} (h : CatI w0 w fb cb next used ops L rs) (h20 : L.length = 20) {P : Nat} (hP : 1 ≤ P ∧ P ≤ 8) {nm : ByteArray} (hn50 : nm.size ≤ 50) (hN : Named nm true) (hno : ∀ x ∈ L, x.nm ≠ nm) {p3 p4 p5 : Int} {p6 : Bool} {p7 : Int} (hs : SetOk p3 p4 p5 p7) :
    Calls Tryz.prog 11 #[.pointer (some ⟨cb, 0, none⟩), .string nm, .int .i64 P, .agg (stz p3 p4 p5 p6 p7)] w fun e w' => e = .returned (.tuple #[.agg (tpz ByteArray.empty 0 0 0 0 0 false 0), .int .i64 2]) ∧ CatI w0 w' fb cb next used ops L rs := by
  obtain ⟨F, X, A, ι, mb, n, D, rfl, hf, hc, hr⟩ := h
  refine (c_CreateBig hf hr.cat h20 hP hn50 hN hno p3 p4 p5 p6 p7 hs.h1 hs.h2 hs.h3 hs.h4).mono ?_
  rintro e w' ⟨he, hf'⟩
  exact ⟨he, F, X, A, ι, mb, n, D, rfl, hf', hc, hr⟩
set_option maxHeartbeats 4000000 in
set_option maxRecDepth 100000 in
theorem catalogMany_in (w : World) (N M : Nat) (hN : N ≤ 24) (hM : M ≤ 10) :
    Calls Tryz.prog 3 #[.int .i64 N, .int .i64 M] w fun e w' => e = .returned (.bool true) ∧ Frm NoB w w' := by
  obtain ⟨w1, hw1⟩ : ∃ w1, w = w1 := ⟨_, rfl⟩
  rw [hw1]
  clear hw1
  have n0 : (0 : Int) ≤ (N : Int) := Int.natCast_nonneg _
  have n1 : (N : Int) ≤ 24 := by omega
  have m0 : (0 : Int) ≤ (M : Int) := Int.natCast_nonneg _
  have m1 : (M : Int) ≤ 10 := by omega
  have g1 : ¬ (N : Int) < 0 := by omega
  have g2 : ¬ (24 : Int) < (N : Int) := by omega
  have g3 : ¬ (M : Int) < 0 := by omega
  have g4 : ¬ (10 : Int) < (M : Int) := by omega
  have HF := Lib.hid (ci_fresh (St.start w1))
  go_enter Tryz.func3, Tryz.ntmps3
  go_wp2_with fail
  refine HF.out.mono ?_
  clear HF
  rintro e w2 ⟨hb, fb, cb, rfl, h2⟩
  have H2 := Lib.hid h2
  clear h2 g1 g2 g3 g4
  go_wp2_with fail
  go_loopw [9, 11] (fun t9 t11 wr => ∃ (i : Nat) (L : List Tp), i ≤ N ∧ t9 = .int .i64 i ∧ Hid (CatI w1 wr fb cb (min i 20 + 1) (min i 20) (min i 20) L [] ∧ ManyL i L)) (fun t9 _ _ => N - (intOf t9).toNat)
  case atStart => exact ⟨0, [], Nat.zero_le _, rfl, Lib.hid ⟨H2.out, ManyL.start⟩⟩
  case round =>
    clear H2
    obtain ⟨i, L, hi, rfl, HR⟩ := hrel
    have i0 : (0 : Int) ≤ (i : Int) := Int.natCast_nonneg _
    by_cases hlt : i < N
    · have i1 : (i : Int) < (N : Int) := by omega
      have i2 : (i : Int) < 24 := by omega
      have hk : i * 7 % 25 < 25 := by omega
      have HD : Hid (∀ W, Calls Tryz.prog 12 #[.int .i64 ((i : Int) * 7 % 25)] W fun e w' => e = .returned (.string (decN (i * 7 % 25))) ∧ Frm NoB W w') := Lib.hid fun W => by
        have := r_Decimal W (i * 7 % 25) (by omega)
        rw [show (((i * 7 % 25 : Nat)) : Int) = (i : Int) * 7 % 25 by omega] at this
        exact this
      have HK := Lib.hid (And.intro hlt hk)
      clear hk hlt
      go_wp2_with fail
      refine (HD.out _).mono ?_
      rintro e w3 ⟨rfl, hf3⟩
      have HR3 := Lib.hid (HR.out.1.frm hf3)
      have HM := Lib.hid HR.out.2
      obtain ⟨sz, hsz⟩ : ∃ sz, (decN (i * 7 % 25)).size = sz := ⟨_, rfl⟩
      have z0 : (0 : Int) ≤ (sz : Int) := Int.natCast_nonneg _
      have z1 : (sz : Int) ≤ 2 := by have := dec_size (i * 7 % 25) (by omega); split at this <;> omega
      have hlp : (⟨#[116]⟩ : ByteArray).size = 1 := rfl
      clear hf3 HD HR
      have HE : Hid ((⟨#[116]⟩ : ByteArray) ++ decN (i * 7 % 25) = tN (i * 7 % 25)) := Lib.hid rfl
      go_wp2_with fail
      refine (p_plain w3).mono ?_
      rintro e w4 ⟨rfl, hf4⟩
      have HR4 := Lib.hid (HR3.out.frm hf4)
      clear hf4 HR3
      obtain ⟨nm, hnm⟩ : ∃ nm, (⟨#[116]⟩ : ByteArray) ++ decN (i * 7 % 25) = nm := ⟨_, rfl⟩
      have hnt : nm = tN (i * 7 % 25) := by rw [← hnm]; rfl
      rw [hnm]
      have hok : NameOk nm := by rw [hnt]; exact tN_ok HK.out.2
      have hfr : ∀ x ∈ L, x.nm ≠ nm := by rw [hnt]; exact HM.out.fresh (by have := HK.out.1; omega)
      by_cases h20 : i < 20
      · have i20 : (i : Int) < 20 := by omega
        have hlen : L.length < 20 := by rw [HM.out.len]; omega
        have HC : Hid (Calls Tryz.prog 11 #[.pointer (some ⟨cb, 0, none⟩), .string nm, .int .i64 1, .agg (stz 600 (-1) (-1) false 0)] w4 fun e w' => e = .returned (.tuple #[.agg (tpz nm ((i : Int) + 1) 1 600 (-1) (-1) false 0), .int .i64 0]) ∧ CatI w1 w' fb cb (i + 1 + 1) (i + 1) (i + 1) (insT ⟨nm, ((i : Int) + 1), 1, 600, -1, -1, false, 0⟩ L) []) := Lib.hid (by
          have h4 := HR4.out
          rw [show min i 20 = i by omega] at h4
          exact ci_Create h4 hlen (by omega) (P := 1) (by decide) (by omega) (by omega) hok.size.2 (named hok) hfr (p6 := false) setPlain)
        have HML : Hid (ManyL (i + 1) (insT ⟨nm, ((i : Int) + 1), 1, 600, -1, -1, false, 0⟩ L)) := Lib.hid (HM.out.succ h20 hnt)
        have H20 := Lib.hid h20
        clear HR4 HM hok hfr hlen h20 hnm hnt HE hsz z0 z1 hlp
        go_wp2_with fail
        refine HC.out.mono ?_
        clear HC
        rintro e w5 ⟨rfl, h5⟩
        have HK0 := Lib.hid (block_alloc_new w5 (.cells (tpz ByteArray.empty 0 0 0 0 0 false 0) 31 (0, 0)))
        have H6 := Lib.hid (h5.frm (((Frm.refl NoB w5).alloc (.cells (tpz ByteArray.empty 0 0 0 0 0 false 0) 31 (0, 0))).setRowNew (Nat.le_refl _) (tpz nm ((i : Int) + 1) 1 600 (-1) (-1) false 0)))
        have HBK := Lib.hid (setRow_heap _ _ _ (tpz nm ((i : Int) + 1) 1 600 (-1) (-1) false 0) _ _ HK0.out)
        clear h5
        go_upto_region 10 with (first | (refine allocRow rfl _ _ zeroTp rfl ?_) | (refine storeTp rfl _ _ rfl w5.heap.size nm ((i : Int) + 1) 1 600 (-1) (-1) false 0 rfl rfl _ rfl HK0.out ?_))
        clear HK0
        obtain ⟨w6, hwn⟩ : ∃ w6, (w5.alloc (.cells (tpz ByteArray.empty 0 0 0 0 0 false 0) 31 (0, 0))).setRow w5.heap.size (tpz nm ((i : Int) + 1) 1 600 (-1) (-1) false 0) = w6 := ⟨_, rfl⟩
        obtain ⟨g6, hgn⟩ : ∃ g6, w5.heap.size = g6 := ⟨_, rfl⟩
        show Code.wp Tryz.prog _ _ _ ((w5.alloc (.cells (tpz ByteArray.empty 0 0 0 0 0 false 0) 31 (0, 0))).setRow w5.heap.size (tpz nm ((i : Int) + 1) 1 600 (-1) (-1) false 0))
        rw [hwn] at H6 HBK ⊢
        rw [hgn] at HBK ⊢
        clear hwn hgn
        have e6 : w6.cell? ⟨g6, 1, none⟩ = some (.int .i64 ((i : Int) + 1)) := (cell_of_block HBK.out).trans rfl
        clear HBK
        have hlt2 := HK.out.1
        have HQ : Hid (CatI w1 w6 fb cb (min (i + 1) 20 + 1) (min (i + 1) 20) (min (i + 1) 20) (insT ⟨nm, ((i : Int) + 1), 1, 600, -1, -1, false, 0⟩ L) [] ∧ ManyL (i + 1) (insT ⟨nm, ((i : Int) + 1), 1, 600, -1, -1, false, 0⟩ L)) := Lib.hid ⟨by rw [show min (i + 1) 20 = i + 1 by have := H20.out; omega]; exact H6.out, HML.out⟩
        clear H6 HML
        go_wp2_with fail
        exact ⟨⟨i + 1, _, hlt2, by go_num, HQ⟩, by simp [intOf]; omega⟩
      · have i20 : ¬ (i : Int) < 20 := by omega
        have i20' : (20 : Int) ≤ (i : Int) := by omega
        have hlen : L.length = 20 := by rw [HM.out.len]; omega
        have HC : Hid (Calls Tryz.prog 11 #[.pointer (some ⟨cb, 0, none⟩), .string nm, .int .i64 1, .agg (stz 600 (-1) (-1) false 0)] w4 fun e w' => e = .returned (.tuple #[.agg (tpz ByteArray.empty 0 0 0 0 0 false 0), .int .i64 2]) ∧ CatI w1 w' fb cb (min i 20 + 1) (min i 20) (min i 20) L []) := Lib.hid (ci_CreateBig HR4.out hlen (P := 1) (by decide) hok.size.2 (named hok) hfr (p6 := false) setPlain)
        have HML : Hid (ManyL (i + 1) L) := Lib.hid (HM.out.more (by omega))
        have H20 := Lib.hid h20
        clear HR4 HM hok hfr hlen h20 hnm hnt HE hsz z0 z1 hlp
        go_wp2_with fail
        refine HC.out.mono ?_
        clear HC
        rintro e w5 ⟨rfl, h5⟩
        have HK0 := Lib.hid (block_alloc_new w5 (.cells (tpz ByteArray.empty 0 0 0 0 0 false 0) 31 (0, 0)))
        have H6 := Lib.hid (h5.frm (((Frm.refl NoB w5).alloc (.cells (tpz ByteArray.empty 0 0 0 0 0 false 0) 31 (0, 0))).setRowNew (Nat.le_refl _) (tpz ByteArray.empty 0 0 0 0 0 false 0)))
        have HBK := Lib.hid (setRow_heap _ _ _ (tpz ByteArray.empty 0 0 0 0 0 false 0) _ _ HK0.out)
        clear h5
        go_upto_region 10 with (first | (refine allocRow rfl _ _ zeroTp rfl ?_) | (refine storeTp rfl _ _ rfl w5.heap.size ByteArray.empty 0 0 0 0 0 false 0 rfl rfl _ rfl HK0.out ?_))
        clear HK0
        obtain ⟨w6, hwn⟩ : ∃ w6, (w5.alloc (.cells (tpz ByteArray.empty 0 0 0 0 0 false 0) 31 (0, 0))).setRow w5.heap.size (tpz ByteArray.empty 0 0 0 0 0 false 0) = w6 := ⟨_, rfl⟩
        obtain ⟨g6, hgn⟩ : ∃ g6, w5.heap.size = g6 := ⟨_, rfl⟩
        show Code.wp Tryz.prog _ _ _ ((w5.alloc (.cells (tpz ByteArray.empty 0 0 0 0 0 false 0) 31 (0, 0))).setRow w5.heap.size (tpz ByteArray.empty 0 0 0 0 0 false 0))
        rw [hwn] at H6 HBK ⊢
        rw [hgn] at HBK ⊢
        clear hwn hgn
        clear HBK
        have hlt2 := HK.out.1
        have HQ : Hid (CatI w1 w6 fb cb (min (i + 1) 20 + 1) (min (i + 1) 20) (min (i + 1) 20) L [] ∧ ManyL (i + 1) L) := Lib.hid ⟨by rw [show min (i + 1) 20 = min i 20 by have := H20.out; omega]; exact H6.out, HML.out⟩
        clear H6 HML
        go_wp2_with fail
        exact ⟨⟨i + 1, _, hlt2, by go_num, HQ⟩, by simp [intOf]; omega⟩
    · obtain rfl : i = N := by omega
      have HLs := Lib.hid (ci_List HR.out.1)
      have HM := Lib.hid HR.out.2
      clear HR hlt hi
      have hlen : (L.length : Int) = min (i : Int) 20 := by rw [HM.out.len]; omega
      go_wp2_with fail
      refine HLs.out.mono ?_
      clear HLs
      rintro e w7 ⟨v, rfl, hv, h7⟩
      obtain ⟨a, cap, rfl⟩ : ∃ a cap, v = .slice a L.length cap := by
        rcases hv.2 with ⟨rfl, h0⟩ | ⟨g, cap, cur, rfl, -⟩
        · exact ⟨none, 0, by rw [h0]⟩
        · exact ⟨_, _, rfl⟩
      have HV := Lib.hid hv
      have H7 := Lib.hid h7
      have l0 : (0 : Int) ≤ (L.length : Int) := Int.natCast_nonneg _
      have l1 : (L.length : Int) ≤ 20 := by have := HM.out.len; omega
      have hsome : 0 < L.length → ∃ g, a = some ⟨g, 0, none⟩ := fun h => by
        rcases hv.2 with ⟨e, h0⟩ | ⟨g, cap', cur, e, -⟩
        · omega
        · injection e with e1 _ _
          exact ⟨g, e1⟩
      have HSome := Lib.hid hsome
      have HRow : Hid (∀ W, Frm NoB w7 W → ∀ g, a = some ⟨g, 0, none⟩ → ∀ m t, L[m]? = some t → W.cell? ⟨g, m * 8, none⟩ = some (.string t.nm)) := Lib.hid fun W hW g hg m t ht => own_name (hv.frm0 hW) hg ht
      clear hv h7 hsome
      go_wp2_with fail
      go_loopw [13] (fun t13 wr => ∃ j : Nat, 1 ≤ j ∧ t13 = .int .i64 j ∧ Hid (Frm NoB w7 wr)) (fun t13 _ => L.length - (intOf t13).toNat)
      case atStart => exact ⟨1, Nat.le_refl _, rfl, Lib.hid (Frm.refl _ _)⟩
      case round =>
        obtain ⟨j, hj, rfl, HFr⟩ := hrel
        have j1 : (1 : Int) ≤ (j : Int) := by omega
        by_cases hjl : j < L.length
        · have jl : (j : Int) < (L.length : Int) := by omega
          obtain ⟨g, rfl⟩ := HSome.out (by omega)
          obtain ⟨x, hx⟩ : ∃ x, L[j - 1]? = some x := ⟨_, List.getElem?_eq_getElem (by omega)⟩
          obtain ⟨y, hy⟩ : ∃ y, L[j]? = some y := ⟨_, List.getElem?_eq_getElem hjl⟩
          have hcx := HRow.out _ HFr.out g rfl _ _ hx
          have hcy := HRow.out _ HFr.out g rfl _ _ hy
          have HLe : Hid (lessN x.nm y.nm = true) := Lib.hid (H7.out.asc _ _ _ _ hx hy (by omega))
          clear hx hy
          obtain ⟨xn, hxn⟩ : ∃ xn, x.nm = xn := ⟨_, rfl⟩
          obtain ⟨yn, hyn⟩ : ∃ yn, y.nm = yn := ⟨_, rfl⟩
          rw [hxn, hyn] at HLe
          rw [hxn] at hcx
          rw [hyn] at hcy
          clear hxn hyn
          have hbl : Op.bytesLess xn.toList yn.toList = true := HLe.out
          go_upto_region 18 with fail
          go_quiet (fail)
          go_wp2_with fail
          have HF2 : Hid (Frm NoB w7 (wr.drewN nq)) := Lib.hid (HFr.out.trans ⟨rfl, rfl, rfl, Nat.le_refl _, fun _ _ _ => rfl⟩ (fun _ _ e => e))
          exact ⟨⟨j + 1, by omega, by go_num, HF2⟩, by simp [intOf]; omega⟩
        · have jl : ¬ (j : Int) < (L.length : Int) := by omega
          have HI := Lib.hid (H7.out.frm HFr.out)
          clear HFr H7 HRow HSome
          by_cases hi0 : i = 0
          · subst hi0
            go_wp2_with fail
            refine (awake17_any HI.out.st).mono ?_
            rintro e w8 ⟨rfl, h8⟩
            have H8 := Lib.hid h8.base
            clear h8
            go_wp2
            go_ret
            exact ⟨rfl, H8.out⟩
          · have hi0' : ¬ (i : Int) = 0 := by omega
            have hib : ((i : Int) == 0) = false := beq_eq_false_iff_ne.2 hi0'
            obtain ⟨c, hc⟩ : ∃ c, min i 20 = c := ⟨_, rfl⟩
            have hmin : min (i : Int) 20 = (c : Int) := by omega
            have c0 : (1 : Int) ≤ (c : Int) := by omega
            have c1 : (c : Int) ≤ 20 := by omega
            have hz := HM.out.zero (by omega)
            rw [tN0] at hz
            have hll := HM.out.len
            rw [hc] at hll HI
            have HQ0 := Lib.hid (And.intro HI.out (And.intro hll hz))
            clear HM HI hll hz hc hlen l0 l1 jl hj j1
            go_wp2_with fail
            go_loopw [14, 15, 17] (fun t14 t15 t17 wr => ∃ (k : Nat) (L : List Tp), k ≤ M ∧ t15 = .int .i64 k ∧ t14 = .int .i64 ((c : Int) + (k : Int)) ∧ Hid (CatI w1 wr fb cb (c + 1 + k) (c + k) (c + 2 * k) L [] ∧ L.length = c ∧ ∃ x ∈ L, x.nm = ⟨#[116, 48]⟩)) (fun _ t15 _ _ => M - (intOf t15).toNat)
            case atStart => exact ⟨0, L, Nat.zero_le _, rfl, by simp, HQ0⟩
            case round =>
              clear HQ0 hmin hi0 hi0'
              obtain ⟨k, L3, hk, rfl, rfl, HQ⟩ := hrel
              have k0 : (0 : Int) ≤ (k : Int) := Int.natCast_nonneg _
              by_cases hkM : k < M
              · have kM : (k : Int) < (M : Int) := by omega
                obtain ⟨x, hx, hxn⟩ := HQ.out.2.2
                have HDel : Hid (Calls Tryz.prog 15 #[.pointer (some ⟨cb, 0, none⟩), .string ⟨#[116, 48]⟩] wr fun e w' => e = .returned (.int .i64 0) ∧ CatI w1 w' fb cb (c + 1 + k) (c + k) (c + 2 * k + 1) (delT ⟨#[116, 48]⟩ L3) []) := Lib.hid (by
                  have := ci_Delete HQ.out.1 (by omega) hx (named (by rw [hxn, ← tN0]; exact tN_ok (by decide)))
                  rw [hxn] at this
                  exact this)
                have HL3 : Hid ((delT ⟨#[116, 48]⟩ L3).length + 1 = c) := Lib.hid (by
                  have := HQ.out.1.cat.del_length hx
                  rw [hxn, HQ.out.2.1] at this
                  exact this)
                have HK := Lib.hid hkM
                clear hx hxn hkM HQ
                go_wp2_with fail
                refine HDel.out.mono ?_
                clear HDel
                rintro e w8 ⟨rfl, h8⟩
                have H8 := Lib.hid h8
                clear h8
                go_wp2_with fail
                refine (p_plain w8).mono ?_
                rintro e w9 ⟨rfl, hf9⟩
                have HC : Hid (Calls Tryz.prog 11 #[.pointer (some ⟨cb, 0, none⟩), .string ⟨#[116, 48]⟩, .int .i64 1, .agg (stz 600 (-1) (-1) false 0)] w9 fun e w' => e = .returned (.tuple #[.agg (tpz ⟨#[116, 48]⟩ ((c : Int) + (k : Int) + 1) 1 600 (-1) (-1) false 0), .int .i64 0]) ∧ CatI w1 w' fb cb (c + 1 + k + 1) (c + k + 1) (c + 2 * k + 1 + 1) (insT ⟨⟨#[116, 48]⟩, ((c + 1 + k : Nat) : Int), 1, 600, -1, -1, false, 0⟩ (delT ⟨#[116, 48]⟩ L3)) []) := Lib.hid (by
                  have := ci_Create (H8.out.frm hf9) (by have := HL3.out; omega) (by omega) (P := 1) (by decide) (by omega) (by omega) (nm := ⟨#[116, 48]⟩) (by decide) (named (by rw [← tN0]; exact tN_ok (by decide))) (fun y hy => (mem_delT.1 hy).2) (p6 := false) setPlain
                  rw [show (((c + 1 + k : Nat)) : Int) = (c : Int) + (k : Int) + 1 by omega] at this
                  rw [show (((c + 1 + k : Nat)) : Int) = (c : Int) + (k : Int) + 1 by omega]
                  exact this)
                clear hf9 H8
                go_wp2_with fail
                refine HC.out.mono ?_
                clear HC
                rintro e w10 ⟨rfl, h10⟩
                have HK0 := Lib.hid (block_alloc_new w10 (.cells (tpz ByteArray.empty 0 0 0 0 0 false 0) 31 (0, 0)))
                have H6 := Lib.hid (h10.frm (((Frm.refl NoB w10).alloc (.cells (tpz ByteArray.empty 0 0 0 0 0 false 0) 31 (0, 0))).setRowNew (Nat.le_refl _) (tpz ⟨#[116, 48]⟩ ((c : Int) + (k : Int) + 1) 1 600 (-1) (-1) false 0)))
                have HBK := Lib.hid (setRow_heap _ _ _ (tpz ⟨#[116, 48]⟩ ((c : Int) + (k : Int) + 1) 1 600 (-1) (-1) false 0) _ _ HK0.out)
                clear h10
                go_upto_region 29 with (first | (refine allocRow rfl _ _ zeroTp rfl ?_) | (refine storeTp rfl _ _ rfl w10.heap.size ⟨#[116, 48]⟩ ((c : Int) + (k : Int) + 1) 1 600 (-1) (-1) false 0 rfl rfl _ rfl HK0.out ?_))
                clear HK0
                obtain ⟨w11, hwn⟩ : ∃ w11, (w10.alloc (.cells (tpz ByteArray.empty 0 0 0 0 0 false 0) 31 (0, 0))).setRow w10.heap.size (tpz ⟨#[116, 48]⟩ ((c : Int) + (k : Int) + 1) 1 600 (-1) (-1) false 0) = w11 := ⟨_, rfl⟩
                obtain ⟨g6, hgn⟩ : ∃ g6, w10.heap.size = g6 := ⟨_, rfl⟩
                show Code.wp Tryz.prog _ _ _ ((w10.alloc (.cells (tpz ByteArray.empty 0 0 0 0 0 false 0) 31 (0, 0))).setRow w10.heap.size (tpz ⟨#[116, 48]⟩ ((c : Int) + (k : Int) + 1) 1 600 (-1) (-1) false 0))
                rw [hwn] at H6 HBK ⊢
                rw [hgn] at HBK ⊢
                clear hwn hgn
                have e6 : w11.cell? ⟨g6, 1, none⟩ = some (.int .i64 ((c : Int) + (k : Int) + 1)) := (cell_of_block HBK.out).trans rfl
                clear HBK
                have hlt2 := HK.out
                have HQ2 : Hid (CatI w1 w11 fb cb (c + 1 + (k + 1)) (c + (k + 1)) (c + 2 * (k + 1)) (insT ⟨⟨#[116, 48]⟩, ((c + 1 + k : Nat) : Int), 1, 600, -1, -1, false, 0⟩ (delT ⟨#[116, 48]⟩ L3)) [] ∧ (insT ⟨⟨#[116, 48]⟩, ((c + 1 + k : Nat) : Int), 1, 600, -1, -1, false, 0⟩ (delT ⟨#[116, 48]⟩ L3)).length = c ∧ ∃ x ∈ (insT ⟨⟨#[116, 48]⟩, ((c + 1 + k : Nat) : Int), 1, 600, -1, -1, false, 0⟩ (delT ⟨#[116, 48]⟩ L3)), x.nm = ⟨#[116, 48]⟩) := Lib.hid ⟨by rw [show c + 1 + (k + 1) = c + 1 + k + 1 by omega, show c + (k + 1) = c + k + 1 by omega, show c + 2 * (k + 1) = c + 2 * k + 1 + 1 by omega]; exact H6.out, by rw [insT_length]; exact HL3.out, _, (mem_insT _ _ _).2 (.inl rfl), rfl⟩
                clear H6 HL3
                go_wp2_with fail
                have e14 : Value.int .i64 ((c : Int) + (k : Int) + 1) = Value.int .i64 ((c : Int) + ((k + 1 : Nat) : Int)) := congrArg (Value.int .i64) (by omega)
                have e15 : Value.int .i64 ((k : Int) + 1) = Value.int .i64 ((k + 1 : Nat) : Int) := congrArg (Value.int .i64) (by omega)
                go_roundw
                case rel => exact ⟨k + 1, _, hlt2, e15, e14, HQ2⟩
                case measure =>
                  show M - ((k : Int) + 1).toNat < M - ((k : Int)).toNat
                  omega
              · obtain rfl : k = M := by omega
                have HI := Lib.hid HQ.out.1.st
                clear HQ hk
                go_wp2_with fail
                refine (awake17_any HI.out).mono ?_
                rintro e w8 ⟨rfl, h8⟩
                have H8 := Lib.hid h8.base
                clear h8
                go_wp2
                go_ret
                exact ⟨rfl, H8.out⟩
theorem catalogMany_any (w : World) (n m : Int) :
    Calls Tryz.prog 3 #[.int .i64 n, .int .i64 m] w fun e w' => e = .returned (.bool true) ∧ Frm NoB w w' := by
  by_cases hg : 0 ≤ n ∧ n ≤ 24 ∧ 0 ≤ m ∧ m ≤ 10
  · obtain ⟨N, rfl⟩ : ∃ N : Nat, n = N := ⟨n.toNat, by omega⟩
    obtain ⟨M, rfl⟩ : ∃ M : Nat, m = M := ⟨m.toNat, by omega⟩
    exact catalogMany_in w N M (by omega) (by omega)
  · have HA := Lib.hid (awake17_any (St.start w))
    by_cases h1 : n < 0
    · go_enter Tryz.func3, Tryz.ntmps3
      go_wp2_with fail
      refine HA.out.mono ?_
      rintro e w8 ⟨rfl, h8⟩
      have H8 := Lib.hid h8.base
      clear h8
      go_wp2
      go_ret
      exact ⟨rfl, H8.out⟩
    · by_cases h2 : 24 < n
      · go_enter Tryz.func3, Tryz.ntmps3
        go_wp2_with fail
        refine HA.out.mono ?_
        rintro e w8 ⟨rfl, h8⟩
        have H8 := Lib.hid h8.base
        clear h8
        go_wp2
        go_ret
        exact ⟨rfl, H8.out⟩
      · by_cases h3 : m < 0
        · go_enter Tryz.func3, Tryz.ntmps3
          go_wp2_with fail
          refine HA.out.mono ?_
          rintro e w8 ⟨rfl, h8⟩
          have H8 := Lib.hid h8.base
          clear h8
          go_wp2
          go_ret
          exact ⟨rfl, H8.out⟩
        · have h4 : 10 < m := by omega
          go_enter Tryz.func3, Tryz.ntmps3
          go_wp2_with fail
          refine HA.out.mono ?_
          rintro e w8 ⟨rfl, h8⟩
          have H8 := Lib.hid h8.base
          clear h8
          go_wp2
          go_ret
          exact ⟨rfl, H8.out⟩
end
end Go.Proofs.YtlemndledcmhiaaGreatDoor
