/-
  JournalOwn: what is handed in is neither changed nor kept, what is read is one's own.
-/
import Derived.Test.YtkanfpmmgaipnaaJlwP
namespace Go.Proofs.Ytkanfpmmgaipnaa
set_option linter.unusedVariables false
open Go.ChangeMaps Go.MapKept Go.RowKit

/-! ### Writes into the zone -/

/-- Objects that hold whatever is written into the zone. -/
def Keeps (r : Res) : Prop := ∀ Z w w' N, r.inv Z w → Frm N w w' → (∀ x, N x → Z x) → (∀ x, N x → ¬ r.M x) → r.inv Z w'

theorem keepsArr (b : Nat) (c : Array Value) (t : TypeId) (ht : ¬ U8T t) : Keeps (arr b c t ht) := fun Z w w' N H hf hN ha => (hf.block b (lt_of_block H) (fun h => ha b h rfl)).trans H

theorem keepsRow (t : TypeId) (ht : ¬ U8T t) (s : Nat) (v : Value) (n : Nat) (xs : List Value) : Keeps (rowR t ht s v n xs) := fun Z w w' N H hf hN ha =>
  ownsRow_of_block H (fun g hg => hf.block g (World.ownsRow.lt H g hg).2 (fun h => ha g h hg))

theorem keepsChg (mb sl : Nat) (dt : List Blk) : Keeps (chg mb sl dt) := fun Z w w' N H hf hN ha => by
  obtain ⟨n, f, h, hb⟩ := H
  refine ⟨n, f, h.of_block (hf.block mb h.lt (fun h => ha mb h rfl)), fun i b hi => ?_⟩
  obtain ⟨v, h1, h2⟩ := hb i b hi
  exact ⟨v, h1, h2.frmOwn hf hN⟩

theorem Keeps.and {r s : Res} (hr : Keeps r) (hs : Keeps s) : Keeps (r.and s) := fun Z w w' N H hf hN ha =>
  ⟨hr Z w w' N H.1 hf hN (fun x hx h => ha x hx (.inl h)), hs Z w w' N H.2.1 hf hN (fun x hx h => ha x hx (.inr h)), H.2.2⟩

theorem keepsDev (H : Hdl) (D : DSt) : Keeps (dev H D) := fun Z w w' N h hf hN ha => DevIn.frmOwn h hf hN (fun x hx h => ha x hx h)

theorem keepsJrn (H : Hdl) (h : JHdl) (J : JSt) : Keeps (jrn H h J) := (keepsArr _ _ _ _).and ((keepsRow _ _ _ _ _ _).and (keepsChg _ _ _))

/-- A block that is not there yet is taken into the zone. -/
theorem St.enzone {w1 w w' : World} {Z : Nat → Prop} {rs : List Res} (h : St ⟨w1, Z⟩ w rs) (hf : Frm NoB w w') (z : Nat) (hz : w.heap.size ≤ z) (hz' : z < w'.heap.size) : St ⟨w1, fun x => Z x ∨ x = z⟩ w' rs := by
  refine ⟨h.base.trans hf (fun _ _ e => e), fun x hx => ?_, fun r hr => ?_, h.new, h.apart⟩
  · rcases hx with hx | hx
    · exact Nat.lt_of_lt_of_le (h.zin x hx) hf.size
    · rw [hx]; exact hz'
  · have h1 : r.inv (fun x => Z x ∨ x = z) w := r.zone Z _ w (h.inv r hr) (fun x hx hlt => by
      rcases hx with hx | hx
      · exact hx
      · omega) (fun x hx => .inl hx)
    exact r.keep _ w w' NoB h1 hf (Dry.none w) (fun _ _ e => e)

/-- A byte of the zone is written. -/
theorem St.own {w0 : Gnd} {w : World} {rs : List Res} (h : St w0 w rs) (hk : ∀ r ∈ rs, Keeps r) {z i : Nat} (hz : w0.Z z) (hw : w0.w.heap.size ≤ z) {c : Array Value} (hc : IsC w z c) (u : Value) : St w0 (w.setCell ⟨z, i, none⟩ u) rs := by
  have hf : Frm (Only z) w (w.setCell ⟨z, i, none⟩ u) := (Frm.refl (Only z) w).setOnly u
  refine ⟨h.base.trans hf (fun x hx hM => ?_), fun x hx => Nat.lt_of_lt_of_le (h.zin x hx) hf.size, fun r hr => ?_, h.new, h.apart⟩
  · have : x = z := hM
    omega
  · refine hk r hr _ w _ (Only z) (h.inv r hr) hf (fun x hx => ?_) (fun x hx hM => ?_)
    · have : x = z := hx
      rw [this]; exact hz
    · have e : x = z := hx
      rw [e] at hM
      exact r.dry _ w (h.inv r hr) z hM c hc

theorem BytesAt.room {w : World} {v : Value} {bs : List UInt8} {R : Nat → Prop} (h : BytesAt w v bs R) (hn : 0 < bs.length) : ∃ b o cap c, v = .slice (some ⟨b, o, none⟩) bs.length cap ∧ IsC w b c ∧ o + bs.length ≤ c.size ∧ R b := by
  obtain ⟨b, o, cap, c, h1, h2, h3, h4, h5⟩ := h
  refine ⟨b, o, cap, c, h1, h3, ?_, h5⟩
  have := h4 (bs.length - 1) (by omega)
  have := (Array.getElem?_eq_some_iff.1 this).1
  omega

theorem BytesAt.room2 {w : World} {b o n cap : Nat} {bs : List UInt8} {R : Nat → Prop} (h : BytesAt w (.slice (some ⟨b, o, none⟩) n cap) bs R) (hn : 0 < bs.length) (hb : bs.length = n) : ∃ c, IsC w b c ∧ o + n ≤ c.size := by
  obtain ⟨b', o', cap', c, e, h1, h2, _⟩ := h.room hn
  injection e with e1 e2 e3
  injection e1 with e1
  injection e1 with e1 e4
  subst e1 e4
  exact ⟨c, h1, by omega⟩

set_option maxHeartbeats 1000000 in
set_option maxRecDepth 100000 in
theorem journalOwn_any (w : World) (v k : Int) (hk : okI k) :
    Calls Try.prog 13 #[.int .i64 v, .int .i64 k] w fun e w' => e = .returned (.bool true) ∧ Frm NoB w w' := by
  obtain ⟨w1, hw1⟩ : ∃ w1, w = w1 := ⟨_, rfl⟩
  rw [hw1]
  clear hw1
  have HK := Lib.hid hk
  have HF := Lib.hid (S_fresh (St.start w1))
  clear hk
  go_enter Try.func13, Try.ntmps13
  go_wp2_with fail
  refine HF.out.mono ?_
  clear HF
  rintro e w2 ⟨H, jh, J, D, rfl, h1, hl1, hlim1, hops1⟩
  have HL := Lib.hid hl1
  have HLI := Lib.hid hlim1
  have HOP := Lib.hid hops1
  have H1 := Lib.hid (show St w1 w2 (jrn H jh J :: dev H D :: []) from h1)
  clear h1 hl1 hlim1 hops1
  go_wp2_with fail
  refine (Round_any _ k 30 HK.out (by omega) (by omega)).mono ?_
  rintro e w3 ⟨rfl, rfl⟩
  obtain ⟨m, hm⟩ : ∃ m : Nat, k % 30 = m := ⟨(k % 30).toNat, by omega⟩
  rw [hm]
  have hm0 : (0 : Int) ≤ (m : Int) := Int.natCast_nonneg _
  have hm1 : (m : Int) < 30 := by omega
  clear hm
  go_wp2_with fail
  refine (Block_any _ v).mono ?_
  rintro e w3 ⟨rfl, rfl⟩
  have HZ := Lib.hid (H1.out.enzone ((Frm.refl NoB w2).alloc (bytesObj (blockOf v))) w2.heap.size (Nat.le_refl _) (by rw [size_alloc]; omega))
  have HBY := Lib.hid (block_at w2 (blockOf v) (blockOf_length v)).any
  have HZ1 := Lib.hid H1.out.base.size
  obtain ⟨w3, hw3⟩ : ∃ w3, w3 = w2.alloc (bytesObj (blockOf v)) := ⟨_, rfl⟩
  rw [← hw3] at HZ HBY ⊢
  clear hw3 H1
  generalize w2.heap.size = z at *
  have H3 := Lib.hid (HZ.out.mkByt (Frm.refl _ _) HBY.out)
  have H4 := Lib.hid (H3.out.chgsOne 0 rfl (245 + (m : Int)))
  have H4 := Lib.hid (show St ⟨w1, fun x => NoB x ∨ x = z⟩ _ (jrn H jh J :: chgs _ [245 + (m : Int)] _ [blockOf v] :: byt (.slice (some ⟨z, 0, none⟩) 512 512) (blockOf v) :: dev H D :: []) from H4.out.perm ((List.perm_append_comm (l₁ := [_, _]) (l₂ := [_])).append_right _))
  have HC := Lib.hid (S_CommitL H4.out 2 0 rfl (ks := [245 + m]) rfl HL.out (mayOne 275 (245 + m) (blockOf v) (by omega) (by omega)) (fun d hd => by simp at hd; subst hd; exact blockOf_length v) (by omega) (by omega) (by omega) (by omega) (by have := HOP.out; omega) HLI.out (by omega))
  clear HZ HBY H3 H4
  go_wp2_with fail
  refine HC.out.mono ?_
  clear HC
  rintro e w4 ⟨jh4, J4, D4, hjb, rfl, h4, hl4, hlim4, hops4⟩
  have H4 := Lib.hid (show St ⟨w1, fun x => NoB x ∨ x = z⟩ w4 (jrn H jh4 J4 :: chgs _ _ _ _ :: byt (.slice (some ⟨z, 0, none⟩) 512 512) (blockOf v) :: dev H D4 :: []) from h4)
  have HJ4 : Hid (jh4.jb = jh.jb) := Lib.hid hjb
  have HL4 := Lib.hid hl4
  have HOP4 : Hid (D4.ops ≤ 300) := Lib.hid (by have := HOP.out; omega)
  have HV4 : Hid (jview J4 D4 (245 + (m : Int)).toNat = blockOf v) := Lib.hid (by
    rw [show (245 + (m : Int)).toNat = 245 + m from by omega]
    exact (hl4.view (245 + m) (by omega) (by omega)).trans (by rw [over_one]; unfold setB; rw [if_pos rfl]))
  clear h4 hl4 hlim4 hops4 hjb HL HLI HOP
  go_wp2_with fail
  refine (S_Block H4.out v).mono ?_
  rintro e w5 ⟨u5, rfl, h5⟩
  have H5 := Lib.hid h5
  clear h5 H4
  go_wp2_with fail
  refine (S_Bytes H5.out 3 0 rfl rfl (by rw [blockOf_length]; omega)).mono ?_
  rintro e w6 ⟨rfl, h6⟩
  rw [show (blockOf v == blockOf v) = true from beq_self_eq_true _]
  have h6 := (show St ⟨w1, fun x => NoB x ∨ x = z⟩ w6 (byt u5 (blockOf v) :: jrn H jh4 J4 :: chgs _ _ _ _ :: byt (.slice (some ⟨z, 0, none⟩) 512 512) (blockOf v) :: dev H D4 :: []) from h6)
  have HC6 := Lib.hid (BytesAt.room2 (h6.get (i := 3) rfl) (by rw [blockOf_length]; omega) (blockOf_length v))
  have H6 := Lib.hid (show St ⟨w1, fun x => NoB x ∨ x = z⟩ w6 (jrn H jh4 J4 :: dev H D4 :: []) from (h6.drop 1).drop2nd.drop2nd)
  clear h6 H5
  go_wp2_with fail
  go_loopw [9] (fun t wr => ∃ (i : Nat) (cc : Array Value), i ≤ 512 ∧ t = .int .i64 i ∧ Hid (IsC wr z cc ∧ 0 + 512 ≤ cc.size) ∧ St ⟨w1, fun x => NoB x ∨ x = z⟩ wr (jrn H jh4 J4 :: dev H D4 :: [])) (fun t _ => 512 - (intOf t).toNat)
  case atStart =>
    obtain ⟨cc, h1, h2⟩ := HC6.out
    exact ⟨0, cc, Nat.zero_le _, rfl, Lib.hid ⟨h1, h2⟩, H6.out⟩
  case round =>
    clear H6 HC6
    obtain ⟨i, cc, hi, rfl, HCC, hst⟩ := hrel
    have HST := Lib.hid hst
    clear hst
    by_cases hlt : i < 512
    · have hi0 : (0 : Int) ≤ (i : Int) := Int.natCast_nonneg _
      have hi1 : (i : Int) < 512 := by omega
      have hcell : ∃ u, wr.cell? ⟨z, i, none⟩ = some u := ⟨_, (HCC.out.1.cell).trans (Array.getElem?_eq_getElem (by have := HCC.out.2; omega))⟩
      obtain ⟨u, hcell⟩ := hcell
      have hfree : wr.frozen? ⟨z, i, none⟩ = false := HCC.out.1.frozen
      have HOWN : Hid (∀ u, IsC (wr.setCell ⟨z, i, none⟩ u) z (cc.setIfInBounds i u) ∧ 0 + 512 ≤ (cc.setIfInBounds i u).size) := Lib.hid fun u => ⟨HCC.out.1.set u, by rw [Array.size_setIfInBounds]; exact HCC.out.2⟩
      have HS2 : Hid (∀ u, St ⟨w1, fun x => NoB x ∨ x = z⟩ (wr.setCell ⟨z, i, none⟩ u) (jrn H jh4 J4 :: dev H D4 :: [])) := Lib.hid fun u => HST.out.own (fun r hr => by
        rcases List.mem_cons.1 hr with rfl | hr
        · exact keepsJrn _ _ _
        · rcases List.mem_cons.1 hr with rfl | hr
          · exact keepsDev _ _
          · cases hr) (.inr rfl) HZ1.out HCC.out.1 u
      clear HST
      go_wp2
      first | exact ⟨⟨i + 1, _, hlt, by go_num, Lib.hid (HOWN.out _), HS2.out _⟩, by simp [intOf]; omega⟩ | (go_roundw; case rel => first | exact ⟨i + 1, _, hlt, by go_num, Lib.hid (HOWN.out _), HS2.out _⟩ | ((repeat apply Exists.intro); exact ⟨⟨i + 1, _, hlt, by go_num, Lib.hid (HOWN.out _), HS2.out _⟩, rfl⟩); case measure => simp [intOf]; omega)
    · have hi1 : ¬ (i : Int) < 512 := by omega
      have HR := Lib.hid (S_JRF HST.out 0 rfl (HL4.out.ok (by omega) (by omega)) (by have := HOP4.out; omega) (245 + (m : Int)) (by omega) (by rw [HL4.out.dn]; omega))
      rw [HJ4.out, HV4.out] at HR
      clear HCC
      go_wp2_with fail
      refine HR.out.mono ?_
      clear HR
      rintro e w5 ⟨v5, rfl, hf5, hb5⟩
      obtain ⟨yb, yo, yc, cy, rfl, hc1, hc2, hc3⟩ := hb5.room (by rw [blockOf_length]; omega)
      rw [blockOf_length] at hb5 hc2 ⊢
      have HY := Lib.hid (HST.out.enzone hf5 yb hc3 hc1.lt)
      have HZ2 : Hid (w1.heap.size ≤ yb) := Lib.hid (Nat.le_trans HST.out.base.size hc3)
      have H7 := Lib.hid (HY.out.mkByt (Frm.refl _ _) hb5)
      clear hf5 hb5 hc1 hc2 hc3 HST HY
      go_wp2_with fail
      refine (S_Block H7.out v).mono ?_
      rintro e w8 ⟨u8, rfl, h8⟩
      have H8 := Lib.hid h8
      clear h8 H7
      go_wp2_with fail
      refine (S_Bytes H8.out 1 0 rfl rfl (by rw [blockOf_length]; omega)).mono ?_
      rintro e w9 ⟨rfl, h9⟩
      rw [show (blockOf v == blockOf v) = true from beq_self_eq_true _]
      have HC9 := Lib.hid (BytesAt.room2 (h9.get (i := 1) rfl) (by rw [blockOf_length]; omega) (blockOf_length v))
      have H9 := Lib.hid (show St ⟨w1, fun x => (NoB x ∨ x = z) ∨ x = yb⟩ w9 (jrn H jh4 J4 :: dev H D4 :: []) from h9.drop 2)
      clear h9 H8
      go_wp2_with fail
      go_loopw [12] (fun t wr => ∃ (i : Nat) (cc : Array Value), i ≤ 512 ∧ t = .int .i64 i ∧ Hid (IsC wr yb cc ∧ yo + 512 ≤ cc.size) ∧ St ⟨w1, fun x => (NoB x ∨ x = z) ∨ x = yb⟩ wr (jrn H jh4 J4 :: dev H D4 :: [])) (fun t _ => 512 - (intOf t).toNat)
      case atStart =>
        obtain ⟨cc, h1, h2⟩ := HC9.out
        exact ⟨0, cc, Nat.zero_le _, rfl, Lib.hid ⟨h1, h2⟩, H9.out⟩
      case round =>
        clear H9 HC9
        obtain ⟨i, cc, hi, rfl, HCC, hst⟩ := hrel
        have HST := Lib.hid hst
        clear hst
        by_cases hlt : i < 512
        · have hi0 : (0 : Int) ≤ (i : Int) := Int.natCast_nonneg _
          have hi1 : (i : Int) < 512 := by omega
          have hcell : ∃ u, wr.cell? ⟨yb, yo + i, none⟩ = some u := ⟨_, (HCC.out.1.cell).trans (Array.getElem?_eq_getElem (by have := HCC.out.2; omega))⟩
          obtain ⟨u, hcell⟩ := hcell
          have hfree : wr.frozen? ⟨yb, yo + i, none⟩ = false := HCC.out.1.frozen
          have HOWN : Hid (∀ u, IsC (wr.setCell ⟨yb, yo + i, none⟩ u) yb (cc.setIfInBounds (yo + i) u) ∧ yo + 512 ≤ (cc.setIfInBounds (yo + i) u).size) := Lib.hid fun u => ⟨HCC.out.1.set u, by rw [Array.size_setIfInBounds]; exact HCC.out.2⟩
          have HS2 : Hid (∀ u, St ⟨w1, fun x => (NoB x ∨ x = z) ∨ x = yb⟩ (wr.setCell ⟨yb, yo + i, none⟩ u) (jrn H jh4 J4 :: dev H D4 :: [])) := Lib.hid fun u => HST.out.own (fun r hr => by
            rcases List.mem_cons.1 hr with rfl | hr
            · exact keepsJrn _ _ _
            · rcases List.mem_cons.1 hr with rfl | hr
              · exact keepsDev _ _
              · cases hr) (.inr rfl) HZ2.out HCC.out.1 u
          clear HST
          go_wp2
          first | exact ⟨⟨i + 1, _, hlt, by go_num, Lib.hid (HOWN.out _), HS2.out _⟩, by simp [intOf]; omega⟩ | (go_roundw; case rel => first | exact ⟨i + 1, _, hlt, by go_num, Lib.hid (HOWN.out _), HS2.out _⟩ | ((repeat apply Exists.intro); exact ⟨⟨i + 1, _, hlt, by go_num, Lib.hid (HOWN.out _), HS2.out _⟩, rfl⟩); case measure => simp [intOf]; omega)
        · have hi1 : ¬ (i : Int) < 512 := by omega
          have HR := Lib.hid (S_JR HST.out 0 rfl (HL4.out.ok (by omega) (by omega)) (by have := HOP4.out; omega) (245 + (m : Int)) (by omega) (by rw [HL4.out.dn]; omega))
          rw [HJ4.out, HV4.out] at HR
          clear HCC HST
          go_wp2_with fail
          refine HR.out.mono ?_
          clear HR
          rintro e w5 ⟨v5, rfl, h5⟩
          have H5 := Lib.hid h5
          clear h5
          go_wp2_with fail
          refine (S_Block H5.out v).mono ?_
          rintro e w8 ⟨u8, rfl, h8⟩
          have H8 := Lib.hid h8
          clear h8 H5
          go_wp2_with fail
          refine (S_Bytes H8.out 1 0 rfl rfl (by rw [blockOf_length]; omega)).mono ?_
          rintro e w9 ⟨rfl, h9⟩
          rw [show (blockOf v == blockOf v) = true from beq_self_eq_true _]
          have H9 := Lib.hid h9
          clear h9 H8
          go_wp2_with fail
          refine (awake4_any H9.out).mono ?_
          rintro e w10 ⟨rfl, h10⟩
          have HF10 := Lib.hid h10.base
          clear h10
          go_wp2
          go_ret
          exact ⟨rfl, HF10.out⟩
end Go.Proofs.Ytkanfpmmgaipnaa
