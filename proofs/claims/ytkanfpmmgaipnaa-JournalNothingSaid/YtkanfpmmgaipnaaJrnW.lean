/-
  Commits over what is known; a row of one change; crashes; bollardlaw4.awake.
-/
import Derived.Test.YtkanfpmmgaipnaaJrnV
namespace Go.Proofs.Ytkanfpmmgaipnaa
set_option linter.unusedVariables false
open Go.ChangeMaps Go.MapKept Go.RowKit

/-- A row of one change, made in place. -/
theorem St.chgsOne {w0 w : World} {rs : List Res} (h : St w0 w rs) (j : Nat) {v : Value} {d : Blk} (hv : rs[j]? = some (byt v d)) (k : Int) :
    St w0 (w.alloc (.cells #[.int .i64 k, v] 64 (0, 0))) (chgs (.slice (some ⟨w.heap.size, 0, none⟩) 1 1) [k] [v] [d] :: rs) := by
  have hf : Frm NoB w (w.alloc (.cells #[.int .i64 k, v] 64 (0, 0))) := (Frm.refl _ _).alloc _
  refine h.make hf (chgs _ [k] [v] [d]) ⟨World.ownsRow_lit w #[.int .i64 k, v] 1 (Nat.zero_le _) (by decide) rfl, rfl, rfl, fun i u b hu hb => ?_⟩ (fun x hx => by
    have e : some w.heap.size = some x := hx
    injection e with e
    omega)
  have hi : i = 0 := by
    have := (List.getElem?_eq_some_iff.1 hu).1
    simpa using this
  subst hi
  simp at hu hb
  subst hu hb
  exact BytesAt.frm0 (h.get hv) hf

theorem Live.wf' {n g m : Nat} {J : JSt} {D : DSt} {s : Nat → Blk} (h : Live n g m J D s) (picks : List Int) : (D.crash picks).Wf ∧ (D.crash picks).n = n ∧ (∀ k, (D.crash picks).pend k = []) ∧ Tells n g m s (D.crash picks).base ∧ (D.crash picks).lim = none ∧ (D.crash picks).ops = 0 :=
  ⟨DSt.crash_wf h.wf picks, h.dn, fun _ => rfl, (Safe.clean (P := Tells n g m s) h.clean h.tells) _ (img_crash D picks), rfl, rfl⟩

/-- A commit over a device that is not cut. -/
theorem S_CommitL {w0 w : World} {rs : List Res} {H : Hdl} {jh : JHdl} {J : JSt} (h : St w0 w (jrn H jh J :: rs)) (a iv : Nat) {D : DSt} (hr : rs[a]? = some (dev H D)) {v : Value} {ks : List Nat} {vs : List Value} {ds : List Blk} (hl : rs[iv]? = some (chgs v (ks.map fun k : Nat => (k : Int)) vs ds))
    {n g m : Nat} {s : Nat → Blk} (hL : Live n g m J D s) (hmay : MayL n ks ds) (hd512 : ∀ d ∈ ds, d.length = 512) (h246 : 246 ≤ n) (hn : n ≤ 65536) (hm : m < 18446744073709551615) (hg : g < 18446744073709551616) (ho : D.ops < 1000000000) (hlim : D.lim = none) (q : iv ≠ a) :
    Calls Try.prog 47 #[.pointer (some ⟨jh.jb, 0, none⟩), v] w fun e w' => ∃ jh' J' D', jh'.jb = jh.jb ∧ e = .returned (.int .i64 0) ∧ St w0 w' (jrn H jh' J' :: rs.set a (dev H D')) ∧ Live n g (m + 1) J' D' (over ks ds s) ∧ D'.lim = none ∧ D'.ops ≤ D.ops + 123 := by
  have hdn := hL.dn
  by_cases hk : ks = []
  · subst hk
    have hds : ds = [] := List.eq_nil_of_length_eq_zero hmay.len
    subst hds
    have hvs : vs = [] := by
      have := (h.get (i := iv + 1) hl).2.1
      exact List.eq_nil_of_length_eq_zero (by simpa using this)
    subst hvs
    refine (S_CommitNone h a iv hr hl).mono ?_
    rintro e w' ⟨he, hst⟩
    refine ⟨jh, J, D, rfl, he, ?_, (hL.mono (Nat.le_succ m)).congr (fun k _ _ => by unfold over; rfl), hlim, by omega⟩
    have e1 : rs.set a (dev H D) = rs := by
      obtain ⟨h1, h2⟩ := List.getElem?_eq_some_iff.1 hr
      rw [← h2]; exact List.set_getElem_self h1
    rw [e1]; exact hst
  · obtain ⟨hA, hB⟩ := hL.commit hmay hd512 h246 hn hg hm
    have hno := endD_none (writeOps J.gen J.last J.order J.data ks ds) D hlim
    refine (S_Commit h a iv hr hl (hL.ok hg hm) hL.alive (by rw [hdn]; exact hmay) hd512 (by omega) (by omega) ho hk q).mono ?_
    rintro e w' (⟨h0, he, jh', hjb, hst⟩ | ⟨h9, _⟩)
    · exact ⟨jh', _, _, hjb, he, hst, hB h0, hno.2, hA.ops⟩
    · rw [hno.1] at h9; cases h9

theorem St.magic {w0 w : World} {rs : List Res} (h : St w0 w rs) {i n cap blk off : Nat} {b : Blk} (hr : rs[i]? = some (byt (.slice (some ⟨blk, off, none⟩) n cap) b)) (hm : isMagic b = true) (c2 : Nat) :
    (convert 31 9 (.slice (some ⟨blk, off, none⟩) 8 c2)).run Try.prog w = .ok (.string { data := #[66, 79, 76, 76, 65, 82, 68, 74] }) w := by
  have e : b.take 8 = magicL := by unfold isMagic at hm; exact eq_of_beq hm
  have hl : 8 ≤ b.length := by
    have := congrArg List.length e
    rw [List.length_take] at this
    have h8 : magicL.length = 8 := rfl
    omega
  exact (head_string (h.get hr) hl c2).trans (by rw [e]; rfl)

theorem over_one (k : Nat) (d : Blk) (s : Nat → Blk) : over [k] [d] s = setB s k d := by
  funext x
  unfold over setB
  by_cases h : k = x
  · subst h; rw [if_pos rfl, if_pos rfl]
  · rw [if_neg h, if_neg (fun e => h e.symm)]; unfold over; rfl

theorem mayOne (n k : Nat) (d : Blk) (h1 : 245 ≤ k) (h2 : k < n) : MayL n [k] [d] := ⟨fun x hx => by simp at hx; omega, by simp, by simp, rfl⟩

set_option maxRecDepth 100000 in
theorem awake4_any {w0 w : World} {rs : List Res} (h : St w0 w rs) : Calls Try.prog 45 #[] w fun e w' => e = .returned (.bool true) ∧ St w0 w' rs := by
  have HF := Lib.hid (S_fresh h)
  clear h
  go_enter Try.func45, Try.ntmps45
  go_wp2_with fail
  refine HF.out.mono ?_
  clear HF
  rintro e w1 ⟨H, jh, J, D, rfl, h1, hl, hlim, hops⟩
  have H1 := Lib.hid h1
  have HL := Lib.hid hl
  have HLI := Lib.hid hlim
  have HOP := Lib.hid hops
  clear h1 hl hlim hops
  go_wp2_with fail
  refine (S_Block H1.out 5).mono ?_
  rintro e w2 ⟨v, rfl, h2⟩
  obtain ⟨vb, vo, vc, rfl, _⟩ := (h2.get (i := 0) rfl).cells
  have H2 := Lib.hid h2
  clear h2 H1
  rw [blockOf_length] at H2 ⊢
  have H3 := Lib.hid (H2.out.chgsOne 0 rfl 250)
  have HC := Lib.hid (S_CommitL (H3.out.perm (List.perm_append_comm (l₁ := [_, _]) (l₂ := [_]) |>.append_right _)) 2 0 rfl (ks := [250]) rfl HL.out (mayOne 275 250 (blockOf 5) (by omega) (by omega)) (fun d hd => by simp at hd; subst hd; exact blockOf_length 5) (by omega) (by omega) (by omega) (by omega) (by have := HOP.out; omega) HLI.out (by omega))
  go_wp2_with fail
  clear H2 H3
  refine HC.out.mono ?_
  clear HC
  rintro e w3 ⟨jh', J', D', hjb, rfl, h3, hl3, hlim3, hops3⟩
  have H3 := Lib.hid (show St w0 w3 (jrn H jh' J' :: chgs _ _ _ _ :: byt _ _ :: dev H D' :: rs) from h3)
  have HL3 := Lib.hid hl3
  have HOP3 : Hid (D'.ops ≤ 300) := Lib.hid (by have := HOP.out; omega)
  clear h3 hl3 hlim3 hops3 hjb HL HLI HOP
  go_wp2_with fail
  refine (S_Crash H3.out 3 rfl (by have := HOP3.out; omega) _ [] ⟨none, 0, rfl, fun i x hx => by simp at hx⟩ (fun _ h => by cases h) (by decide)).mono ?_
  rintro e w4 ⟨H2, rfl, h4⟩
  obtain ⟨p1, p2, p3, p4, p5, p6⟩ := HL3.out.wf' []
  have HO := Lib.hid (S_OpenL h4 0 rfl p1 p2 p3 p4 (by omega) (by omega) (by omega) (by omega) p5)
  clear h4 p1 p2 p3 p4 p5 p6 H3
  go_wp2_with fail
  refine HO.out.mono ?_
  clear HO
  rintro e w5 ⟨jh2, J2, D2, rfl, h5, hl5, hlim5, hops5⟩
  have H5 := Lib.hid (show St w0 w5 (jrn H2 jh2 J2 :: dev H2 D2 :: jrn H jh' J' :: chgs _ _ _ _ :: byt _ _ :: dev H D' :: rs) from h5)
  have HL5 := Lib.hid hl5
  have HOP5 : Hid (D2.ops ≤ 61) := Lib.hid (by have h0 : (D'.crash []).ops = 0 := rfl; omega)
  clear h5 hl5 hlim5 hops5
  have HR := Lib.hid (S_JR H5.out 0 rfl (HL5.out.ok (by omega) (by omega)) (by have := HOP5.out; omega) 250 (by omega) (by rw [HL5.out.dn]; decide))
  have HV : Hid (jview J2 D2 (250 : Int).toNat = blockOf 5) := Lib.hid ((HL5.out.view 250 (by omega) (by omega)).trans (by rw [over_one]; unfold setB; rfl))
  go_wp2_with fail
  refine HR.out.mono ?_
  clear HR
  rintro e w6 ⟨v6, rfl, h6⟩
  rw [HV.out] at h6
  have H6 := Lib.hid h6
  clear h6 H5 HV
  have HM : Hid (isMagic (D'.last (0 : Int).toNat) = true) := Lib.hid (by
    obtain ⟨o, dt, hT, _⟩ := HL3.out.disk
    rw [last_fun_clean HL3.out.clean]
    exact hT.1.magic)
  have HR0 := Lib.hid (S_Read H6.out 6 rfl 0 (by omega) (by rw [HL3.out.dn]; decide) (by have := HOP3.out; omega))
  have H512 : Hid ((D'.last (0 : Int).toNat).length = 512) := Lib.hid (DSt.last_length HL3.out.wf _)
  go_wp2_with fail
  refine HR0.out.mono ?_
  clear HR0
  rintro e w7 ⟨v7, rfl, h7⟩
  have H7 := Lib.hid h7
  clear h7 H6
  obtain ⟨v7b, v7o, v7c, rfl, hc7, _⟩ := (H7.out.get (i := 0) rfl).cells
  rw [H512.out] at H7 hc7 ⊢
  go_wp2_with fail
  refine (S_Block H7.out 5).mono ?_
  rintro e w8 ⟨v8, rfl, h8⟩
  have H8 := Lib.hid h8
  clear h8 H7
  go_wp2_with fail
  refine (S_Bytes H8.out 2 0 rfl rfl (by rw [blockOf_length]; omega)).mono ?_
  rintro e w9 ⟨rfl, h9⟩
  rw [show (blockOf 5 == blockOf 5) = true from beq_self_eq_true _]
  have H9 := Lib.hid h9
  clear h9 H8
  have hst := fun c2 => H9.out.magic (i := 1) rfl HM.out c2
  go_wp2
  go_ret
  exact ⟨rfl, H9.out.drop 9⟩
end Go.Proofs.Ytkanfpmmgaipnaa
