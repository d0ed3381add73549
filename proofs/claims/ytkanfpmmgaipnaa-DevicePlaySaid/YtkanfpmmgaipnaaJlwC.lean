/-
  bollardlaw4: is, opened.
-/
import Derived.Test.YtkanfpmmgaipnaaM4
namespace Go.Proofs.Ytkanfpmmgaipnaa
set_option linter.unusedVariables false
open Go.ChangeMaps Go.MapKept Go.RowKit

/-- The cells of a state: a number for each of n homes. -/
def stC (n : Nat) (f : Nat → Int) : Array Value := ((List.range n).map fun k => Value.int .i64 (f k)).toArray

theorem stC_size (n : Nat) (f : Nat → Int) : (stC n f).size = n := by simp [stC]
theorem stC_get (n : Nat) (f : Nat → Int) (k : Nat) (h : k < n) : (stC n f)[k]? = some (.int .i64 (f k)) := by simp [stC, h]

/-- Does a view of the homes hold what the state says? -/
def isTo (view : Nat → Blk) (f : Nat → Int) : Nat → Bool
  | 0 => true
  | k + 1 => isTo view f k && view (245 + k) == blockOf (f k)

theorem isTo_iff (view : Nat → Blk) (f : Nat → Int) : ∀ n, isTo view f n = true ↔ ∀ k, k < n → view (245 + k) = blockOf (f k)
  | 0 => ⟨fun _ k h => by omega, fun _ => rfl⟩
  | n + 1 => by
    unfold isTo
    rw [Bool.and_eq_true, isTo_iff view f n, beq_iff_eq]
    constructor
    · rintro ⟨h1, h2⟩ k hk
      rcases Nat.lt_or_eq_of_le (Nat.le_of_lt_succ hk) with h | h
      · exact h1 k h
      · rw [h]; exact h2
    · exact fun h => ⟨fun k hk => h k (by omega), h n (by omega)⟩

theorem isTo_stop {view : Nat → Blk} {f : Nat → Int} {k : Nat} (h : (view (245 + k) == blockOf (f k)) = false) : ∀ n, k < n → isTo view f n = false
  | 0, h' => by omega
  | n + 1, h' => by
    unfold isTo
    rcases Nat.lt_or_eq_of_le (Nat.le_of_lt_succ h') with h2 | h2
    · rw [isTo_stop h n h2]; rfl
    · subst h2; rw [h, Bool.and_false]

theorem over_length : ∀ (o : List Nat) (dt : List Blk) (C : Nat → Blk) (k : Nat), (∀ b ∈ dt, b.length = 512) → (∀ k, (C k).length = 512) → (over o dt C k).length = 512
  | [], _, C, k, _, h => by unfold over; exact h k
  | x :: o, [], C, k, _, h => by unfold over; exact h k
  | x :: o, b :: dt, C, k, hb, h => by
    unfold over
    split
    · exact hb b (by simp)
    · exact over_length o dt C k (fun c hc => hb c (by simp [hc])) h

theorem neSt : ¬ U8T (67 : TypeId) := by decide

set_option maxRecDepth 100000 in
theorem S_is {w0 : Gnd} {w : World} {rs : List Res} {H : Hdl} {jh : JHdl} {J : JSt} (h : St w0 w (jrn H jh J :: rs)) (a : Nat) {D : DSt} (hr : rs[a]? = some (dev H D)) {g m : Nat} {s : Nat → Blk} (hL : Live 275 g m J D s) (hg : g < 18446744073709551616) (hm : m < 18446744073709551615) (ho : D.ops < 1000000000) (f : Nat → Int) :
    Calls Try.prog 48 #[.pointer (some ⟨jh.jb, 0, none⟩), .agg (stC 30 f)] w fun e w' => e = .returned (.bool (isTo s f 30)) ∧ St w0 w' (jrn H jh J :: rs) := by
  have H0 := Lib.hid (h.newArr (stC 30 f) 67 neSt).swap
  have HR := Lib.hid hr
  have HL := Lib.hid hL
  have HG := Lib.hid (And.intro hg (And.intro hm ho))
  clear h hr hL hg hm ho
  go_enter Try.func48, Try.ntmps48
  go_wp2_with fail
  generalize w.heap.size = sb at *
  go_loopw [5, 6, 7] (fun t _ _ wr => ∃ k : Nat, k ≤ 30 ∧ t = .int .i64 k ∧ isTo s f k = true ∧ St w0 wr (jrn H jh J :: arr sb (stC 30 f) 67 neSt :: rs)) (fun t _ _ _ => 30 - (intOf t).toNat)
  case atStart => exact ⟨0, Nat.zero_le _, rfl, rfl, H0.out⟩
  case round =>
    clear H0
    obtain ⟨k, hk, rfl, hto, hst⟩ := hrel
    have HST := Lib.hid hst
    have HTO := Lib.hid hto
    clear hst hto
    by_cases hlt : k < 30
    · have hk0 : (0 : Int) ≤ (k : Int) := Int.natCast_nonneg _
      have hk1 : (k : Int) < 30 := by omega
      have HRD := Lib.hid (S_JR HST.out (a + 1) HR.out (HL.out.ok HG.out.1 HG.out.2.1) HG.out.2.2 (245 + (k : Int)) (by omega) (by rw [HL.out.dn]; omega))
      have HV : Hid (jview J D (245 + (k : Int)).toNat = s (245 + k)) := Lib.hid (by
        rw [show (245 + (k : Int)).toNat = 245 + k from by omega]
        exact HL.out.view (245 + k) (by omega) (by omega))
      obtain ⟨b, hb⟩ : ∃ b, s (245 + k) = b := ⟨_, rfl⟩
      rw [hb] at HV
      have HBB := Lib.hid hb
      have HBL : Hid (b.length = 512) := Lib.hid (by
        rw [← hb, ← HL.out.view (245 + k) (by omega) (by omega)]
        exact over_length _ _ _ _ (HL.out.ok HG.out.1 HG.out.2.1).b512 (fun k => DSt.last_length HL.out.wf k))
      clear hb
      go_wp2_with fail
      refine HRD.out.mono ?_
      clear HRD
      rintro e w4 ⟨v, rfl, h4⟩
      rw [HV.out] at h4
      have H4 := Lib.hid h4
      have c1 : w4.cell? ⟨sb, k, none⟩ = some (.int .i64 (f k)) := (h4.arrCell (i := 2) rfl k).trans (stC_get 30 f k hlt)
      clear h4 HST
      go_wp2_with fail
      clear c1
      refine (S_Block H4.out (f k)).mono ?_
      rintro e w5 ⟨u, rfl, h5⟩
      have H5 := Lib.hid h5
      clear h5 H4
      go_wp2_with fail
      refine (S_Bytes H5.out 1 0 rfl rfl (by rw [HBL.out]; omega)).mono ?_
      rintro e w6 ⟨rfl, h6⟩
      have H6 := Lib.hid (h6.drop 2)
      clear h6 H5
      by_cases heq : (b == blockOf (f k)) = true
      · rw [heq]
        have HT2 : Hid (isTo s f (k + 1) = true) := Lib.hid (by
          show (isTo s f k && s (245 + k) == blockOf (f k)) = true
          rw [HTO.out, HBB.out, heq]; rfl)
        clear heq
        go_wp2
        first | exact ⟨⟨k + 1, hlt, by go_num, HT2.out, H6.out⟩, by simp [intOf]; omega⟩ | (go_roundw; case rel => first | exact ⟨k + 1, hlt, by go_num, HT2.out, H6.out⟩ | ((repeat apply Exists.intro); exact ⟨⟨k + 1, hlt, by go_num, HT2.out, H6.out⟩, rfl⟩); case measure => simp [intOf]; omega)
      · have heq : (b == blockOf (f k)) = false := by simpa using heq
        rw [heq]
        have HT2 : Hid (isTo s f 30 = false) := Lib.hid (isTo_stop (by rw [HBB.out]; exact heq) 30 hlt)
        clear heq
        go_wp2
        go_ret
        exact ⟨by rw [HT2.out]; rfl, H6.out.drop2nd⟩
    · have hk1 : ¬ (k : Int) < 30 := by omega
      have HT2 : Hid (isTo s f 30 = true) := Lib.hid (by have : k = 30 := by omega
                                                         rw [← this]; exact HTO.out)
      go_wp2
      go_ret
      exact ⟨by rw [HT2.out]; rfl, HST.out.drop2nd⟩

/-- What 'opened' answers: a device, its journal. -/
def OpenedRet (w0 : Gnd) (rs : List Res) (a : Nat) (n g m : Nat) (s : Nat → Blk) (o : Nat) (e : Ending) (w' : World) : Prop :=
  ∃ H jh J D, e = .returned (.tuple #[.pointer (some ⟨H.b, 0, none⟩), .pointer (some ⟨jh.jb, 0, none⟩), .bool true]) ∧ St w0 w' (jrn H jh J :: dev H D :: rs.set a voidR) ∧ Live n g m J D s ∧ D.lim = none ∧ D.ops ≤ o + 61

set_option maxRecDepth 100000 in
theorem S_opened {w0 : Gnd} {w : World} {rs : List Res} (h : St w0 w rs) (a : Nat) {H : Hdl} {D : DSt} (hr : rs[a]? = some (dev H D)) {n g m : Nat} {s : Nat → Blk} (hw : D.Wf) (hn : D.n = n) (hp : ∀ k, D.pend k = []) (hT : Tells n g m s D.base) (h246 : 246 ≤ n) (hm : m < 18446744073709551615) (hg : g < 18446744073709551616) (ho : D.ops < 900000000) (hlim : D.lim = none)
    (vc vp : Value) (cuts picks : List Int) (hvc : Elems w0.w vc (cuts.map IntK)) (hvp : Elems w0.w vp (picks.map IntK)) (hck : ∀ c ∈ cuts, okI c) (hpk : ∀ p ∈ picks, okI p) (hpl : picks.length < 4611686018427387904) :
    Calls Try.prog 55 #[.pointer (some ⟨H.b, 0, none⟩), vc, vp] w (OpenedRet w0 rs a n g m s D.ops) := by
  have H0 := Lib.hid (h.hole a hr)
  obtain ⟨ca, cc, rfl, hcc⟩ := hvc
  rw [List.length_map]
  have HCC := Lib.hid hcc
  have HVP := Lib.hid hvp
  have HCK := Lib.hid hck
  have HPK := Lib.hid hpk
  have HPL := Lib.hid hpl
  have HG := Lib.hid (And.intro h246 (And.intro hm (And.intro hg ho)))
  have HP := Lib.hid (show D.Wf ∧ D.n = n ∧ (∀ k, D.pend k = []) ∧ Tells n g m s D.base ∧ D.lim = none ∧ D.ops ≤ D.ops from ⟨hw, hn, hp, hT, hlim, Nat.le_refl _⟩)
  obtain ⟨ops0, hops0⟩ : ∃ x, D.ops = x := ⟨_, rfl⟩
  rw [hops0] at HG
  have HP : Hid (D.Wf ∧ D.n = n ∧ (∀ k, D.pend k = []) ∧ Tells n g m s D.base ∧ D.lim = none ∧ D.ops ≤ ops0) := Lib.hid (by have := HP.out; rw [hops0] at this ⊢; exact this)
  rw [hops0]
  clear h hr hw hn hp hT h246 hm hg ho hlim hcc hvp hck hpk hpl hops0
  go_enter Try.func55, Try.ntmps55
  go_wp2_with fail
  go_loopw [0, 9] (fun t0 t wr => ∃ (i : Nat) (H' : Hdl) (D' : DSt), i ≤ cuts.length ∧ i ≤ 6 ∧ t0 = .pointer (some ⟨H'.b, 0, none⟩) ∧ t = .int .i64 i ∧ St w0 wr (dev H' D' :: rs.set a voidR) ∧ Hid (D'.Wf ∧ D'.n = n ∧ (∀ k, D'.pend k = []) ∧ Tells n g m s D'.base ∧ D'.lim = none ∧ D'.ops ≤ ops0)) (fun _ t _ => 6 - (intOf t).toNat)
  case atStart => exact ⟨0, H, D, Nat.zero_le _, Nat.zero_le _, rfl, rfl, H0.out, HP⟩
  case round =>
    clear H0 HP
    obtain ⟨i, H', D', hi1, hi2, rfl, rfl, hst, HP⟩ := hrel
    have HST := Lib.hid hst
    clear hst
    by_cases hlt : i < cuts.length ∧ i < 6
    · obtain ⟨hlt1, hlt2⟩ := hlt
      have hi0 : (0 : Int) ≤ (i : Int) := Int.natCast_nonneg _
      have hi3 : (i : Int) < (cuts.length : Int) := by omega
      have hi4 : (i : Int) < 6 := by omega
      obtain ⟨x, hx⟩ : ∃ x, cuts[i]? = some x := ⟨_, List.getElem?_eq_getElem hlt1⟩
      obtain ⟨gb, go, rfl, hgb, hc⟩ := HCC.out i (IntK x) (by rw [List.getElem?_map, hx]; rfl)
      have hc' : wr.cell? ⟨gb, go + i, none⟩ = some (.int .i64 x) := (HST.out.base.cell hgb (fun e => e)).trans hc
      have hox := HCK.out x (List.mem_of_getElem? hx)
      have HOX := Lib.hid hox
      clear hc hgb hx hox
      go_wp2_with fail
      refine (Round_any _ x 200 HOX.out (by omega) (by omega)).mono ?_
      rintro e w2 ⟨rfl, rfl⟩
      obtain ⟨y, hy⟩ : ∃ y, x % 200 = y := ⟨_, rfl⟩
      rw [hy]
      have hoy : okI y := (okI_iff _).2 (by omega)
      have HCT := Lib.hid (S_Cut HST.out 0 rfl y hoy)
      clear hc' hy hoy
      go_wp2_with fail
      refine HCT.out.mono ?_
      clear HCT HST
      rintro e w3 ⟨rfl, h3⟩
      obtain ⟨a1, a2, a3, a4, a5, a6⟩ := HP.out
      have HOC := Lib.hid (S_OpenC (show St w0 w3 (dev H' (D'.cut y) :: rs.set a voidR) from h3) 0 rfl (DSt.cut_wf a1 y) a2 a3 a4 HG.out.1 HG.out.2.1 HG.out.2.2.1 (by show D'.ops < _; have := HG.out.2.2.2; omega))
      clear h3 a1 a2 a3 a4 a5 HP
      have HA6 := Lib.hid a6
      clear a6
      go_wp2_with fail
      refine HOC.out.mono ?_
      clear HOC
      rintro e w4 ⟨v4, x4, D4, rfl, h4, b1, b2, b3, b4⟩
      have HCR := Lib.hid (S_Crash (show St w0 w4 (dev H' D4 :: rs.set a voidR) from h4) 0 rfl (by have h0 : (D'.cut y).ops = D'.ops := rfl; have := HG.out.2.2.2; have := HA6.out; omega) vp picks (HVP.out.frm h4.base) HPK.out (by have := HPL.out; omega))
      have HP2 : Hid ((D4.crash picks).Wf ∧ (D4.crash picks).n = n ∧ (∀ k, (D4.crash picks).pend k = []) ∧ Tells n g m s (D4.crash picks).base ∧ (D4.crash picks).lim = none ∧ (D4.crash picks).ops ≤ ops0) := Lib.hid ⟨DSt.crash_wf b1 picks, b2, fun _ => rfl, b4 _ (img_crash D4 picks), rfl, Nat.zero_le _⟩
      clear h4 b1 b2 b3 b4
      go_wp2_with fail
      refine HCR.out.mono ?_
      clear HCR
      rintro e w5 ⟨H5, rfl, h5⟩
      have H6 := Lib.hid (show St w0 w5 (dev H5 (D4.crash picks) :: rs.set a voidR) from h5.drop2nd)
      clear h5
      go_wp2
      first | exact ⟨⟨i + 1, H5, _, hlt1, hlt2, rfl, by go_num, H6.out, HP2⟩, by simp [intOf]; omega⟩ | (go_roundw; case rel => first | exact ⟨i + 1, H5, _, hlt1, hlt2, rfl, by go_num, H6.out, HP2⟩ | ((repeat apply Exists.intro); exact ⟨⟨i + 1, H5, _, hlt1, hlt2, rfl, by go_num, H6.out, HP2⟩, rfl⟩); case measure => simp [intOf]; omega)
    · have hb : (decide ((i : Int) < (cuts.length : Int)) && decide ((i : Int) < 6)) = false := by
        by_cases h1 : i < cuts.length
        · have h2 : ¬ (i : Int) < 6 := by omega
          rw [decide_eq_false h2, Bool.and_false]
        · have h2 : ¬ (i : Int) < (cuts.length : Int) := by omega
          rw [decide_eq_false h2]; rfl
      obtain ⟨a1, a2, a3, a4, a5, a6⟩ := HP.out
      have HOL := Lib.hid (S_OpenL HST.out 0 rfl a1 a2 a3 a4 HG.out.1 HG.out.2.1 HG.out.2.2.1 (by have := HG.out.2.2.2; omega) a5)
      have HA6 := Lib.hid a6
      clear a1 a2 a3 a4 a5 HP a6 HST
      by_cases h1 : (i : Int) < (cuts.length : Int)
      all_goals
        by_cases h2 : (i : Int) < 6
        all_goals
          first
            | (exfalso; omega)
            | (clear hlt hb
               go_wp2_with fail
               refine HOL.out.mono ?_
               clear HOL
               rintro e w2 ⟨jh, J, D2, rfl, h3, hl, hlim, hops⟩
               have H3 := Lib.hid (show St w0 w2 (jrn H' jh J :: dev H' D2 :: rs.set a voidR) from h3)
               have HL := Lib.hid hl
               have HLI := Lib.hid hlim
               have HOP : Hid (D2.ops ≤ ops0 + 61) := Lib.hid (by have := HA6.out; omega)
               clear h3 hl hlim hops
               go_wp2
               go_ret3
               exact ⟨H', jh, J, D2, rfl, H3.out, HL.out, HLI.out, HOP.out⟩)
end Go.Proofs.Ytkanfpmmgaipnaa
