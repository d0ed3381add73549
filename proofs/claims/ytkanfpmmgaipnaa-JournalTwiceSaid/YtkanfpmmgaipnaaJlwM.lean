/-
  JournalTwice.
-/
import Derived.Test.YtkanfpmmgaipnaaJlwJ
import Derived.Test.YtkanfpmmgaipnaaJlwL
namespace Go.Proofs.Ytkanfpmmgaipnaa
set_option linter.unusedVariables false
open Go.ChangeMaps Go.MapKept Go.RowKit

set_option maxHeartbeats 1000000 in
set_option maxRecDepth 100000 in
theorem journalTwice_any (w : World) (v : Value) (cut : Int) (u : Value) (l : List (Int × List (Int × Int))) (picks : List Int) (hv : Steps w v l) (hok : ∀ p ∈ l, okI p.1 ∧ (∀ q ∈ p.2, okI q.1 ∧ okI q.2) ∧ p.2.length ≤ maxLen) (hl : l.length ≤ maxLen) (hvp : Elems w u (picks.map IntK)) (hpk : ∀ p ∈ picks, okI p) :
    Calls Try.prog 18 #[v, .int .i64 cut, u] w fun e w' => e = .returned (.bool true) ∧ Frm NoB w w' := by
  have HS := Lib.hid (small_any w v l hv hl)
  obtain ⟨a, cap, rfl, hcell⟩ := hv
  obtain ⟨b, cap2, rfl, hcell2⟩ := hvp
  rw [List.length_map]
  have HC := Lib.hid hcell
  have HP := Lib.hid hcell2
  have HOK := Lib.hid hok
  have HPK := Lib.hid hpk
  have hl2 : ((l.length : Nat) : Int) ≤ 9223372036854775807 := by unfold maxLen at hl; omega
  have hl3 : (0 : Int) ≤ ((l.length : Nat) : Int) := Int.natCast_nonneg _
  clear hcell hcell2 hok hpk hl
  go_enter Try.func18, Try.ntmps18
  go_wp2_with fail
  refine HS.out.mono ?_
  clear HS
  rintro e w1 ⟨rfl, bs, rfl, hbs⟩
  by_cases hg : bs = false ∨ cut < 0 ∨ 2000 < cut ∨ (300 : Int) < ((picks.length : Nat) : Int)
  · have hF : Hid (St w1 w1 []) := Lib.hid (St.start w1)
    clear hbs
    cases bs with
    | false =>
      clear hg
      go_wp2_with fail
      refine (awake4_any hF.out).mono ?_
      rintro e w5 ⟨rfl, h5⟩
      have HF5 := Lib.hid h5.base
      clear h5
      go_wp2
      go_ret
      exact ⟨rfl, HF5.out⟩
    | true =>
      have hg : cut < 0 ∨ 2000 < cut ∨ (300 : Int) < ((picks.length : Nat) : Int) := by simpa using hg
      by_cases h0 : cut < 0
      · clear hg
        go_wp2_with fail
        refine (awake4_any hF.out).mono ?_
        rintro e w5 ⟨rfl, h5⟩
        have HF5 := Lib.hid h5.base
        clear h5
        go_wp2
        go_ret
        exact ⟨rfl, HF5.out⟩
      by_cases h1 : 2000 < cut
      · clear hg
        go_wp2_with fail
        refine (awake4_any hF.out).mono ?_
        rintro e w5 ⟨rfl, h5⟩
        have HF5 := Lib.hid h5.base
        clear h5
        go_wp2
        go_ret
        exact ⟨rfl, HF5.out⟩
      have h2 : (300 : Int) < ((picks.length : Nat) : Int) := by omega
      clear hg
      go_wp2_with fail
      refine (awake4_any hF.out).mono ?_
      rintro e w5 ⟨rfl, h5⟩
      have HF5 := Lib.hid h5.base
      clear h5
      go_wp2
      go_ret
      exact ⟨rfl, HF5.out⟩
  obtain rfl : bs = true := by cases bs with | true => rfl | false => exact absurd (.inl rfl) hg
  have hc0 : ¬ cut < 0 := fun h => hg (.inr (.inl h))
  have hc1 : ¬ 2000 < cut := fun h => hg (.inr (.inr (.inl h)))
  have h300 : ¬ (300 : Int) < ((picks.length : Nat) : Int) := fun h => hg (.inr (.inr (.inr h)))
  have H40 := Lib.hid (hbs rfl)
  have HON := Lib.hid (show okI cut from (okI_iff _).2 (by omega))
  have HF := Lib.hid (S_fresh (St.start w1))
  clear hg hbs
  go_wp2_with fail
  refine HF.out.mono ?_
  clear HF hc0 hc1
  rintro e w2 ⟨H, jh, J, D, rfl, h1, hl1, hlim1, hops1⟩
  have HR1 : Hid (CRel 0 J (D.cut cut) zeroS) := Lib.hid ⟨_, hl1.cut cut, by show D.ops ≤ _; omega, isTo_zero⟩
  have HCT := Lib.hid (S_Cut h1 1 rfl cut HON.out)
  clear h1 hl1 hlim1 hops1
  go_wp2_with fail
  refine HCT.out.mono ?_
  clear HCT
  rintro e w2 ⟨rfl, h2⟩
  have H1 := Lib.hid (show St w1 w2 (jrn H jh J :: dev H (D.cut cut) :: []) from h2)
  clear h2
  go_upto_region 8 with (fail)
  have H2 := Lib.hid (H1.out.newArr #[.int .i64 0, .int .i64 0, .int .i64 0, .int .i64 0, .int .i64 0, .int .i64 0, .int .i64 0, .int .i64 0, .int .i64 0, .int .i64 0, .int .i64 0, .int .i64 0, .int .i64 0, .int .i64 0, .int .i64 0, .int .i64 0, .int .i64 0, .int .i64 0, .int .i64 0, .int .i64 0, .int .i64 0, .int .i64 0, .int .i64 0, .int .i64 0, .int .i64 0, .int .i64 0, .int .i64 0, .int .i64 0, .int .i64 0, .int .i64 0] 67 neSt)
  obtain ⟨w3, hw3⟩ : ∃ w3, w3 = w2.alloc (.cells #[.int .i64 0, .int .i64 0, .int .i64 0, .int .i64 0, .int .i64 0, .int .i64 0, .int .i64 0, .int .i64 0, .int .i64 0, .int .i64 0, .int .i64 0, .int .i64 0, .int .i64 0, .int .i64 0, .int .i64 0, .int .i64 0, .int .i64 0, .int .i64 0, .int .i64 0, .int .i64 0, .int .i64 0, .int .i64 0, .int .i64 0, .int .i64 0, .int .i64 0, .int .i64 0, .int .i64 0, .int .i64 0, .int .i64 0, .int .i64 0] 67 (0, 0)) := ⟨_, rfl⟩
  rw [← hw3] at H2 ⊢
  rw [show (#[.int .i64 0, .int .i64 0, .int .i64 0, .int .i64 0, .int .i64 0, .int .i64 0, .int .i64 0, .int .i64 0, .int .i64 0, .int .i64 0, .int .i64 0, .int .i64 0, .int .i64 0, .int .i64 0, .int .i64 0, .int .i64 0, .int .i64 0, .int .i64 0, .int .i64 0, .int .i64 0, .int .i64 0, .int .i64 0, .int .i64 0, .int .i64 0, .int .i64 0, .int .i64 0, .int .i64 0, .int .i64 0, .int .i64 0, .int .i64 0] : Array Value) = stC 30 zeroS from rfl] at H2
  clear hw3 H1
  generalize w2.heap.size = sb at *
  have H2 := Lib.hid (show St w1 w3 (arr sb (stC 30 zeroS) 67 neSt :: jrn H jh J :: dev H (D.cut cut) :: []) from H2.out)
  go_wp2_with fail
  go_loopw [11] (fun t11 wr => ∃ (i : Nat) (jh' : JHdl) (J' : JSt) (D' : DSt) (f : Nat → Int), i ≤ l.length ∧ t11 = .int .i64 i ∧ Hid (jh'.jb = jh.jb) ∧ St w1 wr (arr sb (stC 30 f) 67 neSt :: jrn H jh' J' :: dev H D' :: []) ∧ Hid (CRel i J' D' f)) (fun t _ => l.length - (intOf t).toNat)
  case atStart => exact ⟨0, jh, J, D.cut cut, zeroS, Nat.zero_le _, rfl, Lib.hid rfl, H2.out, HR1⟩
  case round =>
    clear H2 HR1
    obtain ⟨i, jh', J', D', f, hi, rfl, HJB, hst, HR⟩ := hrel
    have HST := Lib.hid hst
    clear hst
    by_cases hlt : i < l.length
    · have hi0 : (0 : Int) ≤ (i : Int) := Int.natCast_nonneg _
      have hi1 : (i : Int) < (l.length : Int) := by omega
      obtain ⟨p, hp⟩ : ∃ p, l[i]? = some p := ⟨_, List.getElem?_eq_getElem hlt⟩
      obtain ⟨gb, go, x, rfl, hgb, _, c2, hpx⟩ := HC.out i p hp
      have HPX := Lib.hid hpx
      have HGB := Lib.hid hgb
      have HC2 := Lib.hid c2
      have HOP := Lib.hid (HOK.out p (List.mem_of_getElem? hp))
      have HOL : Hid (((p.2.length : Nat) : Int) ≤ 9223372036854775807) := Lib.hid (by have := HOP.out.2.2; unfold maxLen at this; omega)
      obtain ⟨R, hR⟩ : ∃ R, chTo p.2 f p.2.length = R := ⟨_, rfl⟩
      have HRK : Hid (ChOk 275 f R) := Lib.hid (hR ▸ chTo_ok 275 p.2 f p.2.length)
      have HCH : Hid (∀ W pre, St w1 W (pre ++ arr sb (stC 30 f) 67 neSt :: jrn H jh' J' :: dev H D' :: []) → Calls Try.prog 53 #[x, .agg (stL f).toArray] W fun e w' => ∃ v vs, e = .returned (.tuple #[v, .agg (stL R.2.2).toArray]) ∧ St w1 w' (chgs v ((chK R).map fun k : Nat => (k : Int)) vs (chD R) :: (pre ++ arr sb (stC 30 f) 67 neSt :: jrn H jh' J' :: dev H D' :: []))) := Lib.hid (fun W pre hW => by
        have := S_changes hW x p.2 f (fun y _ hy => HPX.out.frm hy.base) HOP.out.2.1 HOL.out
        rw [hR] at this
        exact this)
      have hU : Try.prog.underlying 67 = some (.array 30 3) := Try.underlying67
      have hI1 := stL_info f
      have hI2 := stL_info R.2.2
      have hN2 := stL_length R.2.2
      have hN1 := stL_length f
      have hO2 := stL_one R.2.2
      have KA : Hid (∀ y, Frm NoB wr y → y.cell? ⟨gb, go + i * 2 + 1, none⟩ = some x ∧ y.rangeAt sb 0 (stL f)) := Lib.hid fun y hy =>
        ⟨((HST.out.frm0 hy).base.cell hgb (fun e => e)).trans c2, (HST.out.frm0 hy).rangeS 0 rfl⟩
      have KC : Hid (∀ y rs', St w1 y rs' → y.cell? ⟨gb, go + i * 2 + 1, none⟩ = some x) := Lib.hid fun y _ hy => (hy.base.cell HGB.out (fun e => e)).trans HC2.out
      have KD : Hid (∀ y a1 a2, St w1 y (a1 :: a2 :: arr sb (stC 30 f) 67 neSt :: jrn H jh' J' :: dev H D' :: []) → y.cell? ⟨gb, go + i * 2 + 1, none⟩ = some x ∧ y.rangeAt sb 0 (stL f)) := Lib.hid fun y a1 a2 hy => ⟨KC.out _ _ hy, hy.rangeS 2 rfl⟩
      have KE : Hid (∀ tb rs', ∀ {y : World}, St w1 y (arr tb #[.int .i64 0, .int .i64 0, .int .i64 0, .int .i64 0, .int .i64 0, .int .i64 0, .int .i64 0, .int .i64 0, .int .i64 0, .int .i64 0, .int .i64 0, .int .i64 0, .int .i64 0, .int .i64 0, .int .i64 0, .int .i64 0, .int .i64 0, .int .i64 0, .int .i64 0, .int .i64 0, .int .i64 0, .int .i64 0, .int .i64 0, .int .i64 0, .int .i64 0, .int .i64 0, .int .i64 0, .int .i64 0, .int .i64 0, .int .i64 0] 67 neSt :: rs') → St w1 (y.setCells tb 0 (stL R.2.2)) (arr tb (stC 30 R.2.2) 67 neSt :: rs')) := Lib.hid fun tb rs' y hy => by
        have := hy.setCells (i := 0) (stL R.2.2) 0 rfl
        rw [setFrom_zero R.2.2 _ rfl] at this
        exact this
      have HC0 : Hid (Calls Try.prog 53 #[x, .agg (stL f).toArray] wr.drew fun e w' => ∃ v vs, e = .returned (.tuple #[v, .agg (stL R.2.2).toArray]) ∧ St w1 w' (chgs v ((chK R).map fun k : Nat => (k : Int)) vs (chD R) :: arr sb (stC 30 f) 67 neSt :: jrn H jh' J' :: dev H D' :: [])) := Lib.hid (HCH.out wr.drew [] (HST.out.frm0 ((Frm.refl NoB wr).drew)))
      have HC1 : Hid (Calls Try.prog 53 #[x, .agg (stL f).toArray] (wr.drew.alloc (.cells #[.int .i64 0, .int .i64 0, .int .i64 0, .int .i64 0, .int .i64 0, .int .i64 0, .int .i64 0, .int .i64 0, .int .i64 0, .int .i64 0, .int .i64 0, .int .i64 0, .int .i64 0, .int .i64 0, .int .i64 0, .int .i64 0, .int .i64 0, .int .i64 0, .int .i64 0, .int .i64 0, .int .i64 0, .int .i64 0, .int .i64 0, .int .i64 0, .int .i64 0, .int .i64 0, .int .i64 0, .int .i64 0, .int .i64 0, .int .i64 0] 67 (0, 0))) fun e w' => ∃ v vs, e = .returned (.tuple #[v, .agg (stL R.2.2).toArray]) ∧ St w1 w' (chgs v ((chK R).map fun k : Nat => (k : Int)) vs (chD R) :: arr wr.heap.size #[.int .i64 0, .int .i64 0, .int .i64 0, .int .i64 0, .int .i64 0, .int .i64 0, .int .i64 0, .int .i64 0, .int .i64 0, .int .i64 0, .int .i64 0, .int .i64 0, .int .i64 0, .int .i64 0, .int .i64 0, .int .i64 0, .int .i64 0, .int .i64 0, .int .i64 0, .int .i64 0, .int .i64 0, .int .i64 0, .int .i64 0, .int .i64 0, .int .i64 0, .int .i64 0, .int .i64 0, .int .i64 0, .int .i64 0, .int .i64 0] 67 neSt :: arr sb (stC 30 f) 67 neSt :: jrn H jh' J' :: dev H D' :: [])) := Lib.hid (HCH.out _ [arr _ #[.int .i64 0, .int .i64 0, .int .i64 0, .int .i64 0, .int .i64 0, .int .i64 0, .int .i64 0, .int .i64 0, .int .i64 0, .int .i64 0, .int .i64 0, .int .i64 0, .int .i64 0, .int .i64 0, .int .i64 0, .int .i64 0, .int .i64 0, .int .i64 0, .int .i64 0, .int .i64 0, .int .i64 0, .int .i64 0, .int .i64 0, .int .i64 0, .int .i64 0, .int .i64 0, .int .i64 0, .int .i64 0, .int .i64 0, .int .i64 0] 67 neSt] ((HST.out.frm0 ((Frm.refl NoB wr).drew)).newArr #[.int .i64 0, .int .i64 0, .int .i64 0, .int .i64 0, .int .i64 0, .int .i64 0, .int .i64 0, .int .i64 0, .int .i64 0, .int .i64 0, .int .i64 0, .int .i64 0, .int .i64 0, .int .i64 0, .int .i64 0, .int .i64 0, .int .i64 0, .int .i64 0, .int .i64 0, .int .i64 0, .int .i64 0, .int .i64 0, .int .i64 0, .int .i64 0, .int .i64 0, .int .i64 0, .int .i64 0, .int .i64 0, .int .i64 0, .int .i64 0] 67 neSt))
      have HC3 : Hid (Calls Try.prog 53 #[x, .agg (stL f).toArray] ((wr.alloc (.cells #[.int .i64 0, .int .i64 0, .int .i64 0, .int .i64 0, .int .i64 0, .int .i64 0, .int .i64 0, .int .i64 0, .int .i64 0, .int .i64 0, .int .i64 0, .int .i64 0, .int .i64 0, .int .i64 0, .int .i64 0, .int .i64 0, .int .i64 0, .int .i64 0, .int .i64 0, .int .i64 0, .int .i64 0, .int .i64 0, .int .i64 0, .int .i64 0, .int .i64 0, .int .i64 0, .int .i64 0, .int .i64 0, .int .i64 0, .int .i64 0] 67 (0, 0))).drew) fun e w' => ∃ v vs, e = .returned (.tuple #[v, .agg (stL R.2.2).toArray]) ∧ St w1 w' (chgs v ((chK R).map fun k : Nat => (k : Int)) vs (chD R) :: arr wr.heap.size #[.int .i64 0, .int .i64 0, .int .i64 0, .int .i64 0, .int .i64 0, .int .i64 0, .int .i64 0, .int .i64 0, .int .i64 0, .int .i64 0, .int .i64 0, .int .i64 0, .int .i64 0, .int .i64 0, .int .i64 0, .int .i64 0, .int .i64 0, .int .i64 0, .int .i64 0, .int .i64 0, .int .i64 0, .int .i64 0, .int .i64 0, .int .i64 0, .int .i64 0, .int .i64 0, .int .i64 0, .int .i64 0, .int .i64 0, .int .i64 0] 67 neSt :: arr sb (stC 30 f) 67 neSt :: jrn H jh' J' :: dev H D' :: [])) := Lib.hid (HCH.out _ [arr _ #[.int .i64 0, .int .i64 0, .int .i64 0, .int .i64 0, .int .i64 0, .int .i64 0, .int .i64 0, .int .i64 0, .int .i64 0, .int .i64 0, .int .i64 0, .int .i64 0, .int .i64 0, .int .i64 0, .int .i64 0, .int .i64 0, .int .i64 0, .int .i64 0, .int .i64 0, .int .i64 0, .int .i64 0, .int .i64 0, .int .i64 0, .int .i64 0, .int .i64 0, .int .i64 0, .int .i64 0, .int .i64 0, .int .i64 0, .int .i64 0] 67 neSt] ((HST.out.newArr #[.int .i64 0, .int .i64 0, .int .i64 0, .int .i64 0, .int .i64 0, .int .i64 0, .int .i64 0, .int .i64 0, .int .i64 0, .int .i64 0, .int .i64 0, .int .i64 0, .int .i64 0, .int .i64 0, .int .i64 0, .int .i64 0, .int .i64 0, .int .i64 0, .int .i64 0, .int .i64 0, .int .i64 0, .int .i64 0, .int .i64 0, .int .i64 0, .int .i64 0, .int .i64 0, .int .i64 0, .int .i64 0, .int .i64 0, .int .i64 0] 67 neSt).frm0 ((Frm.refl NoB _).drew)))
      obtain ⟨k1, k2⟩ := KA.out wr (Frm.refl _ _)
      clear hp hpx hR c2
      go_upto_region 11 with (fail)
      go_cut [12, 13] from 57 to 66 (fun t12 t13 wx => ∃ tb vs, t13 = .pointer (some ⟨tb, 0, none⟩) ∧ St w1 wx (arr tb (stC 30 R.2.2) 67 neSt :: chgs t12 ((chK R).map fun k : Nat => (k : Int)) vs (chD R) :: arr sb (stC 30 f) 67 neSt :: jrn H jh' J' :: dev H D' :: []))
      case first =>
        go_region_held3 (fun y => y.cell? ⟨gb, go + i * 2 + 1, none⟩ = some x ∧ y.rangeAt sb 0 (stL f))
          (first | with_reducible exact hS5 | with_reducible exact hS6.out | with_reducible exact hS7.out | (refine KA.out _ ?_; first | with_reducible assumption | with_reducible exact (Frm.refl NoB wr).drew | with_reducible exact ((Frm.refl NoB wr).drew).alloc _ | with_reducible exact ((Frm.refl NoB wr).alloc _).drew | with_reducible exact (Frm.refl NoB wr).alloc _ ))
          (first
            | (go_at_call 53; with_reducible refine HC0.out.mono ?_; rintro e w4 ⟨v4, vs, rfl, h4⟩; have hS5 : w4.cell? ⟨gb, go + i * 2 + 1, none⟩ = some x ∧ w4.rangeAt sb 0 (stL f) := ⟨KC.out w4 _ h4, h4.rangeS 1 rfl⟩; have h5 := h4.newArr #[.int .i64 0, .int .i64 0, .int .i64 0, .int .i64 0, .int .i64 0, .int .i64 0, .int .i64 0, .int .i64 0, .int .i64 0, .int .i64 0, .int .i64 0, .int .i64 0, .int .i64 0, .int .i64 0, .int .i64 0, .int .i64 0, .int .i64 0, .int .i64 0, .int .i64 0, .int .i64 0, .int .i64 0, .int .i64 0, .int .i64 0, .int .i64 0, .int .i64 0, .int .i64 0, .int .i64 0, .int .i64 0, .int .i64 0, .int .i64 0] 67 neSt; have hT := h5.thereS 0 rfl 30 (by decide); have h6 := Lib.hid (KE.out w4.heap.size _ h5); have hS6 : Hid ((w4.alloc (.cells #[.int .i64 0, .int .i64 0, .int .i64 0, .int .i64 0, .int .i64 0, .int .i64 0, .int .i64 0, .int .i64 0, .int .i64 0, .int .i64 0, .int .i64 0, .int .i64 0, .int .i64 0, .int .i64 0, .int .i64 0, .int .i64 0, .int .i64 0, .int .i64 0, .int .i64 0, .int .i64 0, .int .i64 0, .int .i64 0, .int .i64 0, .int .i64 0, .int .i64 0, .int .i64 0, .int .i64 0, .int .i64 0, .int .i64 0, .int .i64 0] 67 (0, 0))).cell? ⟨gb, go + i * 2 + 1, none⟩ = some x ∧ (w4.alloc (.cells #[.int .i64 0, .int .i64 0, .int .i64 0, .int .i64 0, .int .i64 0, .int .i64 0, .int .i64 0, .int .i64 0, .int .i64 0, .int .i64 0, .int .i64 0, .int .i64 0, .int .i64 0, .int .i64 0, .int .i64 0, .int .i64 0, .int .i64 0, .int .i64 0, .int .i64 0, .int .i64 0, .int .i64 0, .int .i64 0, .int .i64 0, .int .i64 0, .int .i64 0, .int .i64 0, .int .i64 0, .int .i64 0, .int .i64 0, .int .i64 0] 67 (0, 0))).rangeAt sb 0 (stL f)) := Lib.hid ⟨KC.out _ _ h5, h5.rangeS 2 rfl⟩; have hS7 := Lib.hid (KD.out _ _ _ h6.out))
            | (go_at_call 53; first | with_reducible refine HC1.out.mono ?_ | with_reducible refine HC3.out.mono ?_; rintro e w4 ⟨v4, vs, rfl, h4⟩; have hS5 : w4.cell? ⟨gb, go + i * 2 + 1, none⟩ = some x ∧ w4.rangeAt sb 0 (stL f) := ⟨KC.out w4 _ h4, h4.rangeS 2 rfl⟩; have hT := h4.thereS 1 rfl 30 (by decide); have h6 := Lib.hid (KE.out _ _ h4.swap); have hS7 := Lib.hid (KD.out _ _ _ h6.out)))
        all_goals
          go_wp2_with fail
          go_meet
          first | exact ⟨_, _, rfl, h6.out⟩ | (case rel => exact ⟨_, _, rfl, h6.out⟩)
      case rest =>
        obtain ⟨tb, vs, rfl, hst⟩ := hcut
        have H5 := Lib.hid (show St w1 wc (jrn H jh' J' :: arr tb (stC 30 R.2.2) 67 neSt :: chgs u12 ((chK R).map fun k : Nat => (k : Int)) vs (chD R) :: arr sb (stC 30 f) 67 neSt :: dev H D' :: []) from hst.perm ((List.perm_append_comm (l₁ := [_, _, _]) (l₂ := [_])).append_right [_]))
        have HCM := Lib.hid (S_CommitK H5.out 3 1 rfl rfl HRK.out HR.out (by have := H40.out; omega) (by omega))
        rw [HJB.out] at HCM
        have HI : Hid (i + 1 ≤ 41) := Lib.hid (by have := H40.out; omega)
        clear hst KA KC KD KE HC0 HC1 HC3 HCH hU hI1 hI2 hN1 hN2 hO2 k1 k2
        go_wp2_with fail
        refine HCM.out.mono ?_
        clear HCM
        rintro e w6 ⟨jh6, J6, D6, hjb, h6, ⟨rfl, hR6⟩ | ⟨rfl, hR6⟩⟩
        · have H6 := Lib.hid (show St w1 w6 (jrn H jh6 J6 :: arr tb (stC 30 R.2.2) 67 neSt :: chgs u12 ((chK R).map fun k : Nat => (k : Int)) vs (chD R) :: arr sb (stC 30 f) 67 neSt :: dev H D6 :: []) from h6)
          have HR6 := Lib.hid hR6
          have HJ6 : Hid (jh6.jb = jh.jb) := Lib.hid hjb
          have HG6 := Lib.hid (show w6.heap[tb]? = some (.cells (stC 30 R.2.2) 67 (0, 0)) from H6.out.get (i := 1) rfl)
          have HS6 := Lib.hid (show w6.heap[sb]? = some (.cells (stC 30 f) 67 (0, 0)) from H6.out.get (i := 3) rfl)
          have h7 := H6.out.setRow 3 rfl (stC 30 R.2.2)
          have H7 := Lib.hid (show St w1 _ (jrn H jh6 J6 :: arr tb (stC 30 R.2.2) 67 neSt :: chgs u12 ((chK R).map fun k : Nat => (k : Int)) vs (chD R) :: arr sb (stC 30 R.2.2) 67 neSt :: dev H D6 :: []) from h7)
          have H7 := Lib.hid (H7.out.drop2nd.drop2nd.swap)
          clear h6 hR6 h7 hjb H5 H6
          go_wp2_with (first | refine loadSt rfl _ rfl tb rfl R.2.2 HG6.out ?_ | refine storeSt rfl _ _ rfl sb R.2.2 rfl rfl (stC 30 f) (stC_size _ _) HS6.out ?_)
          first | exact ⟨⟨i + 1, jh6, _, _, _, hlt, by go_num, HJ6, H7.out, HR6⟩, by simp [intOf]; omega⟩ | (go_roundw; case rel => first | exact ⟨i + 1, jh6, _, _, _, hlt, by go_num, HJ6, H7.out, HR6⟩ | ((repeat apply Exists.intro); exact ⟨⟨i + 1, jh6, _, _, _, hlt, by go_num, HJ6, H7.out, HR6⟩, rfl⟩); case measure => simp [intOf]; omega)
        · have H6 := Lib.hid (show St w1 w6 (jrn H jh6 J6 :: arr tb (stC 30 R.2.2) 67 neSt :: chgs u12 ((chK R).map fun k : Nat => (k : Int)) vs (chD R) :: arr sb (stC 30 f) 67 neSt :: dev H D6 :: []) from h6)
          have HS := Lib.hid (H6.out.drop2nd.drop2nd)
          have HLF := Lib.hid hR6
          clear h6 hR6 hjb H5 H6 HR
          have HE : Hid (Elems w6 (.slice b picks.length cap2) (picks.map IntK)) := Lib.hid ((show Elems w1 (.slice b picks.length cap2) (picks.map IntK) from ⟨b, cap2, by rw [List.length_map], HP.out⟩).frm HS.out.base)
          have HCR := Lib.hid (S_Crash HS.out 2 rfl (by have := HLF.out.2.2.1; have := HI.out; omega) _ picks HE.out HPK.out (by omega))
          clear HE
          go_wp2_with fail
          refine HCR.out.mono ?_
          clear HCR HS
          rintro e wa ⟨Ha, rfl, ha⟩
          have HOP := Lib.hid (S_openedK HLF.out (by have := HI.out; omega) picks ha)
          clear ha HLF
          go_wp2_with fail
          refine HOP.out.mono ?_
          clear HOP
          rintro e wb ⟨Hb, jhb, Jb, Db, s, rfl, hb, hlb, hlimb, hopsb, _⟩
          have HB := Lib.hid ((show St w1 wb (jrn Hb jhb Jb :: dev Hb Db :: _) from hb).sub ((((List.nil_sublist _).cons_cons _).cons_cons _)))
          have HLB := Lib.hid hlb
          have HOB : Hid (Db.ops ≤ 61) := Lib.hid hopsb
          clear hb hlb hlimb hopsb
          have HE : Hid (Elems wb (.slice b picks.length cap2) (picks.map IntK)) := Lib.hid ((show Elems w1 (.slice b picks.length cap2) (picks.map IntK) from ⟨b, cap2, by rw [List.length_map], HP.out⟩).frm HB.out.base)
          have HCR := Lib.hid (S_Crash HB.out 1 rfl (by have := HOB.out; omega) _ picks HE.out HPK.out (by omega))
          clear HE
          go_wp2_with fail
          refine HCR.out.mono ?_
          clear HCR HB
          rintro e wc2 ⟨Hc, rfl, hc⟩
          obtain ⟨p1, p2, p3, p4, p5, p6⟩ := HLB.out.wf' picks
          have HOPN := Lib.hid (S_opened (show St w1 wc2 (dev Hc (Db.crash picks) :: jrn Hb jhb Jb :: dev Hb Db :: []) from hc) 0 rfl p1 p2 p3 p4 (by omega) (by have := HI.out; omega) (by omega) (by omega) p5 _ _ [] [] ⟨none, 0, rfl, fun i x hx => by simp at hx⟩ ⟨none, 0, rfl, fun i x hx => by simp at hx⟩ (fun _ h => by cases h) (fun _ h => by cases h) (by decide))
          clear hc p1 p2 p3 p4 p5 p6
          go_wp2_with fail
          refine HOPN.out.mono ?_
          clear HOPN
          rintro e wd ⟨Hd, jhd, Jd, Dd, rfl, hd, hld, hlimd, hopsd⟩
          have HX := Lib.hid ((show St w1 wd (jrn Hd jhd Jd :: dev Hd Dd :: voidR :: jrn Hb jhb Jb :: dev Hb Db :: []) from hd).sub (List.Sublist.cons_cons _ (List.Sublist.cons_cons _ (List.Sublist.cons _ (List.Sublist.refl _)))))
          have HX := Lib.hid (show St w1 wd (jrn Hb jhb Jb :: dev Hb Db :: jrn Hd jhd Jd :: dev Hd Dd :: []) from HX.out.perm (List.perm_append_comm (l₁ := [_, _]) (l₂ := [_, _])))
          have HLD := Lib.hid hld
          have HOD : Hid (Dd.ops ≤ 61) := Lib.hid (by have h0 : (Db.crash picks).ops = 0 := rfl; omega)
          clear hd hld hlimd hopsd
          go_wp2_with fail
          go_loopw [19] (fun t wr => ∃ k : Nat, k ≤ 30 ∧ t = .int .i64 k ∧ St w1 wr (jrn Hb jhb Jb :: dev Hb Db :: jrn Hd jhd Jd :: dev Hd Dd :: [])) (fun t _ => 30 - (intOf t).toNat)
          case atStart => exact ⟨0, Nat.zero_le _, rfl, HX.out⟩
          case round =>
            clear HX
            obtain ⟨k, hk, rfl, hst⟩ := hrel
            have HST := Lib.hid hst
            clear hst
            by_cases hkt : k < 30
            · have hk0 : (0 : Int) ≤ (k : Int) := Int.natCast_nonneg _
              have hk1 : (k : Int) < 30 := by omega
              have hkn : (245 + (k : Int)).toNat = 245 + k := by omega
              have HRB := Lib.hid (S_JR HST.out 0 rfl (HLB.out.ok (by omega) (by have := HI.out; omega)) (by have := HOB.out; omega) (245 + (k : Int)) (by omega) (by rw [HLB.out.dn]; omega))
              have HVB : Hid (jview Jb Db (245 + (k : Int)).toNat = s (245 + k)) := Lib.hid (by rw [hkn]; exact HLB.out.view (245 + k) (by omega) (by omega))
              have HVD : Hid (jview Jd Dd (245 + (k : Int)).toNat = s (245 + k)) := Lib.hid (by rw [hkn]; exact HLD.out.view (245 + k) (by omega) (by omega))
              have HBL : Hid ((s (245 + k)).length = 512) := Lib.hid (by
                rw [← HLB.out.view (245 + k) (by omega) (by omega)]
                exact over_length _ _ _ _ (HLB.out.ok (by omega) (by have := HI.out; omega)).b512 (fun k => DSt.last_length HLB.out.wf k))
              clear hkn
              go_wp2_with fail
              refine HRB.out.mono ?_
              clear HRB HST
              rintro e we ⟨ve, rfl, he⟩
              rw [HVB.out] at he
              have HE2 := Lib.hid (show St w1 we (jrn Hd jhd Jd :: dev Hd Dd :: byt ve (s (245 + k)) :: jrn Hb jhb Jb :: dev Hb Db :: []) from he.perm (List.perm_append_comm (l₁ := [_, _, _]) (l₂ := [_, _])))
              have HRD := Lib.hid (S_JR HE2.out 0 rfl (HLD.out.ok (by omega) (by have := HI.out; omega)) (by have := HOD.out; omega) (245 + (k : Int)) (by omega) (by rw [HLD.out.dn]; omega))
              clear he HVB
              go_wp2_with fail
              refine HRD.out.mono ?_
              clear HRD HE2
              rintro e wf ⟨vf, rfl, hf⟩
              rw [HVD.out] at hf
              have HF2 := Lib.hid (show St w1 wf (byt vf (s (245 + k)) :: jrn Hd jhd Jd :: dev Hd Dd :: byt ve (s (245 + k)) :: jrn Hb jhb Jb :: dev Hb Db :: []) from hf)
              obtain ⟨bb, hbb⟩ : ∃ bb, s (245 + k) = bb := ⟨_, rfl⟩
              rw [hbb] at HF2 HBL
              clear hf HVD hbb
              go_wp2_with fail
              refine (S_Bytes HF2.out 3 0 rfl rfl (by rw [HBL.out]; omega)).mono ?_
              rintro e wg ⟨rfl, hg⟩
              rw [show (bb == bb) = true from beq_self_eq_true _]
              have HG2 := Lib.hid ((show St w1 wg (byt vf bb :: jrn Hd jhd Jd :: dev Hd Dd :: byt ve bb :: jrn Hb jhb Jb :: dev Hb Db :: []) from hg).sub (List.Sublist.cons _ (List.Sublist.cons_cons _ (List.Sublist.cons_cons _ (List.Sublist.cons _ (List.Sublist.refl _))))))
              have HG2 := Lib.hid (show St w1 wg (jrn Hb jhb Jb :: dev Hb Db :: jrn Hd jhd Jd :: dev Hd Dd :: []) from HG2.out.perm (List.perm_append_comm (l₁ := [_, _]) (l₂ := [_, _])))
              clear hg HF2
              go_wp2
              first | exact ⟨⟨k + 1, hkt, by go_num, HG2.out⟩, by simp [intOf]; omega⟩ | (go_roundw; case rel => first | exact ⟨k + 1, hkt, by go_num, HG2.out⟩ | ((repeat apply Exists.intro); exact ⟨⟨k + 1, hkt, by go_num, HG2.out⟩, rfl⟩); case measure => simp [intOf]; omega)
            · have hk1 : ¬ (k : Int) < 30 := by omega
              go_wp2_with fail
              refine (awake4_any HST.out).mono ?_
              rintro e w11 ⟨rfl, h11⟩
              have HF11 := Lib.hid h11.base
              clear h11
              go_wp2
              go_ret
              exact ⟨rfl, HF11.out⟩
    · have hi1 : ¬ (i : Int) < (l.length : Int) := by omega
      have HI : Hid (i ≤ 41) := Lib.hid (by have := H40.out; omega)
      have HS := Lib.hid HST.out.swap
      have HLF := Lib.hid (HR.out.left f)
      clear HST HR
      have HE : Hid (Elems wr (.slice b picks.length cap2) (picks.map IntK)) := Lib.hid ((show Elems w1 (.slice b picks.length cap2) (picks.map IntK) from ⟨b, cap2, by rw [List.length_map], HP.out⟩).frm HS.out.base)
      have HCR := Lib.hid (S_Crash HS.out 2 rfl (by have := HLF.out.2.2.1; have := HI.out; omega) _ picks HE.out HPK.out (by omega))
      clear HE
      go_wp2_with fail
      refine HCR.out.mono ?_
      clear HCR HS
      rintro e wa ⟨Ha, rfl, ha⟩
      have HOP := Lib.hid (S_openedK HLF.out (by have := HI.out; omega) picks ha)
      clear ha HLF
      go_wp2_with fail
      refine HOP.out.mono ?_
      clear HOP
      rintro e wb ⟨Hb, jhb, Jb, Db, s, rfl, hb, hlb, hlimb, hopsb, _⟩
      have HB := Lib.hid ((show St w1 wb (jrn Hb jhb Jb :: dev Hb Db :: _) from hb).sub ((((List.nil_sublist _).cons_cons _).cons_cons _)))
      have HLB := Lib.hid hlb
      have HOB : Hid (Db.ops ≤ 61) := Lib.hid hopsb
      clear hb hlb hlimb hopsb
      have HE : Hid (Elems wb (.slice b picks.length cap2) (picks.map IntK)) := Lib.hid ((show Elems w1 (.slice b picks.length cap2) (picks.map IntK) from ⟨b, cap2, by rw [List.length_map], HP.out⟩).frm HB.out.base)
      have HCR := Lib.hid (S_Crash HB.out 1 rfl (by have := HOB.out; omega) _ picks HE.out HPK.out (by omega))
      clear HE
      go_wp2_with fail
      refine HCR.out.mono ?_
      clear HCR HB
      rintro e wc2 ⟨Hc, rfl, hc⟩
      obtain ⟨p1, p2, p3, p4, p5, p6⟩ := HLB.out.wf' picks
      have HOPN := Lib.hid (S_opened (show St w1 wc2 (dev Hc (Db.crash picks) :: jrn Hb jhb Jb :: dev Hb Db :: []) from hc) 0 rfl p1 p2 p3 p4 (by omega) (by have := HI.out; omega) (by omega) (by omega) p5 _ _ [] [] ⟨none, 0, rfl, fun i x hx => by simp at hx⟩ ⟨none, 0, rfl, fun i x hx => by simp at hx⟩ (fun _ h => by cases h) (fun _ h => by cases h) (by decide))
      clear hc p1 p2 p3 p4 p5 p6
      go_wp2_with fail
      refine HOPN.out.mono ?_
      clear HOPN
      rintro e wd ⟨Hd, jhd, Jd, Dd, rfl, hd, hld, hlimd, hopsd⟩
      have HX := Lib.hid ((show St w1 wd (jrn Hd jhd Jd :: dev Hd Dd :: voidR :: jrn Hb jhb Jb :: dev Hb Db :: []) from hd).sub (List.Sublist.cons_cons _ (List.Sublist.cons_cons _ (List.Sublist.cons _ (List.Sublist.refl _)))))
      have HX := Lib.hid (show St w1 wd (jrn Hb jhb Jb :: dev Hb Db :: jrn Hd jhd Jd :: dev Hd Dd :: []) from HX.out.perm (List.perm_append_comm (l₁ := [_, _]) (l₂ := [_, _])))
      have HLD := Lib.hid hld
      have HOD : Hid (Dd.ops ≤ 61) := Lib.hid (by have h0 : (Db.crash picks).ops = 0 := rfl; omega)
      clear hd hld hlimd hopsd
      go_wp2_with fail
      go_loopw [19] (fun t wr => ∃ k : Nat, k ≤ 30 ∧ t = .int .i64 k ∧ St w1 wr (jrn Hb jhb Jb :: dev Hb Db :: jrn Hd jhd Jd :: dev Hd Dd :: [])) (fun t _ => 30 - (intOf t).toNat)
      case atStart => exact ⟨0, Nat.zero_le _, rfl, HX.out⟩
      case round =>
        clear HX
        obtain ⟨k, hk, rfl, hst⟩ := hrel
        have HST := Lib.hid hst
        clear hst
        by_cases hkt : k < 30
        · have hk0 : (0 : Int) ≤ (k : Int) := Int.natCast_nonneg _
          have hk1 : (k : Int) < 30 := by omega
          have hkn : (245 + (k : Int)).toNat = 245 + k := by omega
          have HRB := Lib.hid (S_JR HST.out 0 rfl (HLB.out.ok (by omega) (by have := HI.out; omega)) (by have := HOB.out; omega) (245 + (k : Int)) (by omega) (by rw [HLB.out.dn]; omega))
          have HVB : Hid (jview Jb Db (245 + (k : Int)).toNat = s (245 + k)) := Lib.hid (by rw [hkn]; exact HLB.out.view (245 + k) (by omega) (by omega))
          have HVD : Hid (jview Jd Dd (245 + (k : Int)).toNat = s (245 + k)) := Lib.hid (by rw [hkn]; exact HLD.out.view (245 + k) (by omega) (by omega))
          have HBL : Hid ((s (245 + k)).length = 512) := Lib.hid (by
            rw [← HLB.out.view (245 + k) (by omega) (by omega)]
            exact over_length _ _ _ _ (HLB.out.ok (by omega) (by have := HI.out; omega)).b512 (fun k => DSt.last_length HLB.out.wf k))
          clear hkn
          go_wp2_with fail
          refine HRB.out.mono ?_
          clear HRB HST
          rintro e we ⟨ve, rfl, he⟩
          rw [HVB.out] at he
          have HE2 := Lib.hid (show St w1 we (jrn Hd jhd Jd :: dev Hd Dd :: byt ve (s (245 + k)) :: jrn Hb jhb Jb :: dev Hb Db :: []) from he.perm (List.perm_append_comm (l₁ := [_, _, _]) (l₂ := [_, _])))
          have HRD := Lib.hid (S_JR HE2.out 0 rfl (HLD.out.ok (by omega) (by have := HI.out; omega)) (by have := HOD.out; omega) (245 + (k : Int)) (by omega) (by rw [HLD.out.dn]; omega))
          clear he HVB
          go_wp2_with fail
          refine HRD.out.mono ?_
          clear HRD HE2
          rintro e wf ⟨vf, rfl, hf⟩
          rw [HVD.out] at hf
          have HF2 := Lib.hid (show St w1 wf (byt vf (s (245 + k)) :: jrn Hd jhd Jd :: dev Hd Dd :: byt ve (s (245 + k)) :: jrn Hb jhb Jb :: dev Hb Db :: []) from hf)
          obtain ⟨bb, hbb⟩ : ∃ bb, s (245 + k) = bb := ⟨_, rfl⟩
          rw [hbb] at HF2 HBL
          clear hf HVD hbb
          go_wp2_with fail
          refine (S_Bytes HF2.out 3 0 rfl rfl (by rw [HBL.out]; omega)).mono ?_
          rintro e wg ⟨rfl, hg⟩
          rw [show (bb == bb) = true from beq_self_eq_true _]
          have HG2 := Lib.hid ((show St w1 wg (byt vf bb :: jrn Hd jhd Jd :: dev Hd Dd :: byt ve bb :: jrn Hb jhb Jb :: dev Hb Db :: []) from hg).sub (List.Sublist.cons _ (List.Sublist.cons_cons _ (List.Sublist.cons_cons _ (List.Sublist.cons _ (List.Sublist.refl _))))))
          have HG2 := Lib.hid (show St w1 wg (jrn Hb jhb Jb :: dev Hb Db :: jrn Hd jhd Jd :: dev Hd Dd :: []) from HG2.out.perm (List.perm_append_comm (l₁ := [_, _]) (l₂ := [_, _])))
          clear hg HF2
          go_wp2
          first | exact ⟨⟨k + 1, hkt, by go_num, HG2.out⟩, by simp [intOf]; omega⟩ | (go_roundw; case rel => first | exact ⟨k + 1, hkt, by go_num, HG2.out⟩ | ((repeat apply Exists.intro); exact ⟨⟨k + 1, hkt, by go_num, HG2.out⟩, rfl⟩); case measure => simp [intOf]; omega)
        · have hk1 : ¬ (k : Int) < 30 := by omega
          go_wp2_with fail
          refine (awake4_any HST.out).mono ?_
          rintro e w11 ⟨rfl, h11⟩
          have HF11 := Lib.hid h11.base
          clear h11
          go_wp2
          go_ret
          exact ⟨rfl, HF11.out⟩
end Go.Proofs.Ytkanfpmmgaipnaa
