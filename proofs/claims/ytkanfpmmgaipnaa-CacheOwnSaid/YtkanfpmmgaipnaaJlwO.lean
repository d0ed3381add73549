/-
  JournalPlays.
-/
import Derived.Test.YtkanfpmmgaipnaaJlwJ
namespace Go.Proofs.Ytkanfpmmgaipnaa
set_option linter.unusedVariables false
open Go.ChangeMaps Go.MapKept Go.RowKit

theorem LRel.mono {i j : Nat} {J : JSt} {D : DSt} {f : Nat → Int} (h : LRel i J D f) (hij : i ≤ j) : LRel j J D f := by
  obtain ⟨s, hl, hlim, hops, hto⟩ := h
  exact ⟨s, hl.mono hij, hlim, by omega, hto⟩

/-- Opening a device whose journal lives. -/
theorem S_OpenS {w0 : Gnd} {w : World} {rs : List Res} (h : St w0 w rs) (a : Nat) {H : Hdl} {D : DSt} (hr : rs[a]? = some (dev H D)) {i : Nat} {J : JSt} {f : Nat → Int} (hL : LRel i J D f) (hi : i ≤ 1000) :
    Calls Try.prog 49 #[.pointer (some ⟨H.b, 0, none⟩)] w fun e w' => ∃ jh J' D', e = .returned (.tuple #[.pointer (some ⟨jh.jb, 0, none⟩), .int .i64 0]) ∧ St w0 w' (jrn H jh J' :: rs.set a (dev H D')) ∧ LRel (i + 1) J' D' f := by
  obtain ⟨s, hl, hlim, hops, hto⟩ := hL
  refine (S_OpenL h a hr hl.wf hl.dn hl.clean hl.tells (by omega) (by omega) (by omega) (by omega) hlim).mono ?_
  rintro e w' ⟨jh, J', D', he, hst, hl', hlim', hops'⟩
  exact ⟨jh, J', D', he, hst, s, hl'.mono (Nat.le_succ i), hlim', by omega, hto⟩

set_option maxHeartbeats 1000000 in
set_option maxRecDepth 100000 in
theorem journalPlays_any (w : World) (v : Value) (l : List (Int × List (Int × Int))) (hv : Steps w v l) (hok : ∀ p ∈ l, okI p.1 ∧ (∀ q ∈ p.2, okI q.1 ∧ okI q.2) ∧ p.2.length ≤ maxLen) (hl : l.length ≤ maxLen) :
    Calls Try.prog 14 #[v] w fun e w' => e = .returned (.bool true) ∧ Frm NoB w w' := by
  have HS := Lib.hid (small_any w v l hv hl)
  obtain ⟨a, cap, rfl, hcell⟩ := hv
  have HC := Lib.hid hcell
  have HOK := Lib.hid hok
  have hl2 : ((l.length : Nat) : Int) ≤ 9223372036854775807 := by unfold maxLen at hl; omega
  have hl3 : (0 : Int) ≤ ((l.length : Nat) : Int) := Int.natCast_nonneg _
  clear hcell hok hl
  go_enter Try.func14, Try.ntmps14
  go_wp2_with fail
  refine HS.out.mono ?_
  clear HS
  rintro e w1 ⟨rfl, bs, rfl, hbs⟩
  cases bs with
  | false =>
    have hF : Hid (St w1 w1 []) := Lib.hid (St.start w1)
    clear hbs
    go_wp2_with fail
    refine (awake4_any hF.out).mono ?_
    rintro e w5 ⟨rfl, h5⟩
    have HF5 := Lib.hid h5.base
    clear h5
    go_wp2
    go_ret
    exact ⟨rfl, HF5.out⟩
  | true =>
    have H40 := Lib.hid (hbs rfl)
    have HF := Lib.hid (S_fresh (St.start w1))
    clear hbs
    go_wp2_with fail
    refine HF.out.mono ?_
    clear HF
    rintro e w2 ⟨H, jh, J, D, rfl, h1, hl1, hlim1, hops1⟩
    have HR1 := Lib.hid (LRel.start hl1 hlim1 hops1)
    have H1 := Lib.hid h1
    clear h1 hl1 hlim1 hops1
    go_upto_region 7 with (fail)
    have H2 := Lib.hid (H1.out.newArr #[.int .i64 0, .int .i64 0, .int .i64 0, .int .i64 0, .int .i64 0, .int .i64 0, .int .i64 0, .int .i64 0, .int .i64 0, .int .i64 0, .int .i64 0, .int .i64 0, .int .i64 0, .int .i64 0, .int .i64 0, .int .i64 0, .int .i64 0, .int .i64 0, .int .i64 0, .int .i64 0, .int .i64 0, .int .i64 0, .int .i64 0, .int .i64 0, .int .i64 0, .int .i64 0, .int .i64 0, .int .i64 0, .int .i64 0, .int .i64 0] 67 neSt)
    obtain ⟨w3, hw3⟩ : ∃ w3, w3 = w2.alloc (.cells #[.int .i64 0, .int .i64 0, .int .i64 0, .int .i64 0, .int .i64 0, .int .i64 0, .int .i64 0, .int .i64 0, .int .i64 0, .int .i64 0, .int .i64 0, .int .i64 0, .int .i64 0, .int .i64 0, .int .i64 0, .int .i64 0, .int .i64 0, .int .i64 0, .int .i64 0, .int .i64 0, .int .i64 0, .int .i64 0, .int .i64 0, .int .i64 0, .int .i64 0, .int .i64 0, .int .i64 0, .int .i64 0, .int .i64 0, .int .i64 0] 67 (0, 0)) := ⟨_, rfl⟩
    rw [← hw3] at H2 ⊢
    rw [show (#[.int .i64 0, .int .i64 0, .int .i64 0, .int .i64 0, .int .i64 0, .int .i64 0, .int .i64 0, .int .i64 0, .int .i64 0, .int .i64 0, .int .i64 0, .int .i64 0, .int .i64 0, .int .i64 0, .int .i64 0, .int .i64 0, .int .i64 0, .int .i64 0, .int .i64 0, .int .i64 0, .int .i64 0, .int .i64 0, .int .i64 0, .int .i64 0, .int .i64 0, .int .i64 0, .int .i64 0, .int .i64 0, .int .i64 0, .int .i64 0] : Array Value) = stC 30 zeroS from rfl] at H2
    clear hw3 H1
    generalize w2.heap.size = sb at *
    have H2 := Lib.hid (show St w1 w3 (arr sb (stC 30 zeroS) 67 neSt :: jrn H jh J :: dev H D :: []) from H2.out)
    go_wp2_with fail
    go_loopw [4, 7] (fun t4 t7 wr => ∃ (i : Nat) (jh' : JHdl) (J' : JSt) (D' : DSt) (f : Nat → Int), i ≤ l.length ∧ t4 = .pointer (some ⟨jh'.jb, 0, none⟩) ∧ t7 = .int .i64 i ∧ St w1 wr (arr sb (stC 30 f) 67 neSt :: jrn H jh' J' :: dev H D' :: []) ∧ Hid (LRel i J' D' f)) (fun _ t _ => l.length - (intOf t).toNat)
    case atStart => exact ⟨0, jh, J, D, zeroS, Nat.zero_le _, rfl, rfl, H2.out, HR1⟩
    case round =>
      clear H2 HR1
      obtain ⟨i, jh', J', D', f, hi, rfl, rfl, hst, HR⟩ := hrel
      have HST := Lib.hid hst
      clear hst
      by_cases hlt : i < l.length
      · have hi0 : (0 : Int) ≤ (i : Int) := Int.natCast_nonneg _
        have hi1 : (i : Int) < (l.length : Int) := by omega
        obtain ⟨p, hp⟩ : ∃ p, l[i]? = some p := ⟨_, List.getElem?_eq_getElem hlt⟩
        obtain ⟨gb, go, x, rfl, hgb, c1, c2, hpx⟩ := HC.out i p hp
        have HPX := Lib.hid hpx
        have HGB := Lib.hid hgb
        have HC2 := Lib.hid c2
        have HOP := Lib.hid (HOK.out p (List.mem_of_getElem? hp))
        have HOL : Hid (((p.2.length : Nat) : Int) ≤ 9223372036854775807) := Lib.hid (by have := HOP.out.2.2; unfold maxLen at this; omega)
        have c1' : wr.cell? ⟨gb, go + i * 2, none⟩ = some (.int .i64 p.1) := (HST.out.base.cell hgb (fun e => e)).trans c1
        clear hp hpx c1 c2
        go_upto_region 11 with (fail)
        clear c1'
        by_cases hk1 : (p.1 == 1) = true
        · have c2 : w1.cell? ⟨gb, go + i * 2 + 1, none⟩ = some x := HC2.out
          obtain ⟨R, hR⟩ : ∃ R, chTo p.2 f p.2.length = R := ⟨_, rfl⟩
          have HRK : Hid (ChOk 275 f R) := Lib.hid (hR ▸ chTo_ok 275 p.2 f p.2.length)
          have HCH : Hid (∀ W pre, St w1 W (pre ++ arr sb (stC 30 f) 67 neSt :: jrn H jh' J' :: dev H D' :: []) → Calls Try.prog 53 #[x, .agg (stL f).toArray] W fun e w' => ∃ v vs, e = .returned (.tuple #[v, .agg (stL R.2.2).toArray]) ∧ St w1 w' (chgs v ((chK R).map fun k : Nat => (k : Int)) vs (chD R) :: (pre ++ arr sb (stC 30 f) 67 neSt :: jrn H jh' J' :: dev H D' :: []))) := Lib.hid (fun W pre hW => by
            have := S_changes hW x p.2 f (fun y _ hy => HPX.out.frm hy.base) HOP.out.2.1 HOL.out
            rw [hR] at this
            exact this)
          have hU : Try.prog.underlying 67 = some (.array 30 3) := Try.underlying67
          have hI1 := stL_info f
          have hI2 := stL_info R.2.2
          have hN2 := stL_length R.2.2
          have hN1 := stL_length f
          have hO2 := stL_one R.2.2
          have KA : Hid (∀ y, Frm NoB wr y → y.cell? ⟨gb, go + i * 2 + 1, none⟩ = some x ∧ y.rangeAt sb 0 (stL f)) := Lib.hid fun y hy =>
            ⟨((HST.out.frm0 hy).base.cell hgb (fun e => e)).trans c2, (HST.out.frm0 hy).rangeS 0 rfl⟩
          have KC : Hid (∀ y rs', St w1 y rs' → y.cell? ⟨gb, go + i * 2 + 1, none⟩ = some x) := Lib.hid fun y _ hy => (hy.base.cell HGB.out (fun e => e)).trans HC2.out
          have KD : Hid (∀ y a1 a2, St w1 y (a1 :: a2 :: arr sb (stC 30 f) 67 neSt :: jrn H jh' J' :: dev H D' :: []) → y.cell? ⟨gb, go + i * 2 + 1, none⟩ = some x ∧ y.rangeAt sb 0 (stL f)) := Lib.hid fun y a1 a2 hy => ⟨KC.out _ _ hy, hy.rangeS 2 rfl⟩
          have KE : Hid (∀ tb rs', ∀ {y : World}, St w1 y (arr tb #[.int .i64 0, .int .i64 0, .int .i64 0, .int .i64 0, .int .i64 0, .int .i64 0, .int .i64 0, .int .i64 0, .int .i64 0, .int .i64 0, .int .i64 0, .int .i64 0, .int .i64 0, .int .i64 0, .int .i64 0, .int .i64 0, .int .i64 0, .int .i64 0, .int .i64 0, .int .i64 0, .int .i64 0, .int .i64 0, .int .i64 0, .int .i64 0, .int .i64 0, .int .i64 0, .int .i64 0, .int .i64 0, .int .i64 0, .int .i64 0] 67 neSt :: rs') → St w1 (y.setCells tb 0 (stL R.2.2)) (arr tb (stC 30 R.2.2) 67 neSt :: rs')) := Lib.hid fun tb rs' y hy => by
            have := hy.setCells (i := 0) (stL R.2.2) 0 rfl
            rw [setFrom_zero R.2.2 _ rfl] at this
            exact this
          have HC0 : Hid (Calls Try.prog 53 #[x, .agg (stL f).toArray] wr.drew fun e w' => ∃ v vs, e = .returned (.tuple #[v, .agg (stL R.2.2).toArray]) ∧ St w1 w' (chgs v ((chK R).map fun k : Nat => (k : Int)) vs (chD R) :: arr sb (stC 30 f) 67 neSt :: jrn H jh' J' :: dev H D' :: [])) := Lib.hid (HCH.out wr.drew [] (HST.out.frm0 ((Frm.refl NoB wr).drew)))
          have HC1 : Hid (Calls Try.prog 53 #[x, .agg (stL f).toArray] (wr.drew.alloc (.cells #[.int .i64 0, .int .i64 0, .int .i64 0, .int .i64 0, .int .i64 0, .int .i64 0, .int .i64 0, .int .i64 0, .int .i64 0, .int .i64 0, .int .i64 0, .int .i64 0, .int .i64 0, .int .i64 0, .int .i64 0, .int .i64 0, .int .i64 0, .int .i64 0, .int .i64 0, .int .i64 0, .int .i64 0, .int .i64 0, .int .i64 0, .int .i64 0, .int .i64 0, .int .i64 0, .int .i64 0, .int .i64 0, .int .i64 0, .int .i64 0] 67 (0, 0))) fun e w' => ∃ v vs, e = .returned (.tuple #[v, .agg (stL R.2.2).toArray]) ∧ St w1 w' (chgs v ((chK R).map fun k : Nat => (k : Int)) vs (chD R) :: arr wr.heap.size #[.int .i64 0, .int .i64 0, .int .i64 0, .int .i64 0, .int .i64 0, .int .i64 0, .int .i64 0, .int .i64 0, .int .i64 0, .int .i64 0, .int .i64 0, .int .i64 0, .int .i64 0, .int .i64 0, .int .i64 0, .int .i64 0, .int .i64 0, .int .i64 0, .int .i64 0, .int .i64 0, .int .i64 0, .int .i64 0, .int .i64 0, .int .i64 0, .int .i64 0, .int .i64 0, .int .i64 0, .int .i64 0, .int .i64 0, .int .i64 0] 67 neSt :: arr sb (stC 30 f) 67 neSt :: jrn H jh' J' :: dev H D' :: [])) := Lib.hid (HCH.out _ [arr _ #[.int .i64 0, .int .i64 0, .int .i64 0, .int .i64 0, .int .i64 0, .int .i64 0, .int .i64 0, .int .i64 0, .int .i64 0, .int .i64 0, .int .i64 0, .int .i64 0, .int .i64 0, .int .i64 0, .int .i64 0, .int .i64 0, .int .i64 0, .int .i64 0, .int .i64 0, .int .i64 0, .int .i64 0, .int .i64 0, .int .i64 0, .int .i64 0, .int .i64 0, .int .i64 0, .int .i64 0, .int .i64 0, .int .i64 0, .int .i64 0] 67 neSt] ((HST.out.frm0 ((Frm.refl NoB wr).drew)).newArr #[.int .i64 0, .int .i64 0, .int .i64 0, .int .i64 0, .int .i64 0, .int .i64 0, .int .i64 0, .int .i64 0, .int .i64 0, .int .i64 0, .int .i64 0, .int .i64 0, .int .i64 0, .int .i64 0, .int .i64 0, .int .i64 0, .int .i64 0, .int .i64 0, .int .i64 0, .int .i64 0, .int .i64 0, .int .i64 0, .int .i64 0, .int .i64 0, .int .i64 0, .int .i64 0, .int .i64 0, .int .i64 0, .int .i64 0, .int .i64 0] 67 neSt))
          have HC3 : Hid (Calls Try.prog 53 #[x, .agg (stL f).toArray] ((wr.alloc (.cells #[.int .i64 0, .int .i64 0, .int .i64 0, .int .i64 0, .int .i64 0, .int .i64 0, .int .i64 0, .int .i64 0, .int .i64 0, .int .i64 0, .int .i64 0, .int .i64 0, .int .i64 0, .int .i64 0, .int .i64 0, .int .i64 0, .int .i64 0, .int .i64 0, .int .i64 0, .int .i64 0, .int .i64 0, .int .i64 0, .int .i64 0, .int .i64 0, .int .i64 0, .int .i64 0, .int .i64 0, .int .i64 0, .int .i64 0, .int .i64 0] 67 (0, 0))).drew) fun e w' => ∃ v vs, e = .returned (.tuple #[v, .agg (stL R.2.2).toArray]) ∧ St w1 w' (chgs v ((chK R).map fun k : Nat => (k : Int)) vs (chD R) :: arr wr.heap.size #[.int .i64 0, .int .i64 0, .int .i64 0, .int .i64 0, .int .i64 0, .int .i64 0, .int .i64 0, .int .i64 0, .int .i64 0, .int .i64 0, .int .i64 0, .int .i64 0, .int .i64 0, .int .i64 0, .int .i64 0, .int .i64 0, .int .i64 0, .int .i64 0, .int .i64 0, .int .i64 0, .int .i64 0, .int .i64 0, .int .i64 0, .int .i64 0, .int .i64 0, .int .i64 0, .int .i64 0, .int .i64 0, .int .i64 0, .int .i64 0] 67 neSt :: arr sb (stC 30 f) 67 neSt :: jrn H jh' J' :: dev H D' :: [])) := Lib.hid (HCH.out _ [arr _ #[.int .i64 0, .int .i64 0, .int .i64 0, .int .i64 0, .int .i64 0, .int .i64 0, .int .i64 0, .int .i64 0, .int .i64 0, .int .i64 0, .int .i64 0, .int .i64 0, .int .i64 0, .int .i64 0, .int .i64 0, .int .i64 0, .int .i64 0, .int .i64 0, .int .i64 0, .int .i64 0, .int .i64 0, .int .i64 0, .int .i64 0, .int .i64 0, .int .i64 0, .int .i64 0, .int .i64 0, .int .i64 0, .int .i64 0, .int .i64 0] 67 neSt] ((HST.out.newArr #[.int .i64 0, .int .i64 0, .int .i64 0, .int .i64 0, .int .i64 0, .int .i64 0, .int .i64 0, .int .i64 0, .int .i64 0, .int .i64 0, .int .i64 0, .int .i64 0, .int .i64 0, .int .i64 0, .int .i64 0, .int .i64 0, .int .i64 0, .int .i64 0, .int .i64 0, .int .i64 0, .int .i64 0, .int .i64 0, .int .i64 0, .int .i64 0, .int .i64 0, .int .i64 0, .int .i64 0, .int .i64 0, .int .i64 0, .int .i64 0] 67 neSt).frm0 ((Frm.refl NoB _).drew)))
          obtain ⟨k1, k2⟩ := KA.out wr (Frm.refl _ _)
          clear hR
          go_upto_region 12 with (fail)
          go_cut [8, 9] from 39 to 48 (fun t8 t9 wx => ∃ tb vs, t9 = .pointer (some ⟨tb, 0, none⟩) ∧ St w1 wx (arr tb (stC 30 R.2.2) 67 neSt :: chgs t8 ((chK R).map fun k : Nat => (k : Int)) vs (chD R) :: arr sb (stC 30 f) 67 neSt :: jrn H jh' J' :: dev H D' :: []))
          case first =>
            go_region_held3 (fun y => y.cell? ⟨gb, go + i * 2 + 1, none⟩ = some x ∧ y.rangeAt sb 0 (stL f))
              (first | with_reducible exact hS5 | with_reducible exact hS6.out | with_reducible exact hS7.out | (refine KA.out _ ?_; first | with_reducible assumption | with_reducible exact (Frm.refl NoB wr).drew | with_reducible exact ((Frm.refl NoB wr).drew).alloc _ | with_reducible exact ((Frm.refl NoB wr).alloc _).drew | with_reducible exact (Frm.refl NoB wr).alloc _ ))
              (first
                | (go_at_call 53; with_reducible refine HC0.out.mono ?_; rintro e w4 ⟨v4, vs, rfl, h4⟩; have hS5 : w4.cell? ⟨gb, go + i * 2 + 1, none⟩ = some x ∧ w4.rangeAt sb 0 (stL f) := ⟨KC.out w4 _ h4, h4.rangeS 1 rfl⟩; have h5 := h4.newArr #[.int .i64 0, .int .i64 0, .int .i64 0, .int .i64 0, .int .i64 0, .int .i64 0, .int .i64 0, .int .i64 0, .int .i64 0, .int .i64 0, .int .i64 0, .int .i64 0, .int .i64 0, .int .i64 0, .int .i64 0, .int .i64 0, .int .i64 0, .int .i64 0, .int .i64 0, .int .i64 0, .int .i64 0, .int .i64 0, .int .i64 0, .int .i64 0, .int .i64 0, .int .i64 0, .int .i64 0, .int .i64 0, .int .i64 0, .int .i64 0] 67 neSt; have hT := h5.thereS 0 rfl 30 (by decide); have h6 := Lib.hid (KE.out w4.heap.size _ h5); have hS6 : Hid ((w4.alloc (.cells #[.int .i64 0, .int .i64 0, .int .i64 0, .int .i64 0, .int .i64 0, .int .i64 0, .int .i64 0, .int .i64 0, .int .i64 0, .int .i64 0, .int .i64 0, .int .i64 0, .int .i64 0, .int .i64 0, .int .i64 0, .int .i64 0, .int .i64 0, .int .i64 0, .int .i64 0, .int .i64 0, .int .i64 0, .int .i64 0, .int .i64 0, .int .i64 0, .int .i64 0, .int .i64 0, .int .i64 0, .int .i64 0, .int .i64 0, .int .i64 0] 67 (0, 0))).cell? ⟨gb, go + i * 2 + 1, none⟩ = some x ∧ (w4.alloc (.cells #[.int .i64 0, .int .i64 0, .int .i64 0, .int .i64 0, .int .i64 0, .int .i64 0, .int .i64 0, .int .i64 0, .int .i64 0, .int .i64 0, .int .i64 0, .int .i64 0, .int .i64 0, .int .i64 0, .int .i64 0, .int .i64 0, .int .i64 0, .int .i64 0, .int .i64 0, .int .i64 0, .int .i64 0, .int .i64 0, .int .i64 0, .int .i64 0, .int .i64 0, .int .i64 0, .int .i64 0, .int .i64 0, .int .i64 0, .int .i64 0] 67 (0, 0))).rangeAt sb 0 (stL f)) := Lib.hid ⟨KC.out _ _ h5, h5.rangeS 2 rfl⟩; have hS7 := Lib.hid (KD.out _ _ _ h6.out))
                | (go_at_call 53; first | with_reducible refine HC1.out.mono ?_ | with_reducible refine HC3.out.mono ?_; rintro e w4 ⟨v4, vs, rfl, h4⟩; have hS5 : w4.cell? ⟨gb, go + i * 2 + 1, none⟩ = some x ∧ w4.rangeAt sb 0 (stL f) := ⟨KC.out w4 _ h4, h4.rangeS 2 rfl⟩; have hT := h4.thereS 1 rfl 30 (by decide); have h6 := Lib.hid (KE.out _ _ h4.swap); have hS7 := Lib.hid (KD.out _ _ _ h6.out)))
            all_goals
              go_wp2_with fail
              go_meet
              first | exact ⟨_, _, rfl, h6.out⟩ | (case rel => exact ⟨_, _, rfl, h6.out⟩)
          case rest =>
            obtain ⟨tb, vs, rfl, hst⟩ := hcut
            have H5 := Lib.hid (show St w1 wc (jrn H jh' J' :: arr tb (stC 30 R.2.2) 67 neSt :: chgs u8 ((chK R).map fun k : Nat => (k : Int)) vs (chD R) :: arr sb (stC 30 f) 67 neSt :: dev H D' :: []) from hst.perm ((List.perm_append_comm (l₁ := [_, _, _]) (l₂ := [_])).append_right [_]))
            have HCM := Lib.hid (S_CommitS H5.out 3 1 rfl rfl HRK.out HR.out (by have := H40.out; omega) (by omega))
            clear hst KA KC KD KE HC0 HC1 HC3 HCH hU hI1 hI2 hN1 hN2 hO2 k1 k2
            go_wp2_with fail
            refine HCM.out.mono ?_
            clear HCM
            rintro e w6 ⟨jh6, J6, D6, hjb, rfl, h6, hR6⟩
            have H6 := Lib.hid (show St w1 w6 (jrn H jh6 J6 :: arr tb (stC 30 R.2.2) 67 neSt :: chgs u8 ((chK R).map fun k : Nat => (k : Int)) vs (chD R) :: arr sb (stC 30 f) 67 neSt :: dev H D6 :: []) from h6)
            have HR6 := Lib.hid hR6
            have HJ6 : Hid (jh6.jb = jh'.jb) := Lib.hid hjb
            have HG6 := Lib.hid (show w6.heap[tb]? = some (.cells (stC 30 R.2.2) 67 (0, 0)) from H6.out.get (i := 1) rfl)
            have HS6 := Lib.hid (show w6.heap[sb]? = some (.cells (stC 30 f) 67 (0, 0)) from H6.out.get (i := 3) rfl)
            have h7 := H6.out.setRow 3 rfl (stC 30 R.2.2)
            have H7 := Lib.hid (show St w1 (w6.setRow sb (stC 30 R.2.2)) (jrn H jh6 J6 :: arr tb (stC 30 R.2.2) 67 neSt :: chgs u8 ((chK R).map fun k : Nat => (k : Int)) vs (chD R) :: arr sb (stC 30 R.2.2) 67 neSt :: dev H D6 :: []) from h7)
            have H7 := Lib.hid (H7.out.drop2nd.drop2nd)
            clear h6 hR6 h7 hjb H5 H6 HR
            go_upto_region 30 with (first | refine loadSt rfl _ rfl tb rfl R.2.2 HG6.out ?_ | refine storeSt rfl _ _ rfl sb R.2.2 rfl rfl (stC 30 f) (stC_size _ _) HS6.out ?_)
            obtain ⟨w7, hw7⟩ : ∃ w7, w7 = w6.setRow sb (stC 30 R.2.2) := ⟨_, rfl⟩
            rw [← hw7] at H7 ⊢
            clear hw7 HG6 HS6
            have HG7 := Lib.hid (show w7.heap[sb]? = some (.cells (stC 30 (R.2.2)) 67 (0, 0)) from H7.out.get (i := 1) rfl)
            have HIS := Lib.hid (S_isS H7.out 1 rfl HR6.out (by have := H40.out; omega))
            rw [HJ6.out] at HIS
            clear H7
            go_wp2_with (first | refine loadSt rfl _ rfl sb rfl (R.2.2) HG7.out ?_)
            refine HIS.out.mono ?_
            clear HIS HG7
            rintro e w8 ⟨rfl, h8⟩
            have H8 := Lib.hid (show St w1 w8 (jrn H jh6 J6 :: arr sb (stC 30 (R.2.2)) 67 neSt :: dev H D6 :: []) from h8)
            have H9 := Lib.hid H8.out.swap
            clear h8 H8
            go_wp2
            first | exact ⟨⟨i + 1, jh6, _, _, _, hlt, (by rw [HJ6.out]), by go_num, H9.out, HR6⟩, by simp [intOf]; omega⟩ | (go_roundw; case rel => first | exact ⟨i + 1, jh6, _, _, _, hlt, (by rw [HJ6.out]), by go_num, H9.out, HR6⟩ | ((repeat apply Exists.intro); exact ⟨⟨i + 1, jh6, _, _, _, hlt, (by rw [HJ6.out]), by go_num, H9.out, HR6⟩, rfl⟩); case measure => simp [intOf]; omega)
        have hk1 : (p.1 == 1) = false := by simpa using hk1
        by_cases hk2 : (p.1 == 2) = true
        · have HSY := Lib.hid (S_SyncS HST.out.swap 1 rfl HR.out (by have := H40.out; omega))
          clear HST HR
          go_wp2_with fail
          refine HSY.out.mono ?_
          clear HSY
          rintro e w4 ⟨jh6, J6, D6, hjb, rfl, h4, hR4, hb4⟩
          have HX := Lib.hid (show St w1 w4 (dev H D6 :: jrn H jh6 J6 :: arr sb (stC 30 f) 67 neSt :: []) from (show St w1 w4 (jrn H jh6 J6 :: arr sb (stC 30 f) 67 neSt :: dev H D6 :: []) from h4).perm (List.perm_append_comm (l₁ := [_, _]) (l₂ := [_])))
          have HR6 := Lib.hid hR4
          have HJ6 : Hid (jh6.jb = jh'.jb) := Lib.hid hjb
          have HV : Hid (∀ k, k < 30 → D6.last (245 + k) = blockOf (f k)) := Lib.hid fun k hk => by
            obtain ⟨s, hl4, _⟩ := hR4
            exact (last_of_clean D6 _ (hl4.clean _)).trans (hb4 k hk)
          have HN : Hid (D6.n = 275 ∧ D6.ops ≤ 100 + 200 * (i + 1)) := Lib.hid (by
            have := hR4.opsLe
            obtain ⟨s, hl4, _⟩ := hR4
            exact ⟨hl4.dn, this⟩)
          clear h4 hR4 hb4 hjb
          go_wp2_with fail
          go_loopw [10, 11, 12] (fun t _ _ wr => ∃ k : Nat, k ≤ 30 ∧ t = .int .i64 k ∧ St w1 wr (dev H D6 :: jrn H jh6 J6 :: arr sb (stC 30 f) 67 neSt :: [])) (fun t _ _ _ => 30 - (intOf t).toNat)
          case atStart => exact ⟨0, Nat.zero_le _, rfl, HX.out⟩
          case round =>
            clear HX
            obtain ⟨k, hk, rfl, hst⟩ := hrel
            have HST := Lib.hid hst
            clear hst
            by_cases hkt : k < 30
            · have hk0 : (0 : Int) ≤ (k : Int) := Int.natCast_nonneg _
              have hk1 : (k : Int) < 30 := by omega
              have HRD := Lib.hid (S_Read HST.out 0 rfl (245 + (k : Int)) (by omega) (by rw [HN.out.1]; omega) (by have := HN.out.2; have := H40.out; omega))
              rw [show (245 + (k : Int)).toNat = 245 + k from by omega, HV.out k hkt] at HRD
              go_wp2_with fail
              refine HRD.out.mono ?_
              clear HRD
              rintro e w6 ⟨v6, rfl, h6⟩
              have H6 := Lib.hid h6
              have c1 : w6.cell? ⟨sb, k, none⟩ = some (.int .i64 (f k)) := (h6.arrCell (i := 3) rfl k).trans (stC_get 30 f k hkt)
              clear h6 HST
              go_wp2_with fail
              clear c1
              refine (S_Block H6.out (f k)).mono ?_
              rintro e w7 ⟨u7, rfl, h7⟩
              have H7 := Lib.hid h7
              clear h7 H6
              go_wp2_with fail
              refine (S_Bytes H7.out 1 0 rfl rfl (by rw [blockOf_length]; omega)).mono ?_
              rintro e w8 ⟨rfl, h8⟩
              rw [show (blockOf (f k) == blockOf (f k)) = true from beq_self_eq_true _]
              have H8 := Lib.hid (h8.drop 2)
              clear h8 H7
              go_wp2
              first | exact ⟨⟨k + 1, hkt, by go_num, H8.out⟩, by simp [intOf]; omega⟩ | (go_roundw; case rel => first | exact ⟨k + 1, hkt, by go_num, H8.out⟩ | ((repeat apply Exists.intro); exact ⟨⟨k + 1, hkt, by go_num, H8.out⟩, rfl⟩); case measure => simp [intOf]; omega)
            · have hk1 : ¬ (k : Int) < 30 := by omega
              have H7 := Lib.hid (show St w1 wr (jrn H jh6 J6 :: arr sb (stC 30 f) 67 neSt :: dev H D6 :: []) from HST.out.perm (List.perm_append_comm (l₁ := [_]) (l₂ := [_, _])))
              clear HST HV HN
              have HG7 := Lib.hid (show wr.heap[sb]? = some (.cells (stC 30 (f)) 67 (0, 0)) from H7.out.get (i := 1) rfl)
              have HIS := Lib.hid (S_isS H7.out 1 rfl HR6.out (by have := H40.out; omega))
              rw [HJ6.out] at HIS
              clear H7
              go_wp2_with (first | refine loadSt rfl _ rfl sb rfl (f) HG7.out ?_)
              refine HIS.out.mono ?_
              clear HIS HG7
              rintro e w8 ⟨rfl, h8⟩
              have H8 := Lib.hid (show St w1 w8 (jrn H jh6 J6 :: arr sb (stC 30 (f)) 67 neSt :: dev H D6 :: []) from h8)
              have H9 := Lib.hid H8.out.swap
              clear h8 H8
              go_wp2
              first | exact ⟨⟨i + 1, jh6, _, _, _, hlt, (by rw [HJ6.out]), by go_num, H9.out, HR6⟩, by simp [intOf]; omega⟩ | (go_roundw; case rel => first | exact ⟨i + 1, jh6, _, _, _, hlt, (by rw [HJ6.out]), by go_num, H9.out, HR6⟩ | ((repeat apply Exists.intro); exact ⟨⟨i + 1, jh6, _, _, _, hlt, (by rw [HJ6.out]), by go_num, H9.out, HR6⟩, rfl⟩); case measure => simp [intOf]; omega)
        have hk2 : (p.1 == 2) = false := by simpa using hk2
        by_cases hk3 : (p.1 == 3) = true
        · have HOQ := Lib.hid (S_OpenS HST.out 2 rfl HR.out (by have := H40.out; omega))
          clear HST HR
          go_wp2_with fail
          refine HOQ.out.mono ?_
          clear HOQ
          rintro e w6 ⟨jh6, J6, D6, rfl, h6, hR6⟩
          have H7 := Lib.hid (show St w1 w6 (jrn H jh6 J6 :: arr sb (stC 30 f) 67 neSt :: dev H D6 :: []) from (show St w1 w6 (jrn H jh6 J6 :: arr sb (stC 30 f) 67 neSt :: jrn H jh' J' :: dev H D6 :: []) from h6).sub (List.Sublist.cons_cons _ (List.Sublist.cons_cons _ (List.Sublist.cons _ (List.Sublist.refl _)))))
          have HR6 := Lib.hid hR6
          clear h6 hR6
          have HG7 := Lib.hid (show w6.heap[sb]? = some (.cells (stC 30 (f)) 67 (0, 0)) from H7.out.get (i := 1) rfl)
          have HIS := Lib.hid (S_isS H7.out 1 rfl HR6.out (by have := H40.out; omega))
          clear H7
          go_wp2_with (first | refine loadSt rfl _ rfl sb rfl (f) HG7.out ?_)
          refine HIS.out.mono ?_
          clear HIS HG7
          rintro e w8 ⟨rfl, h8⟩
          have H8 := Lib.hid (show St w1 w8 (jrn H jh6 J6 :: arr sb (stC 30 (f)) 67 neSt :: dev H D6 :: []) from h8)
          have H9 := Lib.hid H8.out.swap
          clear h8 H8
          go_wp2
          first | exact ⟨⟨i + 1, jh6, _, _, _, hlt, rfl, by go_num, H9.out, HR6⟩, by simp [intOf]; omega⟩ | (go_roundw; case rel => first | exact ⟨i + 1, jh6, _, _, _, hlt, rfl, by go_num, H9.out, HR6⟩ | ((repeat apply Exists.intro); exact ⟨⟨i + 1, jh6, _, _, _, hlt, rfl, by go_num, H9.out, HR6⟩, rfl⟩); case measure => simp [intOf]; omega)
        have hk3 : (p.1 == 3) = false := by simpa using hk3
        have H7 := Lib.hid HST.out.swap
        have HR6 := Lib.hid (HR.out.mono (Nat.le_succ i))
        clear HST HR
        have HG7 := Lib.hid (show wr.heap[sb]? = some (.cells (stC 30 (f)) 67 (0, 0)) from H7.out.get (i := 1) rfl)
        have HIS := Lib.hid (S_isS H7.out 1 rfl HR6.out (by have := H40.out; omega))
        clear H7
        go_wp2_with (first | refine loadSt rfl _ rfl sb rfl (f) HG7.out ?_)
        refine HIS.out.mono ?_
        clear HIS HG7
        rintro e w8 ⟨rfl, h8⟩
        have H8 := Lib.hid (show St w1 w8 (jrn H jh' J' :: arr sb (stC 30 (f)) 67 neSt :: dev H D' :: []) from h8)
        have H9 := Lib.hid H8.out.swap
        clear h8 H8
        go_wp2
        first | exact ⟨⟨i + 1, jh', _, _, _, hlt, rfl, by go_num, H9.out, HR6⟩, by simp [intOf]; omega⟩ | (go_roundw; case rel => first | exact ⟨i + 1, jh', _, _, _, hlt, rfl, by go_num, H9.out, HR6⟩ | ((repeat apply Exists.intro); exact ⟨⟨i + 1, jh', _, _, _, hlt, rfl, by go_num, H9.out, HR6⟩, rfl⟩); case measure => simp [intOf]; omega)
      · have hi1 : ¬ (i : Int) < (l.length : Int) := by omega
        have hF := Lib.hid HST.out
        go_wp2_with fail
        refine (awake4_any hF.out).mono ?_
        rintro e w5 ⟨rfl, h5⟩
        have HF5 := Lib.hid h5.base
        clear h5
        go_wp2
        go_ret
        exact ⟨rfl, HF5.out⟩
end Go.Proofs.Ytkanfpmmgaipnaa
