/-
  Steps that are committed: a region that loads a whole state, calls 'changes' and stores another; JournalSynced.
-/
import Derived.Test.YtkanfpmmgaipnaaJlwK
import Derived.Deep.MidRow
namespace Go.Proofs.Ytkanfpmmgaipnaa
set_option linter.unusedVariables false
open Go.ChangeMaps Go.MapKept Go.RowKit

/-- The cells of a state, as a list. -/
def stL (f : Nat → Int) : List Value := (List.range 30).map fun k => Value.int .i64 (f k)
theorem stL_length (f : Nat → Int) : (stL f).length = 30 := by simp [stL]
theorem stL_stC (f : Nat → Int) : (stL f).toArray = stC 30 f := rfl
theorem stL_info (f : Nat → Int) : (Try.prog.info? 67).map (·.size) = some (stL f).length := by rw [stL_length]; kernel_rfl
theorem stL_one (f : Nat → Int) : ∀ v ∈ stL f, v.oneCell' = true := fun v hv => by
  obtain ⟨k, _, rfl⟩ := List.mem_map.1 hv
  rfl

/-- Cells of an array, set one behind the other. -/
def setFrom (c : Array Value) : Nat → List Value → Array Value
  | _, [] => c
  | o, v :: r => setFrom (c.setIfInBounds o v) (o + 1) r

theorem St.setCells {w0 : World} {i b : Nat} {t : TypeId} {ht : ¬ U8T t} : ∀ (vs : List Value) (o : Nat) {w : World} {rs : List Res} {c : Array Value}, St w0 w rs → rs[i]? = some (arr b c t ht) → St w0 (w.setCells b o vs) (rs.set i (arr b (setFrom c o vs) t ht))
  | [], o, w, rs, c, h, hr => by
    have e1 : rs.set i (arr b c t ht) = rs := by
      obtain ⟨h1, h2⟩ := List.getElem?_eq_some_iff.1 hr
      rw [← h2]; exact List.set_getElem_self h1
    show St w0 w (rs.set i (arr b c t ht))
    rw [e1]; exact h
  | v :: r, o, w, rs, c, h, hr => by
    have h2 := h.setArr i hr o v
    have hi := (List.getElem?_eq_some_iff.1 hr).1
    have h3 := St.setCells r (o + 1) h2 (by rw [List.getElem?_set_self hi])
    rw [List.set_set] at h3
    exact h3

theorem setFrom_toList : ∀ (vs : List Value) (o : Nat) (c : Array Value), o + vs.length = c.size → (setFrom c o vs).toList = c.toList.take o ++ vs
  | [], o, c, h => by
    have : o = c.toList.length := by simpa using h
    unfold setFrom
    rw [this, List.take_length, List.append_nil]
  | v :: r, o, c, h => by
    unfold setFrom
    simp only [List.length_cons] at h
    rw [setFrom_toList r (o + 1) _ (by rw [Array.size_setIfInBounds]; omega), Array.toList_setIfInBounds]
    have hl : o < (c.toList.set o v).length := by rw [List.length_set, Array.length_toList]; omega
    rw [List.take_succ_eq_append_getElem hl, List.getElem_set_self, List.append_assoc]
    congr 1
    apply List.ext_getElem?
    intro j
    rw [List.getElem?_take, List.getElem?_take, List.getElem?_set]
    split
    · rw [if_neg (by omega)]
    · rfl

theorem setFrom_zero (f : Nat → Int) (c : Array Value) (hc : c.size = 30) : setFrom c 0 (stL f) = stC 30 f := by
  apply Array.ext'
  rw [setFrom_toList _ _ _ (by rw [stL_length, hc])]
  rfl

theorem St.rangeS {w0 : Gnd} {w : World} {rs : List Res} (h : St w0 w rs) (i : Nat) {b : Nat} {f : Nat → Int} {t : TypeId} {ht : ¬ U8T t} (hr : rs[i]? = some (arr b (stC 30 f) t ht)) : w.rangeAt b 0 (stL f) := fun j v hv => by
  have hj : j < 30 := by rw [← stL_length f]; exact (List.getElem?_eq_some_iff.1 hv).1
  rw [Nat.zero_add, h.arrCell (i := i) hr j, ← stL_stC, List.getElem?_toArray]
  exact hv

theorem St.thereS {w0 : Gnd} {w : World} {rs : List Res} (h : St w0 w rs) (i : Nat) {b : Nat} {c : Array Value} {t : TypeId} {ht : ¬ U8T t} (hr : rs[i]? = some (arr b c t ht)) (n : Nat) (hn : n ≤ c.size) : w.there b 0 n := fun j hj => by
  rw [Nat.zero_add]
  exact ⟨by rw [h.arrCell (i := i) hr j, Array.getElem?_eq_getElem (by omega)]; rfl, h.arrFree (i := i) hr j⟩

set_option maxHeartbeats 400000 in
set_option maxRecDepth 100000 in
theorem journalSynced_any (w : World) (v u : Value) (l : List (Int × List (Int × Int))) (picks : List Int) (hv : Steps w v l) (hok : ∀ p ∈ l, okI p.1 ∧ (∀ q ∈ p.2, okI q.1 ∧ okI q.2) ∧ p.2.length ≤ maxLen) (hl : l.length ≤ maxLen) (hvp : Elems w u (picks.map IntK)) (hpk : ∀ p ∈ picks, okI p) :
    Calls Try.prog 21 #[v, u] w fun e w' => e = .returned (.bool true) ∧ Frm NoB w w' := by
  have HS := Lib.hid (small_any w v l hv hl)
  obtain ⟨a, cap, rfl, hcell⟩ := hv
  obtain ⟨b, cap2, rfl, hcell2⟩ := hvp
  rw [List.length_map]
  have HC := Lib.hid hcell
  have HP := Lib.hid hcell2
  have HOK := Lib.hid hok
  have HPK := Lib.hid hpk
  have hl2 : ((l.length : Nat) : Int) ≤ 9223372036854775807 := by unfold maxLen at hl; omega
  have hl3 : (0 : Int) ≤ ((l.length : Nat) : Int) := Int.natCast_nonneg _
  clear hcell hcell2 hok hpk hl
  go_enter Try.func21, Try.ntmps21
  go_wp2_with fail
  refine HS.out.mono ?_
  clear HS
  rintro e w1 ⟨rfl, bs, rfl, hbs⟩
  by_cases hg : bs = false ∨ (300 : Int) < ((picks.length : Nat) : Int)
  · have hF : Hid (St w1 w1 []) := Lib.hid (St.start w1)
    clear hbs
    cases bs with
    | false =>
      clear hg
      go_wp2_with fail
      refine (awake4_any hF.out).mono ?_
      rintro e w5 ⟨rfl, h5⟩
      have HF5 := Lib.hid h5.base
      clear h5
      go_wp2
      go_ret
      exact ⟨rfl, HF5.out⟩
    | true =>
      have hg : (300 : Int) < ((picks.length : Nat) : Int) := by simpa using hg
      go_wp2_with fail
      refine (awake4_any hF.out).mono ?_
      rintro e w5 ⟨rfl, h5⟩
      have HF5 := Lib.hid h5.base
      clear h5
      go_wp2
      go_ret
      exact ⟨rfl, HF5.out⟩
  obtain rfl : bs = true := by cases bs with | true => rfl | false => exact absurd (.inl rfl) hg
  have h300 : ¬ (300 : Int) < ((picks.length : Nat) : Int) := fun h => hg (.inr h)
  have H40 := Lib.hid (hbs rfl)
  have HF := Lib.hid (S_fresh (St.start w1))
  clear hg hbs
  go_wp2_with fail
  refine HF.out.mono ?_
  clear HF
  rintro e w2 ⟨H, jh, J, D, rfl, h1, hl1, hlim1, hops1⟩
  have HR1 := Lib.hid (LRel.start hl1 hlim1 hops1)
  have H1 := Lib.hid h1
  clear h1 hl1 hlim1 hops1
  go_upto_region 7 with (fail)
  have H2 := Lib.hid (H1.out.newArr #[.int .i64 0, .int .i64 0, .int .i64 0, .int .i64 0, .int .i64 0, .int .i64 0, .int .i64 0, .int .i64 0, .int .i64 0, .int .i64 0, .int .i64 0, .int .i64 0, .int .i64 0, .int .i64 0, .int .i64 0, .int .i64 0, .int .i64 0, .int .i64 0, .int .i64 0, .int .i64 0, .int .i64 0, .int .i64 0, .int .i64 0, .int .i64 0, .int .i64 0, .int .i64 0, .int .i64 0, .int .i64 0, .int .i64 0, .int .i64 0] 67 neSt)
  obtain ⟨w3, hw3⟩ : ∃ w3, w3 = w2.alloc (.cells #[.int .i64 0, .int .i64 0, .int .i64 0, .int .i64 0, .int .i64 0, .int .i64 0, .int .i64 0, .int .i64 0, .int .i64 0, .int .i64 0, .int .i64 0, .int .i64 0, .int .i64 0, .int .i64 0, .int .i64 0, .int .i64 0, .int .i64 0, .int .i64 0, .int .i64 0, .int .i64 0, .int .i64 0, .int .i64 0, .int .i64 0, .int .i64 0, .int .i64 0, .int .i64 0, .int .i64 0, .int .i64 0, .int .i64 0, .int .i64 0] 67 (0, 0)) := ⟨_, rfl⟩
  rw [← hw3] at H2 ⊢
  rw [show (#[.int .i64 0, .int .i64 0, .int .i64 0, .int .i64 0, .int .i64 0, .int .i64 0, .int .i64 0, .int .i64 0, .int .i64 0, .int .i64 0, .int .i64 0, .int .i64 0, .int .i64 0, .int .i64 0, .int .i64 0, .int .i64 0, .int .i64 0, .int .i64 0, .int .i64 0, .int .i64 0, .int .i64 0, .int .i64 0, .int .i64 0, .int .i64 0, .int .i64 0, .int .i64 0, .int .i64 0, .int .i64 0, .int .i64 0, .int .i64 0] : Array Value) = stC 30 zeroS from rfl] at H2
  clear hw3 H1
  generalize w2.heap.size = sb at *
  have H2 := Lib.hid (show St w1 w3 (arr sb (stC 30 zeroS) 67 neSt :: jrn H jh J :: dev H D :: []) from H2.out)
  go_wp2_with fail
  go_loopw [9] (fun t9 wr => ∃ (i : Nat) (jh' : JHdl) (J' : JSt) (D' : DSt) (f : Nat → Int), i ≤ l.length ∧ t9 = .int .i64 i ∧ Hid (jh'.jb = jh.jb) ∧ St w1 wr (arr sb (stC 30 f) 67 neSt :: jrn H jh' J' :: dev H D' :: []) ∧ Hid (LRel i J' D' f)) (fun t _ => l.length - (intOf t).toNat)
  case atStart => exact ⟨0, jh, J, D, zeroS, Nat.zero_le _, rfl, Lib.hid rfl, H2.out, HR1⟩
  case round =>
    clear H2 HR1
    obtain ⟨i, jh', J', D', f, hi, rfl, HJB, hst, HR⟩ := hrel
    have HST := Lib.hid hst
    clear hst
    by_cases hlt : i < l.length
    · have hi0 : (0 : Int) ≤ (i : Int) := Int.natCast_nonneg _
      have hi1 : (i : Int) < (l.length : Int) := by omega
      obtain ⟨p, hp⟩ : ∃ p, l[i]? = some p := ⟨_, List.getElem?_eq_getElem hlt⟩
      obtain ⟨gb, go, x, rfl, hgb, _, c2, hpx⟩ := HC.out i p hp
      have HPX := Lib.hid hpx
      have HGB := Lib.hid hgb
      have HC2 := Lib.hid c2
      have HOP := Lib.hid (HOK.out p (List.mem_of_getElem? hp))
      have HOL : Hid (((p.2.length : Nat) : Int) ≤ 9223372036854775807) := Lib.hid (by have := HOP.out.2.2; unfold maxLen at this; omega)
      obtain ⟨R, hR⟩ : ∃ R, chTo p.2 f p.2.length = R := ⟨_, rfl⟩
      have HRK : Hid (ChOk 275 f R) := Lib.hid (hR ▸ chTo_ok 275 p.2 f p.2.length)
      have HCH : Hid (∀ W pre, St w1 W (pre ++ arr sb (stC 30 f) 67 neSt :: jrn H jh' J' :: dev H D' :: []) → Calls Try.prog 53 #[x, .agg (stL f).toArray] W fun e w' => ∃ v vs, e = .returned (.tuple #[v, .agg (stL R.2.2).toArray]) ∧ St w1 w' (chgs v ((chK R).map fun k : Nat => (k : Int)) vs (chD R) :: (pre ++ arr sb (stC 30 f) 67 neSt :: jrn H jh' J' :: dev H D' :: []))) := Lib.hid (fun W pre hW => by
        have := S_changes hW x p.2 f (fun y _ hy => HPX.out.frm hy.base) HOP.out.2.1 HOL.out
        rw [hR] at this
        exact this)
      have hU : Try.prog.underlying 67 = some (.array 30 3) := Try.underlying67
      have hI1 := stL_info f
      have hI2 := stL_info R.2.2
      have hN2 := stL_length R.2.2
      have hN1 := stL_length f
      have hO2 := stL_one R.2.2
      have KA : Hid (∀ y, Frm NoB wr y → y.cell? ⟨gb, go + i * 2 + 1, none⟩ = some x ∧ y.rangeAt sb 0 (stL f)) := Lib.hid fun y hy =>
        ⟨((HST.out.frm0 hy).base.cell hgb (fun e => e)).trans c2, (HST.out.frm0 hy).rangeS 0 rfl⟩
      have KC : Hid (∀ y rs', St w1 y rs' → y.cell? ⟨gb, go + i * 2 + 1, none⟩ = some x) := Lib.hid fun y _ hy => (hy.base.cell HGB.out (fun e => e)).trans HC2.out
      have KD : Hid (∀ y a1 a2, St w1 y (a1 :: a2 :: arr sb (stC 30 f) 67 neSt :: jrn H jh' J' :: dev H D' :: []) → y.cell? ⟨gb, go + i * 2 + 1, none⟩ = some x ∧ y.rangeAt sb 0 (stL f)) := Lib.hid fun y a1 a2 hy => ⟨KC.out _ _ hy, hy.rangeS 2 rfl⟩
      have KE : Hid (∀ tb rs', ∀ {y : World}, St w1 y (arr tb #[.int .i64 0, .int .i64 0, .int .i64 0, .int .i64 0, .int .i64 0, .int .i64 0, .int .i64 0, .int .i64 0, .int .i64 0, .int .i64 0, .int .i64 0, .int .i64 0, .int .i64 0, .int .i64 0, .int .i64 0, .int .i64 0, .int .i64 0, .int .i64 0, .int .i64 0, .int .i64 0, .int .i64 0, .int .i64 0, .int .i64 0, .int .i64 0, .int .i64 0, .int .i64 0, .int .i64 0, .int .i64 0, .int .i64 0, .int .i64 0] 67 neSt :: rs') → St w1 (y.setCells tb 0 (stL R.2.2)) (arr tb (stC 30 R.2.2) 67 neSt :: rs')) := Lib.hid fun tb rs' y hy => by
        have := hy.setCells (i := 0) (stL R.2.2) 0 rfl
        rw [setFrom_zero R.2.2 _ rfl] at this
        exact this
      have HC0 : Hid (Calls Try.prog 53 #[x, .agg (stL f).toArray] wr.drew fun e w' => ∃ v vs, e = .returned (.tuple #[v, .agg (stL R.2.2).toArray]) ∧ St w1 w' (chgs v ((chK R).map fun k : Nat => (k : Int)) vs (chD R) :: arr sb (stC 30 f) 67 neSt :: jrn H jh' J' :: dev H D' :: [])) := Lib.hid (HCH.out wr.drew [] (HST.out.frm0 ((Frm.refl NoB wr).drew)))
      have HC1 : Hid (Calls Try.prog 53 #[x, .agg (stL f).toArray] (wr.drew.alloc (.cells #[.int .i64 0, .int .i64 0, .int .i64 0, .int .i64 0, .int .i64 0, .int .i64 0, .int .i64 0, .int .i64 0, .int .i64 0, .int .i64 0, .int .i64 0, .int .i64 0, .int .i64 0, .int .i64 0, .int .i64 0, .int .i64 0, .int .i64 0, .int .i64 0, .int .i64 0, .int .i64 0, .int .i64 0, .int .i64 0, .int .i64 0, .int .i64 0, .int .i64 0, .int .i64 0, .int .i64 0, .int .i64 0, .int .i64 0, .int .i64 0] 67 (0, 0))) fun e w' => ∃ v vs, e = .returned (.tuple #[v, .agg (stL R.2.2).toArray]) ∧ St w1 w' (chgs v ((chK R).map fun k : Nat => (k : Int)) vs (chD R) :: arr wr.heap.size #[.int .i64 0, .int .i64 0, .int .i64 0, .int .i64 0, .int .i64 0, .int .i64 0, .int .i64 0, .int .i64 0, .int .i64 0, .int .i64 0, .int .i64 0, .int .i64 0, .int .i64 0, .int .i64 0, .int .i64 0, .int .i64 0, .int .i64 0, .int .i64 0, .int .i64 0, .int .i64 0, .int .i64 0, .int .i64 0, .int .i64 0, .int .i64 0, .int .i64 0, .int .i64 0, .int .i64 0, .int .i64 0, .int .i64 0, .int .i64 0] 67 neSt :: arr sb (stC 30 f) 67 neSt :: jrn H jh' J' :: dev H D' :: [])) := Lib.hid (HCH.out _ [arr _ #[.int .i64 0, .int .i64 0, .int .i64 0, .int .i64 0, .int .i64 0, .int .i64 0, .int .i64 0, .int .i64 0, .int .i64 0, .int .i64 0, .int .i64 0, .int .i64 0, .int .i64 0, .int .i64 0, .int .i64 0, .int .i64 0, .int .i64 0, .int .i64 0, .int .i64 0, .int .i64 0, .int .i64 0, .int .i64 0, .int .i64 0, .int .i64 0, .int .i64 0, .int .i64 0, .int .i64 0, .int .i64 0, .int .i64 0, .int .i64 0] 67 neSt] ((HST.out.frm0 ((Frm.refl NoB wr).drew)).newArr #[.int .i64 0, .int .i64 0, .int .i64 0, .int .i64 0, .int .i64 0, .int .i64 0, .int .i64 0, .int .i64 0, .int .i64 0, .int .i64 0, .int .i64 0, .int .i64 0, .int .i64 0, .int .i64 0, .int .i64 0, .int .i64 0, .int .i64 0, .int .i64 0, .int .i64 0, .int .i64 0, .int .i64 0, .int .i64 0, .int .i64 0, .int .i64 0, .int .i64 0, .int .i64 0, .int .i64 0, .int .i64 0, .int .i64 0, .int .i64 0] 67 neSt))
      have HC3 : Hid (Calls Try.prog 53 #[x, .agg (stL f).toArray] ((wr.alloc (.cells #[.int .i64 0, .int .i64 0, .int .i64 0, .int .i64 0, .int .i64 0, .int .i64 0, .int .i64 0, .int .i64 0, .int .i64 0, .int .i64 0, .int .i64 0, .int .i64 0, .int .i64 0, .int .i64 0, .int .i64 0, .int .i64 0, .int .i64 0, .int .i64 0, .int .i64 0, .int .i64 0, .int .i64 0, .int .i64 0, .int .i64 0, .int .i64 0, .int .i64 0, .int .i64 0, .int .i64 0, .int .i64 0, .int .i64 0, .int .i64 0] 67 (0, 0))).drew) fun e w' => ∃ v vs, e = .returned (.tuple #[v, .agg (stL R.2.2).toArray]) ∧ St w1 w' (chgs v ((chK R).map fun k : Nat => (k : Int)) vs (chD R) :: arr wr.heap.size #[.int .i64 0, .int .i64 0, .int .i64 0, .int .i64 0, .int .i64 0, .int .i64 0, .int .i64 0, .int .i64 0, .int .i64 0, .int .i64 0, .int .i64 0, .int .i64 0, .int .i64 0, .int .i64 0, .int .i64 0, .int .i64 0, .int .i64 0, .int .i64 0, .int .i64 0, .int .i64 0, .int .i64 0, .int .i64 0, .int .i64 0, .int .i64 0, .int .i64 0, .int .i64 0, .int .i64 0, .int .i64 0, .int .i64 0, .int .i64 0] 67 neSt :: arr sb (stC 30 f) 67 neSt :: jrn H jh' J' :: dev H D' :: [])) := Lib.hid (HCH.out _ [arr _ #[.int .i64 0, .int .i64 0, .int .i64 0, .int .i64 0, .int .i64 0, .int .i64 0, .int .i64 0, .int .i64 0, .int .i64 0, .int .i64 0, .int .i64 0, .int .i64 0, .int .i64 0, .int .i64 0, .int .i64 0, .int .i64 0, .int .i64 0, .int .i64 0, .int .i64 0, .int .i64 0, .int .i64 0, .int .i64 0, .int .i64 0, .int .i64 0, .int .i64 0, .int .i64 0, .int .i64 0, .int .i64 0, .int .i64 0, .int .i64 0] 67 neSt] ((HST.out.newArr #[.int .i64 0, .int .i64 0, .int .i64 0, .int .i64 0, .int .i64 0, .int .i64 0, .int .i64 0, .int .i64 0, .int .i64 0, .int .i64 0, .int .i64 0, .int .i64 0, .int .i64 0, .int .i64 0, .int .i64 0, .int .i64 0, .int .i64 0, .int .i64 0, .int .i64 0, .int .i64 0, .int .i64 0, .int .i64 0, .int .i64 0, .int .i64 0, .int .i64 0, .int .i64 0, .int .i64 0, .int .i64 0, .int .i64 0, .int .i64 0] 67 neSt).frm0 ((Frm.refl NoB _).drew)))
      obtain ⟨k1, k2⟩ := KA.out wr (Frm.refl _ _)
      clear hp hpx hR c2
      go_upto_region 10 with (fail)
      go_cut [10, 11] from 40 to 49 (fun t10 t11 wx => ∃ tb vs, t11 = .pointer (some ⟨tb, 0, none⟩) ∧ St w1 wx (arr tb (stC 30 R.2.2) 67 neSt :: chgs t10 ((chK R).map fun k : Nat => (k : Int)) vs (chD R) :: arr sb (stC 30 f) 67 neSt :: jrn H jh' J' :: dev H D' :: []))
      case first =>
        go_region_held3 (fun y => y.cell? ⟨gb, go + i * 2 + 1, none⟩ = some x ∧ y.rangeAt sb 0 (stL f))
          (first | with_reducible exact hS5 | with_reducible exact hS6.out | with_reducible exact hS7.out | (refine KA.out _ ?_; first | with_reducible assumption | with_reducible exact (Frm.refl NoB wr).drew | with_reducible exact ((Frm.refl NoB wr).drew).alloc _ | with_reducible exact ((Frm.refl NoB wr).alloc _).drew | with_reducible exact (Frm.refl NoB wr).alloc _ ))
          (first
            | (go_at_call 53; with_reducible refine HC0.out.mono ?_; rintro e w4 ⟨v4, vs, rfl, h4⟩; have hS5 : w4.cell? ⟨gb, go + i * 2 + 1, none⟩ = some x ∧ w4.rangeAt sb 0 (stL f) := ⟨KC.out w4 _ h4, h4.rangeS 1 rfl⟩; have h5 := h4.newArr #[.int .i64 0, .int .i64 0, .int .i64 0, .int .i64 0, .int .i64 0, .int .i64 0, .int .i64 0, .int .i64 0, .int .i64 0, .int .i64 0, .int .i64 0, .int .i64 0, .int .i64 0, .int .i64 0, .int .i64 0, .int .i64 0, .int .i64 0, .int .i64 0, .int .i64 0, .int .i64 0, .int .i64 0, .int .i64 0, .int .i64 0, .int .i64 0, .int .i64 0, .int .i64 0, .int .i64 0, .int .i64 0, .int .i64 0, .int .i64 0] 67 neSt; have hT := h5.thereS 0 rfl 30 (by decide); have h6 := Lib.hid (KE.out w4.heap.size _ h5); have hS6 : Hid ((w4.alloc (.cells #[.int .i64 0, .int .i64 0, .int .i64 0, .int .i64 0, .int .i64 0, .int .i64 0, .int .i64 0, .int .i64 0, .int .i64 0, .int .i64 0, .int .i64 0, .int .i64 0, .int .i64 0, .int .i64 0, .int .i64 0, .int .i64 0, .int .i64 0, .int .i64 0, .int .i64 0, .int .i64 0, .int .i64 0, .int .i64 0, .int .i64 0, .int .i64 0, .int .i64 0, .int .i64 0, .int .i64 0, .int .i64 0, .int .i64 0, .int .i64 0] 67 (0, 0))).cell? ⟨gb, go + i * 2 + 1, none⟩ = some x ∧ (w4.alloc (.cells #[.int .i64 0, .int .i64 0, .int .i64 0, .int .i64 0, .int .i64 0, .int .i64 0, .int .i64 0, .int .i64 0, .int .i64 0, .int .i64 0, .int .i64 0, .int .i64 0, .int .i64 0, .int .i64 0, .int .i64 0, .int .i64 0, .int .i64 0, .int .i64 0, .int .i64 0, .int .i64 0, .int .i64 0, .int .i64 0, .int .i64 0, .int .i64 0, .int .i64 0, .int .i64 0, .int .i64 0, .int .i64 0, .int .i64 0, .int .i64 0] 67 (0, 0))).rangeAt sb 0 (stL f)) := Lib.hid ⟨KC.out _ _ h5, h5.rangeS 2 rfl⟩; have hS7 := Lib.hid (KD.out _ _ _ h6.out))
            | (go_at_call 53; first | with_reducible refine HC1.out.mono ?_ | with_reducible refine HC3.out.mono ?_; rintro e w4 ⟨v4, vs, rfl, h4⟩; have hS5 : w4.cell? ⟨gb, go + i * 2 + 1, none⟩ = some x ∧ w4.rangeAt sb 0 (stL f) := ⟨KC.out w4 _ h4, h4.rangeS 2 rfl⟩; have hT := h4.thereS 1 rfl 30 (by decide); have h6 := Lib.hid (KE.out _ _ h4.swap); have hS7 := Lib.hid (KD.out _ _ _ h6.out)))
        all_goals
          go_wp2_with fail
          go_meet
          first | exact ⟨_, _, rfl, h6.out⟩ | (case rel => exact ⟨_, _, rfl, h6.out⟩)
      case rest =>
        obtain ⟨tb, vs, rfl, hst⟩ := hcut
        have H5 := Lib.hid (show St w1 wc (jrn H jh' J' :: arr tb (stC 30 R.2.2) 67 neSt :: chgs u10 ((chK R).map fun k : Nat => (k : Int)) vs (chD R) :: arr sb (stC 30 f) 67 neSt :: dev H D' :: []) from hst.perm ((List.perm_append_comm (l₁ := [_, _, _]) (l₂ := [_])).append_right [_]))
        have HCM := Lib.hid (S_CommitS H5.out 3 1 rfl rfl HRK.out HR.out (by have := H40.out; omega) (by omega))
        rw [HJB.out] at HCM
        clear hst KA KC KD KE HC0 HC1 HC3 HCH hU hI1 hI2 hN1 hN2 hO2 k1 k2
        go_wp2_with fail
        refine HCM.out.mono ?_
        clear HCM
        rintro e w6 ⟨jh6, J6, D6, hjb, rfl, h6, hR6⟩
        have H6 := Lib.hid (show St w1 w6 (jrn H jh6 J6 :: arr tb (stC 30 R.2.2) 67 neSt :: chgs u10 ((chK R).map fun k : Nat => (k : Int)) vs (chD R) :: arr sb (stC 30 f) 67 neSt :: dev H D6 :: []) from h6)
        have HR6 := Lib.hid hR6
        have HJ6 : Hid (jh6.jb = jh.jb) := Lib.hid hjb
        have HG6 := Lib.hid (show w6.heap[tb]? = some (.cells (stC 30 R.2.2) 67 (0, 0)) from H6.out.get (i := 1) rfl)
        have HS6 := Lib.hid (show w6.heap[sb]? = some (.cells (stC 30 f) 67 (0, 0)) from H6.out.get (i := 3) rfl)
        have h7 := H6.out.setRow 3 rfl (stC 30 R.2.2)
        have H7 := Lib.hid (show St w1 _ (jrn H jh6 J6 :: arr tb (stC 30 R.2.2) 67 neSt :: chgs u10 ((chK R).map fun k : Nat => (k : Int)) vs (chD R) :: arr sb (stC 30 R.2.2) 67 neSt :: dev H D6 :: []) from h7)
        have H7 := Lib.hid (H7.out.drop2nd.drop2nd.swap)
        clear h6 hR6 h7 hjb H5 H6
        go_wp2_with (first | refine loadSt rfl _ rfl tb rfl R.2.2 HG6.out ?_ | refine storeSt rfl _ _ rfl sb R.2.2 rfl rfl (stC 30 f) (stC_size _ _) HS6.out ?_)
        first | exact ⟨⟨i + 1, jh6, _, _, _, hlt, by go_num, HJ6, H7.out, HR6⟩, by simp [intOf]; omega⟩ | (go_roundw; case rel => first | exact ⟨i + 1, jh6, _, _, _, hlt, by go_num, HJ6, H7.out, HR6⟩ | ((repeat apply Exists.intro); exact ⟨⟨i + 1, jh6, _, _, _, hlt, by go_num, HJ6, H7.out, HR6⟩, rfl⟩); case measure => simp [intOf]; omega)
    · have hi1 : ¬ (i : Int) < (l.length : Int) := by omega
      have HI : Hid (i ≤ 40) := Lib.hid (by have := H40.out; omega)
      have HSY := Lib.hid (S_SyncS HST.out.swap 1 rfl HR.out (by have := HI.out; omega))
      rw [HJB.out] at HSY
      clear HST HR
      go_wp2_with fail
      refine HSY.out.mono ?_
      clear HSY
      rintro e w4 ⟨jh4, J4, D4, hjb, rfl, h4, hR4, hb4⟩
      have H4 := Lib.hid (show St w1 w4 (jrn H jh4 J4 :: arr sb (stC 30 f) 67 neSt :: dev H D4 :: []) from h4)
      have HR4 := Lib.hid hR4
      have HV : Hid (∀ k, k < 30 → (D4.crash picks).last (245 + k) = blockOf (f k)) := Lib.hid fun k hk => by
        obtain ⟨s, hl4, _⟩ := hR4
        exact (crash_clean D4 picks _ (hl4.clean _)).trans (hb4 k hk)
      have HN : Hid ((D4.crash picks).n = 275) := Lib.hid (by obtain ⟨s, hl4, _⟩ := hR4; exact hl4.dn)
      clear h4 hR4 hb4 hjb
      have HE : Hid (Elems w4 (.slice b picks.length cap2) (picks.map IntK)) := Lib.hid ((show Elems w1 (.slice b picks.length cap2) (picks.map IntK) from ⟨b, cap2, by rw [List.length_map], HP.out⟩).frm H4.out.base)
      have HCR := Lib.hid (S_Crash H4.out 2 rfl (by have := HR4.out.opsLe; have := HI.out; omega) _ picks HE.out HPK.out (by omega))
      clear HE
      go_wp2_with fail
      refine HCR.out.mono ?_
      clear HCR H4
      rintro e w5 ⟨H5, rfl, h5⟩
      have HX := Lib.hid (show St w1 w5 (dev H5 (D4.crash picks) :: jrn H jh4 J4 :: arr sb (stC 30 f) 67 neSt :: dev H D4 :: []) from h5)
      clear h5
      go_wp2_with fail
      go_loopw [13, 14, 15] (fun t _ _ wr => ∃ k : Nat, k ≤ 30 ∧ t = .int .i64 k ∧ St w1 wr (dev H5 (D4.crash picks) :: jrn H jh4 J4 :: arr sb (stC 30 f) 67 neSt :: dev H D4 :: [])) (fun t _ _ _ => 30 - (intOf t).toNat)
      case atStart => exact ⟨0, Nat.zero_le _, rfl, HX.out⟩
      case round =>
        clear HX
        obtain ⟨k, hk, rfl, hst⟩ := hrel
        have HST := Lib.hid hst
        clear hst
        by_cases hkt : k < 30
        · have hk0 : (0 : Int) ≤ (k : Int) := Int.natCast_nonneg _
          have hk1 : (k : Int) < 30 := by omega
          have HRD := Lib.hid (S_Read HST.out 0 rfl (245 + (k : Int)) (by omega) (by rw [HN.out]; omega) (by have h0 : (D4.crash picks).ops = 0 := rfl; omega))
          rw [show (245 + (k : Int)).toNat = 245 + k from by omega, HV.out k hkt] at HRD
          go_wp2_with fail
          refine HRD.out.mono ?_
          clear HRD
          rintro e w6 ⟨v6, rfl, h6⟩
          have H6 := Lib.hid h6
          have c1 : w6.cell? ⟨sb, k, none⟩ = some (.int .i64 (f k)) := (h6.arrCell (i := 3) rfl k).trans (stC_get 30 f k hkt)
          clear h6 HST
          go_wp2_with fail
          clear c1
          refine (S_Block H6.out (f k)).mono ?_
          rintro e w7 ⟨u7, rfl, h7⟩
          have H7 := Lib.hid h7
          clear h7 H6
          go_wp2_with fail
          refine (S_Bytes H7.out 1 0 rfl rfl (by rw [blockOf_length]; omega)).mono ?_
          rintro e w8 ⟨rfl, h8⟩
          rw [show (blockOf (f k) == blockOf (f k)) = true from beq_self_eq_true _]
          have H8 := Lib.hid (h8.drop 2)
          clear h8 H7
          go_wp2
          first | exact ⟨⟨k + 1, hkt, by go_num, H8.out⟩, by simp [intOf]; omega⟩ | (go_roundw; case rel => first | exact ⟨k + 1, hkt, by go_num, H8.out⟩ | ((repeat apply Exists.intro); exact ⟨⟨k + 1, hkt, by go_num, H8.out⟩, rfl⟩); case measure => simp [intOf]; omega)
        · have hk1 : ¬ (k : Int) < 30 := by omega
          have HOP := Lib.hid (S_openedS HR4.out (by have := HI.out; omega) picks HST.out)
          clear HST HR4
          go_wp2_with fail
          refine HOP.out.mono ?_
          clear HOP
          rintro e w9 ⟨H9, jh9, J9, D9, rfl, h9, hR9⟩
          have HX9 := Lib.hid h9
          have HG9 := Lib.hid (show w9.heap[sb]? = some (.cells (stC 30 f) 67 (0, 0)) from HX9.out.get (i := 4) rfl)
          have HIS := Lib.hid (S_isS HX9.out 0 rfl hR9 (by have := HI.out; omega))
          clear h9 hR9
          go_wp2_with (refine loadSt rfl _ rfl sb rfl f HG9.out ?_)
          refine HIS.out.mono ?_
          clear HIS HX9 HG9
          rintro e w10 ⟨rfl, h10⟩
          have H10 := Lib.hid h10
          clear h10
          go_wp2_with fail
          refine (awake4_any H10.out).mono ?_
          rintro e w11 ⟨rfl, h11⟩
          have HF11 := Lib.hid h11.base
          clear h11
          go_wp2
          go_ret
          exact ⟨rfl, HF11.out⟩
end Go.Proofs.Ytkanfpmmgaipnaa
