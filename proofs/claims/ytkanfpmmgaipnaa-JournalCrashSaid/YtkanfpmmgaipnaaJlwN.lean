/-
  JournalCrash.
-/
import Derived.Test.YtkanfpmmgaipnaaJlwJ
import Derived.Test.YtkanfpmmgaipnaaJlwL
namespace Go.Proofs.Ytkanfpmmgaipnaa
set_option linter.unusedVariables false
open Go.ChangeMaps Go.MapKept Go.RowKit

theorem CRel.mono {i j : Nat} {J : JSt} {D : DSt} {f : Nat → Int} (h : CRel i J D f) (hij : i ≤ j) : CRel j J D f := by
  obtain ⟨s, hl, hops, hto⟩ := h
  exact ⟨s, hl.mono hij, by omega, hto⟩

/-- A Sync over a device that may be cut. -/
theorem S_SyncK {w0 w : World} {rs : List Res} {H : Hdl} {jh : JHdl} {J : JSt} (h : St w0 w (jrn H jh J :: rs)) (a : Nat) {D : DSt} (hr : rs[a]? = some (dev H D)) {i : Nat} {f : Nat → Int} (hL : CRel i J D f) (hi : i ≤ 1000) :
    Calls Try.prog 54 #[.pointer (some ⟨jh.jb, 0, none⟩)] w fun e w' => ∃ jh' J' D', jh'.jb = jh.jb ∧ St w0 w' (jrn H jh' J' :: rs.set a (dev H D')) ∧ ((e = .returned (.int .i64 0) ∧ CRel (i + 1) J' D' f) ∨ (e = .returned (.int .i64 9) ∧ Left2 (i + 1) D' f f)) := by
  obtain ⟨s, hl1, hops, hto⟩ := hL
  refine (S_SyncC h a hr hl1 (by omega) (by omega) (by omega) (by omega) (by omega)).mono ?_
  rintro e w' ⟨jh', J', D', hjb, hst, hA, hC⟩
  have hao := hA.ops
  refine ⟨jh', J', D', hjb, hst, ?_⟩
  rcases hC with ⟨he, hL'⟩ | ⟨he, _⟩
  · exact .inl ⟨he, _, hL', by omega, hto⟩
  · refine .inr ⟨he, hA.wf, hA.dn, by omega, hA.safe.mono fun C hC => ?_⟩
    rcases hC with hC | hC
    · exact ⟨_, hC, .inl hto⟩
    · exact ⟨_, hC, .inl hto⟩

/-- A crash of what is left, and opening, cut and crashing within that. -/
theorem S_openedC {w0 w : World} {rs : List Res} {H' : Hdl} {D : DSt} {m : Nat} {f g : Nat → Int} (hL : Left2 m D f g) (hm : m ≤ 1000) (picks cuts : List Int) (h : St w0 w (dev H' (D.crash picks) :: rs)) (vc vp : Value) (hvc : Elems w0 vc (cuts.map IntK)) (hvp : Elems w0 vp (picks.map IntK)) (hck : ∀ c ∈ cuts, okI c) (hpk : ∀ p ∈ picks, okI p) (hpl : picks.length < 4611686018427387904) :
    Calls Try.prog 55 #[.pointer (some ⟨H'.b, 0, none⟩), vc, vp] w fun e w' => ∃ H2 jh J2 D2 s, e = .returned (.tuple #[.pointer (some ⟨H2.b, 0, none⟩), .pointer (some ⟨jh.jb, 0, none⟩), .bool true]) ∧ St w0 w' (jrn H2 jh J2 :: dev H2 D2 :: voidR :: rs) ∧ Live 275 1 m J2 D2 s ∧ D2.lim = none ∧ D2.ops ≤ 61 ∧ (isTo s f 30 = true ∨ isTo s g 30 = true) := by
  obtain ⟨hw, hn, hops, hs⟩ := hL
  obtain ⟨s, hT, hto⟩ := hs _ (img_crash D picks)
  refine (S_opened h 0 rfl (DSt.crash_wf hw picks) hn (fun _ => rfl) hT (by omega) (by omega) (by omega) (show (0 : Nat) < 900000000 by omega) rfl _ _ cuts picks hvc hvp hck hpk hpl).mono ?_
  rintro e w' ⟨H2, jh, J2, D2, he, hst, hl2, hlim2, hops2⟩
  have h0 : (D.crash picks).ops = 0 := rfl
  exact ⟨H2, jh, J2, D2, s, he, hst, hl2, hlim2, by omega, hto⟩

set_option maxHeartbeats 1000000 in
set_option maxRecDepth 100000 in
theorem journalCrash_any (w : World) (v : Value) (cut : Int) (u uc : Value) (l : List (Int × List (Int × Int))) (picks cuts : List Int) (hv : Steps w v l) (hok : ∀ p ∈ l, okI p.1 ∧ (∀ q ∈ p.2, okI q.1 ∧ okI q.2) ∧ p.2.length ≤ maxLen) (hl : l.length ≤ maxLen) (hvp : Elems w u (picks.map IntK)) (hpk : ∀ p ∈ picks, okI p) (hvc : Elems w uc (cuts.map IntK)) (hck : ∀ p ∈ cuts, okI p) :
    Calls Try.prog 19 #[v, .int .i64 cut, u, uc] w fun e w' => e = .returned (.bool true) ∧ Frm NoB w w' := by
  have HS := Lib.hid (small_any w v l hv hl)
  obtain ⟨a, cap, rfl, hcell⟩ := hv
  obtain ⟨b, cap2, rfl, hcell2⟩ := hvp
  obtain ⟨bc, cap3, rfl, hcell3⟩ := hvc
  rw [List.length_map, List.length_map]
  have HC := Lib.hid hcell
  have HP := Lib.hid hcell2
  have HCU := Lib.hid hcell3
  have HOK := Lib.hid hok
  have HPK := Lib.hid hpk
  have HCK := Lib.hid hck
  have hl2 : ((l.length : Nat) : Int) ≤ 9223372036854775807 := by unfold maxLen at hl; omega
  have hl3 : (0 : Int) ≤ ((l.length : Nat) : Int) := Int.natCast_nonneg _
  clear hcell hcell2 hcell3 hok hpk hck hl
  go_enter Try.func19, Try.ntmps19
  go_wp2_with fail
  refine HS.out.mono ?_
  clear HS
  rintro e w1 ⟨rfl, bs, rfl, hbs⟩
  by_cases hg : bs = false ∨ (300 : Int) < ((picks.length : Nat) : Int) ∨ cut < 0 ∨ 5000 < cut
  · have hF : Hid (St w1 w1 []) := Lib.hid (St.start w1)
    clear hbs
    cases bs with
    | false =>
      clear hg
      go_wp2_with fail
      refine (awake4_any hF.out).mono ?_
      rintro e w5 ⟨rfl, h5⟩
      have HF5 := Lib.hid h5.base
      clear h5
      go_wp2
      go_ret
      exact ⟨rfl, HF5.out⟩
    | true =>
      have hg : (300 : Int) < ((picks.length : Nat) : Int) ∨ cut < 0 ∨ 5000 < cut := by simpa using hg
      by_cases h0 : (300 : Int) < ((picks.length : Nat) : Int)
      · clear hg
        go_wp2_with fail
        refine (awake4_any hF.out).mono ?_
        rintro e w5 ⟨rfl, h5⟩
        have HF5 := Lib.hid h5.base
        clear h5
        go_wp2
        go_ret
        exact ⟨rfl, HF5.out⟩
      by_cases h1 : cut < 0
      · clear hg
        go_wp2_with fail
        refine (awake4_any hF.out).mono ?_
        rintro e w5 ⟨rfl, h5⟩
        have HF5 := Lib.hid h5.base
        clear h5
        go_wp2
        go_ret
        exact ⟨rfl, HF5.out⟩
      have h2 : 5000 < cut := by omega
      clear hg
      go_wp2_with fail
      refine (awake4_any hF.out).mono ?_
      rintro e w5 ⟨rfl, h5⟩
      have HF5 := Lib.hid h5.base
      clear h5
      go_wp2
      go_ret
      exact ⟨rfl, HF5.out⟩
  obtain rfl : bs = true := by cases bs with | true => rfl | false => exact absurd (.inl rfl) hg
  have h300 : ¬ (300 : Int) < ((picks.length : Nat) : Int) := fun h => hg (.inr (.inl h))
  have hc0 : ¬ cut < 0 := fun h => hg (.inr (.inr (.inl h)))
  have hc1 : ¬ 5000 < cut := fun h => hg (.inr (.inr (.inr h)))
  have H40 := Lib.hid (hbs rfl)
  have HON := Lib.hid (show okI cut from (okI_iff _).2 (by omega))
  have HF := Lib.hid (S_fresh (St.start w1))
  clear hg hbs
  go_wp2_with fail
  refine HF.out.mono ?_
  clear HF hc0 hc1
  rintro e w2 ⟨H, jh, J, D, rfl, h1, hl1, hlim1, hops1⟩
  have HR1 : Hid (CRel 0 J (D.cut cut) zeroS) := Lib.hid ⟨_, hl1.cut cut, by show D.ops ≤ _; omega, isTo_zero⟩
  have HCT := Lib.hid (S_Cut h1 1 rfl cut HON.out)
  clear h1 hl1 hlim1 hops1
  go_wp2_with fail
  refine HCT.out.mono ?_
  clear HCT
  rintro e w2 ⟨rfl, h2⟩
  have H1 := Lib.hid (show St w1 w2 (jrn H jh J :: dev H (D.cut cut) :: []) from h2)
  clear h2
  go_upto_region 8 with (fail)
  have H2 := Lib.hid (H1.out.newArr #[.int .i64 0, .int .i64 0, .int .i64 0, .int .i64 0, .int .i64 0, .int .i64 0, .int .i64 0, .int .i64 0, .int .i64 0, .int .i64 0, .int .i64 0, .int .i64 0, .int .i64 0, .int .i64 0, .int .i64 0, .int .i64 0, .int .i64 0, .int .i64 0, .int .i64 0, .int .i64 0, .int .i64 0, .int .i64 0, .int .i64 0, .int .i64 0, .int .i64 0, .int .i64 0, .int .i64 0, .int .i64 0, .int .i64 0, .int .i64 0] 67 neSt)
  obtain ⟨w3, hw3⟩ : ∃ w3, w3 = w2.alloc (.cells #[.int .i64 0, .int .i64 0, .int .i64 0, .int .i64 0, .int .i64 0, .int .i64 0, .int .i64 0, .int .i64 0, .int .i64 0, .int .i64 0, .int .i64 0, .int .i64 0, .int .i64 0, .int .i64 0, .int .i64 0, .int .i64 0, .int .i64 0, .int .i64 0, .int .i64 0, .int .i64 0, .int .i64 0, .int .i64 0, .int .i64 0, .int .i64 0, .int .i64 0, .int .i64 0, .int .i64 0, .int .i64 0, .int .i64 0, .int .i64 0] 67 (0, 0)) := ⟨_, rfl⟩
  rw [← hw3] at H2 ⊢
  rw [show (#[.int .i64 0, .int .i64 0, .int .i64 0, .int .i64 0, .int .i64 0, .int .i64 0, .int .i64 0, .int .i64 0, .int .i64 0, .int .i64 0, .int .i64 0, .int .i64 0, .int .i64 0, .int .i64 0, .int .i64 0, .int .i64 0, .int .i64 0, .int .i64 0, .int .i64 0, .int .i64 0, .int .i64 0, .int .i64 0, .int .i64 0, .int .i64 0, .int .i64 0, .int .i64 0, .int .i64 0, .int .i64 0, .int .i64 0, .int .i64 0] : Array Value) = stC 30 zeroS from rfl] at H2
  clear hw3 H1
  generalize w2.heap.size = sb at *
  have H2 := Lib.hid (show St w1 w3 (arr sb (stC 30 zeroS) 67 neSt :: jrn H jh J :: dev H (D.cut cut) :: []) from H2.out)
  have HG2 := Lib.hid (show w3.heap[sb]? = some (.cells (stC 30 zeroS) 67 (0, 0)) from H2.out.get (i := 0) rfl)
  have H3 := Lib.hid (H2.out.newArr #[.int .i64 0, .int .i64 0, .int .i64 0, .int .i64 0, .int .i64 0, .int .i64 0, .int .i64 0, .int .i64 0, .int .i64 0, .int .i64 0, .int .i64 0, .int .i64 0, .int .i64 0, .int .i64 0, .int .i64 0, .int .i64 0, .int .i64 0, .int .i64 0, .int .i64 0, .int .i64 0, .int .i64 0, .int .i64 0, .int .i64 0, .int .i64 0, .int .i64 0, .int .i64 0, .int .i64 0, .int .i64 0, .int .i64 0, .int .i64 0] 67 neSt)
  have HN3 : Hid ((w3.alloc (.cells #[.int .i64 0, .int .i64 0, .int .i64 0, .int .i64 0, .int .i64 0, .int .i64 0, .int .i64 0, .int .i64 0, .int .i64 0, .int .i64 0, .int .i64 0, .int .i64 0, .int .i64 0, .int .i64 0, .int .i64 0, .int .i64 0, .int .i64 0, .int .i64 0, .int .i64 0, .int .i64 0, .int .i64 0, .int .i64 0, .int .i64 0, .int .i64 0, .int .i64 0, .int .i64 0, .int .i64 0, .int .i64 0, .int .i64 0, .int .i64 0] 67 (0, 0))).heap[w3.heap.size]? = some (.cells #[.int .i64 0, .int .i64 0, .int .i64 0, .int .i64 0, .int .i64 0, .int .i64 0, .int .i64 0, .int .i64 0, .int .i64 0, .int .i64 0, .int .i64 0, .int .i64 0, .int .i64 0, .int .i64 0, .int .i64 0, .int .i64 0, .int .i64 0, .int .i64 0, .int .i64 0, .int .i64 0, .int .i64 0, .int .i64 0, .int .i64 0, .int .i64 0, .int .i64 0, .int .i64 0, .int .i64 0, .int .i64 0, .int .i64 0, .int .i64 0] 67 (0, 0))) := Lib.hid (block_alloc_new _ _)
  go_upto_region 9 with (first | refine loadSt rfl _ rfl sb rfl zeroS HG2.out ?_ | refine storeSt rfl _ _ rfl w3.heap.size zeroS rfl rfl #[.int .i64 0, .int .i64 0, .int .i64 0, .int .i64 0, .int .i64 0, .int .i64 0, .int .i64 0, .int .i64 0, .int .i64 0, .int .i64 0, .int .i64 0, .int .i64 0, .int .i64 0, .int .i64 0, .int .i64 0, .int .i64 0, .int .i64 0, .int .i64 0, .int .i64 0, .int .i64 0, .int .i64 0, .int .i64 0, .int .i64 0, .int .i64 0, .int .i64 0, .int .i64 0, .int .i64 0, .int .i64 0, .int .i64 0, .int .i64 0] rfl HN3.out ?_)
  have H3 := Lib.hid (show St w1 ((w3.alloc (.cells #[.int .i64 0, .int .i64 0, .int .i64 0, .int .i64 0, .int .i64 0, .int .i64 0, .int .i64 0, .int .i64 0, .int .i64 0, .int .i64 0, .int .i64 0, .int .i64 0, .int .i64 0, .int .i64 0, .int .i64 0, .int .i64 0, .int .i64 0, .int .i64 0, .int .i64 0, .int .i64 0, .int .i64 0, .int .i64 0, .int .i64 0, .int .i64 0, .int .i64 0, .int .i64 0, .int .i64 0, .int .i64 0, .int .i64 0, .int .i64 0] 67 (0, 0))).setRow w3.heap.size (stC 30 zeroS)) (arr w3.heap.size (stC 30 zeroS) 67 neSt :: arr sb (stC 30 zeroS) 67 neSt :: jrn H jh J :: dev H (D.cut cut) :: []) from H3.out.setRow 0 rfl (stC 30 zeroS))
  obtain ⟨w4, hw4⟩ : ∃ w4, w4 = (w3.alloc (.cells #[.int .i64 0, .int .i64 0, .int .i64 0, .int .i64 0, .int .i64 0, .int .i64 0, .int .i64 0, .int .i64 0, .int .i64 0, .int .i64 0, .int .i64 0, .int .i64 0, .int .i64 0, .int .i64 0, .int .i64 0, .int .i64 0, .int .i64 0, .int .i64 0, .int .i64 0, .int .i64 0, .int .i64 0, .int .i64 0, .int .i64 0, .int .i64 0, .int .i64 0, .int .i64 0, .int .i64 0, .int .i64 0, .int .i64 0, .int .i64 0] 67 (0, 0))).setRow w3.heap.size (stC 30 zeroS) := ⟨_, rfl⟩
  rw [← hw4] at H3 ⊢
  clear hw4 HN3 HG2 H2
  generalize w3.heap.size = mb at *
  have H3 := Lib.hid (show St w1 w4 (arr sb (stC 30 zeroS) 67 neSt :: arr mb (stC 30 zeroS) 67 neSt :: jrn H jh J :: dev H (D.cut cut) :: []) from H3.out.swap)
  go_wp2_with fail
  go_loopw [14] (fun t14 wr => ∃ (i : Nat) (jh' : JHdl) (J' : JSt) (D' : DSt) (f : Nat → Int), i ≤ l.length ∧ t14 = .int .i64 i ∧ Hid (jh'.jb = jh.jb) ∧ St w1 wr (arr sb (stC 30 f) 67 neSt :: arr mb (stC 30 f) 67 neSt :: jrn H jh' J' :: dev H D' :: []) ∧ Hid (CRel i J' D' f)) (fun t _ => l.length - (intOf t).toNat)
  case atStart => exact ⟨0, jh, J, D.cut cut, zeroS, Nat.zero_le _, rfl, Lib.hid rfl, H3.out, HR1⟩
  case round =>
    clear H3 HR1
    obtain ⟨i, jh', J', D', f, hi, rfl, HJB, hst, HR⟩ := hrel
    have HST := Lib.hid hst
    clear hst
    by_cases hlt : i < l.length
    · have hi0 : (0 : Int) ≤ (i : Int) := Int.natCast_nonneg _
      have hi1 : (i : Int) < (l.length : Int) := by omega
      obtain ⟨p, hp⟩ : ∃ p, l[i]? = some p := ⟨_, List.getElem?_eq_getElem hlt⟩
      obtain ⟨gb, go, x, rfl, hgb, c1, c2, hpx⟩ := HC.out i p hp
      have HPX := Lib.hid hpx
      have HGB := Lib.hid hgb
      have HC1 := Lib.hid c1
      have HC2 := Lib.hid c2
      have HOP := Lib.hid (HOK.out p (List.mem_of_getElem? hp))
      have HOL : Hid (((p.2.length : Nat) : Int) ≤ 9223372036854775807) := Lib.hid (by have := HOP.out.2.2; unfold maxLen at this; omega)
      have HI : Hid (i + 1 ≤ 41) := Lib.hid (by have := H40.out; omega)
      clear hp hpx c1 c2
      -- t = s
      have HGR := Lib.hid (show wr.heap[sb]? = some (.cells (stC 30 f) 67 (0, 0)) from HST.out.get (i := 0) rfl)
      have HN3 : Hid ((wr.alloc (.cells #[.int .i64 0, .int .i64 0, .int .i64 0, .int .i64 0, .int .i64 0, .int .i64 0, .int .i64 0, .int .i64 0, .int .i64 0, .int .i64 0, .int .i64 0, .int .i64 0, .int .i64 0, .int .i64 0, .int .i64 0, .int .i64 0, .int .i64 0, .int .i64 0, .int .i64 0, .int .i64 0, .int .i64 0, .int .i64 0, .int .i64 0, .int .i64 0, .int .i64 0, .int .i64 0, .int .i64 0, .int .i64 0, .int .i64 0, .int .i64 0] 67 (0, 0))).heap[wr.heap.size]? = some (.cells #[.int .i64 0, .int .i64 0, .int .i64 0, .int .i64 0, .int .i64 0, .int .i64 0, .int .i64 0, .int .i64 0, .int .i64 0, .int .i64 0, .int .i64 0, .int .i64 0, .int .i64 0, .int .i64 0, .int .i64 0, .int .i64 0, .int .i64 0, .int .i64 0, .int .i64 0, .int .i64 0, .int .i64 0, .int .i64 0, .int .i64 0, .int .i64 0, .int .i64 0, .int .i64 0, .int .i64 0, .int .i64 0, .int .i64 0, .int .i64 0] 67 (0, 0))) := Lib.hid (block_alloc_new _ _)
      go_upto_region 14 with (first | refine loadSt rfl _ rfl sb rfl f HGR.out ?_ | refine storeSt rfl _ _ rfl wr.heap.size f rfl rfl #[.int .i64 0, .int .i64 0, .int .i64 0, .int .i64 0, .int .i64 0, .int .i64 0, .int .i64 0, .int .i64 0, .int .i64 0, .int .i64 0, .int .i64 0, .int .i64 0, .int .i64 0, .int .i64 0, .int .i64 0, .int .i64 0, .int .i64 0, .int .i64 0, .int .i64 0, .int .i64 0, .int .i64 0, .int .i64 0, .int .i64 0, .int .i64 0, .int .i64 0, .int .i64 0, .int .i64 0, .int .i64 0, .int .i64 0, .int .i64 0] rfl HN3.out ?_)
      have HQ := Lib.hid (show St w1 ((wr.alloc (.cells #[.int .i64 0, .int .i64 0, .int .i64 0, .int .i64 0, .int .i64 0, .int .i64 0, .int .i64 0, .int .i64 0, .int .i64 0, .int .i64 0, .int .i64 0, .int .i64 0, .int .i64 0, .int .i64 0, .int .i64 0, .int .i64 0, .int .i64 0, .int .i64 0, .int .i64 0, .int .i64 0, .int .i64 0, .int .i64 0, .int .i64 0, .int .i64 0, .int .i64 0, .int .i64 0, .int .i64 0, .int .i64 0, .int .i64 0, .int .i64 0] 67 (0, 0))).setRow wr.heap.size (stC 30 f)) (arr wr.heap.size (stC 30 f) 67 neSt :: arr sb (stC 30 f) 67 neSt :: arr mb (stC 30 f) 67 neSt :: jrn H jh' J' :: dev H D' :: []) from (HST.out.newArr #[.int .i64 0, .int .i64 0, .int .i64 0, .int .i64 0, .int .i64 0, .int .i64 0, .int .i64 0, .int .i64 0, .int .i64 0, .int .i64 0, .int .i64 0, .int .i64 0, .int .i64 0, .int .i64 0, .int .i64 0, .int .i64 0, .int .i64 0, .int .i64 0, .int .i64 0, .int .i64 0, .int .i64 0, .int .i64 0, .int .i64 0, .int .i64 0, .int .i64 0, .int .i64 0, .int .i64 0, .int .i64 0, .int .i64 0, .int .i64 0] 67 neSt).setRow 0 rfl (stC 30 f))
      obtain ⟨wq, hwq⟩ : ∃ wq, wq = (wr.alloc (.cells #[.int .i64 0, .int .i64 0, .int .i64 0, .int .i64 0, .int .i64 0, .int .i64 0, .int .i64 0, .int .i64 0, .int .i64 0, .int .i64 0, .int .i64 0, .int .i64 0, .int .i64 0, .int .i64 0, .int .i64 0, .int .i64 0, .int .i64 0, .int .i64 0, .int .i64 0, .int .i64 0, .int .i64 0, .int .i64 0, .int .i64 0, .int .i64 0, .int .i64 0, .int .i64 0, .int .i64 0, .int .i64 0, .int .i64 0, .int .i64 0] 67 (0, 0))).setRow wr.heap.size (stC 30 f) := ⟨_, rfl⟩
      rw [← hwq] at HQ ⊢
      clear hwq HN3 HGR HST
      generalize wr.heap.size = qb at *
      have HQ := Lib.hid (show St w1 wq (arr sb (stC 30 f) 67 neSt :: arr qb (stC 30 f) 67 neSt :: arr mb (stC 30 f) 67 neSt :: jrn H jh' J' :: dev H D' :: []) from HQ.out.swap)
      have c1 : wq.cell? ⟨gb, go + i * 2, none⟩ = some (.int .i64 p.1) := (HQ.out.base.cell HGB.out (fun e => e)).trans HC1.out
      go_upto_region 15 with (fail)
      clear c1
      by_cases hk1 : (p.1 == 1) = true
      · have c2 : w1.cell? ⟨gb, go + i * 2 + 1, none⟩ = some x := HC2.out
        obtain ⟨R, hR⟩ : ∃ R, chTo p.2 f p.2.length = R := ⟨_, rfl⟩
        have HRK : Hid (ChOk 275 f R) := Lib.hid (hR ▸ chTo_ok 275 p.2 f p.2.length)
        have HCH : Hid (∀ W pre, St w1 W (pre ++ arr sb (stC 30 f) 67 neSt :: arr qb (stC 30 f) 67 neSt :: arr mb (stC 30 f) 67 neSt :: jrn H jh' J' :: dev H D' :: []) → Calls Try.prog 53 #[x, .agg (stL f).toArray] W fun e w' => ∃ v vs, e = .returned (.tuple #[v, .agg (stL R.2.2).toArray]) ∧ St w1 w' (chgs v ((chK R).map fun k : Nat => (k : Int)) vs (chD R) :: (pre ++ arr sb (stC 30 f) 67 neSt :: arr qb (stC 30 f) 67 neSt :: arr mb (stC 30 f) 67 neSt :: jrn H jh' J' :: dev H D' :: []))) := Lib.hid (fun W pre hW => by
          have := S_changes hW x p.2 f (fun y _ hy => HPX.out.frm hy.base) HOP.out.2.1 HOL.out
          rw [hR] at this
          exact this)
        have hU : Try.prog.underlying 67 = some (.array 30 3) := Try.underlying67
        have hI1 := stL_info f
        have hI2 := stL_info R.2.2
        have hN2 := stL_length R.2.2
        have hN1 := stL_length f
        have hO2 := stL_one R.2.2
        have KA : Hid (∀ y, Frm NoB wq y → y.cell? ⟨gb, go + i * 2 + 1, none⟩ = some x ∧ y.rangeAt sb 0 (stL f)) := Lib.hid fun y hy =>
          ⟨((HQ.out.frm0 hy).base.cell hgb (fun e => e)).trans c2, (HQ.out.frm0 hy).rangeS 0 rfl⟩
        have KC : Hid (∀ y rs', St w1 y rs' → y.cell? ⟨gb, go + i * 2 + 1, none⟩ = some x) := Lib.hid fun y _ hy => (hy.base.cell HGB.out (fun e => e)).trans HC2.out
        have KD : Hid (∀ y a1 a2, St w1 y (a1 :: a2 :: arr sb (stC 30 f) 67 neSt :: arr qb (stC 30 f) 67 neSt :: arr mb (stC 30 f) 67 neSt :: jrn H jh' J' :: dev H D' :: []) → y.cell? ⟨gb, go + i * 2 + 1, none⟩ = some x ∧ y.rangeAt sb 0 (stL f)) := Lib.hid fun y a1 a2 hy => ⟨KC.out _ _ hy, hy.rangeS 2 rfl⟩
        have KE : Hid (∀ tb rs', ∀ {y : World}, St w1 y (arr tb #[.int .i64 0, .int .i64 0, .int .i64 0, .int .i64 0, .int .i64 0, .int .i64 0, .int .i64 0, .int .i64 0, .int .i64 0, .int .i64 0, .int .i64 0, .int .i64 0, .int .i64 0, .int .i64 0, .int .i64 0, .int .i64 0, .int .i64 0, .int .i64 0, .int .i64 0, .int .i64 0, .int .i64 0, .int .i64 0, .int .i64 0, .int .i64 0, .int .i64 0, .int .i64 0, .int .i64 0, .int .i64 0, .int .i64 0, .int .i64 0] 67 neSt :: rs') → St w1 (y.setCells tb 0 (stL R.2.2)) (arr tb (stC 30 R.2.2) 67 neSt :: rs')) := Lib.hid fun tb rs' y hy => by
          have := hy.setCells (i := 0) (stL R.2.2) 0 rfl
          rw [setFrom_zero R.2.2 _ rfl] at this
          exact this
        have HC0 : Hid (Calls Try.prog 53 #[x, .agg (stL f).toArray] wq.drew fun e w' => ∃ v vs, e = .returned (.tuple #[v, .agg (stL R.2.2).toArray]) ∧ St w1 w' (chgs v ((chK R).map fun k : Nat => (k : Int)) vs (chD R) :: arr sb (stC 30 f) 67 neSt :: arr qb (stC 30 f) 67 neSt :: arr mb (stC 30 f) 67 neSt :: jrn H jh' J' :: dev H D' :: [])) := Lib.hid (HCH.out wq.drew [] (HQ.out.frm0 ((Frm.refl NoB wq).drew)))
        have HC1 : Hid (Calls Try.prog 53 #[x, .agg (stL f).toArray] (wq.drew.alloc (.cells #[.int .i64 0, .int .i64 0, .int .i64 0, .int .i64 0, .int .i64 0, .int .i64 0, .int .i64 0, .int .i64 0, .int .i64 0, .int .i64 0, .int .i64 0, .int .i64 0, .int .i64 0, .int .i64 0, .int .i64 0, .int .i64 0, .int .i64 0, .int .i64 0, .int .i64 0, .int .i64 0, .int .i64 0, .int .i64 0, .int .i64 0, .int .i64 0, .int .i64 0, .int .i64 0, .int .i64 0, .int .i64 0, .int .i64 0, .int .i64 0] 67 (0, 0))) fun e w' => ∃ v vs, e = .returned (.tuple #[v, .agg (stL R.2.2).toArray]) ∧ St w1 w' (chgs v ((chK R).map fun k : Nat => (k : Int)) vs (chD R) :: arr wq.heap.size #[.int .i64 0, .int .i64 0, .int .i64 0, .int .i64 0, .int .i64 0, .int .i64 0, .int .i64 0, .int .i64 0, .int .i64 0, .int .i64 0, .int .i64 0, .int .i64 0, .int .i64 0, .int .i64 0, .int .i64 0, .int .i64 0, .int .i64 0, .int .i64 0, .int .i64 0, .int .i64 0, .int .i64 0, .int .i64 0, .int .i64 0, .int .i64 0, .int .i64 0, .int .i64 0, .int .i64 0, .int .i64 0, .int .i64 0, .int .i64 0] 67 neSt :: arr sb (stC 30 f) 67 neSt :: arr qb (stC 30 f) 67 neSt :: arr mb (stC 30 f) 67 neSt :: jrn H jh' J' :: dev H D' :: [])) := Lib.hid (HCH.out _ [arr _ #[.int .i64 0, .int .i64 0, .int .i64 0, .int .i64 0, .int .i64 0, .int .i64 0, .int .i64 0, .int .i64 0, .int .i64 0, .int .i64 0, .int .i64 0, .int .i64 0, .int .i64 0, .int .i64 0, .int .i64 0, .int .i64 0, .int .i64 0, .int .i64 0, .int .i64 0, .int .i64 0, .int .i64 0, .int .i64 0, .int .i64 0, .int .i64 0, .int .i64 0, .int .i64 0, .int .i64 0, .int .i64 0, .int .i64 0, .int .i64 0] 67 neSt] ((HQ.out.frm0 ((Frm.refl NoB wq).drew)).newArr #[.int .i64 0, .int .i64 0, .int .i64 0, .int .i64 0, .int .i64 0, .int .i64 0, .int .i64 0, .int .i64 0, .int .i64 0, .int .i64 0, .int .i64 0, .int .i64 0, .int .i64 0, .int .i64 0, .int .i64 0, .int .i64 0, .int .i64 0, .int .i64 0, .int .i64 0, .int .i64 0, .int .i64 0, .int .i64 0, .int .i64 0, .int .i64 0, .int .i64 0, .int .i64 0, .int .i64 0, .int .i64 0, .int .i64 0, .int .i64 0] 67 neSt))
        have HC3 : Hid (Calls Try.prog 53 #[x, .agg (stL f).toArray] ((wq.alloc (.cells #[.int .i64 0, .int .i64 0, .int .i64 0, .int .i64 0, .int .i64 0, .int .i64 0, .int .i64 0, .int .i64 0, .int .i64 0, .int .i64 0, .int .i64 0, .int .i64 0, .int .i64 0, .int .i64 0, .int .i64 0, .int .i64 0, .int .i64 0, .int .i64 0, .int .i64 0, .int .i64 0, .int .i64 0, .int .i64 0, .int .i64 0, .int .i64 0, .int .i64 0, .int .i64 0, .int .i64 0, .int .i64 0, .int .i64 0, .int .i64 0] 67 (0, 0))).drew) fun e w' => ∃ v vs, e = .returned (.tuple #[v, .agg (stL R.2.2).toArray]) ∧ St w1 w' (chgs v ((chK R).map fun k : Nat => (k : Int)) vs (chD R) :: arr wq.heap.size #[.int .i64 0, .int .i64 0, .int .i64 0, .int .i64 0, .int .i64 0, .int .i64 0, .int .i64 0, .int .i64 0, .int .i64 0, .int .i64 0, .int .i64 0, .int .i64 0, .int .i64 0, .int .i64 0, .int .i64 0, .int .i64 0, .int .i64 0, .int .i64 0, .int .i64 0, .int .i64 0, .int .i64 0, .int .i64 0, .int .i64 0, .int .i64 0, .int .i64 0, .int .i64 0, .int .i64 0, .int .i64 0, .int .i64 0, .int .i64 0] 67 neSt :: arr sb (stC 30 f) 67 neSt :: arr qb (stC 30 f) 67 neSt :: arr mb (stC 30 f) 67 neSt :: jrn H jh' J' :: dev H D' :: [])) := Lib.hid (HCH.out _ [arr _ #[.int .i64 0, .int .i64 0, .int .i64 0, .int .i64 0, .int .i64 0, .int .i64 0, .int .i64 0, .int .i64 0, .int .i64 0, .int .i64 0, .int .i64 0, .int .i64 0, .int .i64 0, .int .i64 0, .int .i64 0, .int .i64 0, .int .i64 0, .int .i64 0, .int .i64 0, .int .i64 0, .int .i64 0, .int .i64 0, .int .i64 0, .int .i64 0, .int .i64 0, .int .i64 0, .int .i64 0, .int .i64 0, .int .i64 0, .int .i64 0] 67 neSt] ((HQ.out.newArr #[.int .i64 0, .int .i64 0, .int .i64 0, .int .i64 0, .int .i64 0, .int .i64 0, .int .i64 0, .int .i64 0, .int .i64 0, .int .i64 0, .int .i64 0, .int .i64 0, .int .i64 0, .int .i64 0, .int .i64 0, .int .i64 0, .int .i64 0, .int .i64 0, .int .i64 0, .int .i64 0, .int .i64 0, .int .i64 0, .int .i64 0, .int .i64 0, .int .i64 0, .int .i64 0, .int .i64 0, .int .i64 0, .int .i64 0, .int .i64 0] 67 neSt).frm0 ((Frm.refl NoB _).drew)))
        obtain ⟨k1, k2⟩ := KA.out wq (Frm.refl _ _)
        clear hR
        go_upto_region 16 with (fail)
        go_cut [17, 18] from 63 to 72 (fun t17 t18 wx => ∃ tb vs, t18 = .pointer (some ⟨tb, 0, none⟩) ∧ St w1 wx (arr tb (stC 30 R.2.2) 67 neSt :: chgs t17 ((chK R).map fun k : Nat => (k : Int)) vs (chD R) :: arr sb (stC 30 f) 67 neSt :: arr qb (stC 30 f) 67 neSt :: arr mb (stC 30 f) 67 neSt :: jrn H jh' J' :: dev H D' :: []))
        case first =>
          go_region_held3 (fun y => y.cell? ⟨gb, go + i * 2 + 1, none⟩ = some x ∧ y.rangeAt sb 0 (stL f))
            (first | with_reducible exact hS5 | with_reducible exact hS6.out | with_reducible exact hS7.out | (refine KA.out _ ?_; first | with_reducible assumption | with_reducible exact (Frm.refl NoB wq).drew | with_reducible exact ((Frm.refl NoB wq).drew).alloc _ | with_reducible exact ((Frm.refl NoB wq).alloc _).drew | with_reducible exact (Frm.refl NoB wq).alloc _ ))
            (first
              | (go_at_call 53; with_reducible refine HC0.out.mono ?_; rintro e w4 ⟨v4, vs, rfl, h4⟩; have hS5 : w4.cell? ⟨gb, go + i * 2 + 1, none⟩ = some x ∧ w4.rangeAt sb 0 (stL f) := ⟨KC.out w4 _ h4, h4.rangeS 1 rfl⟩; have h5 := h4.newArr #[.int .i64 0, .int .i64 0, .int .i64 0, .int .i64 0, .int .i64 0, .int .i64 0, .int .i64 0, .int .i64 0, .int .i64 0, .int .i64 0, .int .i64 0, .int .i64 0, .int .i64 0, .int .i64 0, .int .i64 0, .int .i64 0, .int .i64 0, .int .i64 0, .int .i64 0, .int .i64 0, .int .i64 0, .int .i64 0, .int .i64 0, .int .i64 0, .int .i64 0, .int .i64 0, .int .i64 0, .int .i64 0, .int .i64 0, .int .i64 0] 67 neSt; have hT := h5.thereS 0 rfl 30 (by decide); have h6 := Lib.hid (KE.out w4.heap.size _ h5); have hS6 : Hid ((w4.alloc (.cells #[.int .i64 0, .int .i64 0, .int .i64 0, .int .i64 0, .int .i64 0, .int .i64 0, .int .i64 0, .int .i64 0, .int .i64 0, .int .i64 0, .int .i64 0, .int .i64 0, .int .i64 0, .int .i64 0, .int .i64 0, .int .i64 0, .int .i64 0, .int .i64 0, .int .i64 0, .int .i64 0, .int .i64 0, .int .i64 0, .int .i64 0, .int .i64 0, .int .i64 0, .int .i64 0, .int .i64 0, .int .i64 0, .int .i64 0, .int .i64 0] 67 (0, 0))).cell? ⟨gb, go + i * 2 + 1, none⟩ = some x ∧ (w4.alloc (.cells #[.int .i64 0, .int .i64 0, .int .i64 0, .int .i64 0, .int .i64 0, .int .i64 0, .int .i64 0, .int .i64 0, .int .i64 0, .int .i64 0, .int .i64 0, .int .i64 0, .int .i64 0, .int .i64 0, .int .i64 0, .int .i64 0, .int .i64 0, .int .i64 0, .int .i64 0, .int .i64 0, .int .i64 0, .int .i64 0, .int .i64 0, .int .i64 0, .int .i64 0, .int .i64 0, .int .i64 0, .int .i64 0, .int .i64 0, .int .i64 0] 67 (0, 0))).rangeAt sb 0 (stL f)) := Lib.hid ⟨KC.out _ _ h5, h5.rangeS 2 rfl⟩; have hS7 := Lib.hid (KD.out _ _ _ h6.out))
              | (go_at_call 53; first | with_reducible refine HC1.out.mono ?_ | with_reducible refine HC3.out.mono ?_; rintro e w4 ⟨v4, vs, rfl, h4⟩; have hS5 : w4.cell? ⟨gb, go + i * 2 + 1, none⟩ = some x ∧ w4.rangeAt sb 0 (stL f) := ⟨KC.out w4 _ h4, h4.rangeS 2 rfl⟩; have hT := h4.thereS 1 rfl 30 (by decide); have h6 := Lib.hid (KE.out _ _ h4.swap); have hS7 := Lib.hid (KD.out _ _ _ h6.out)))
          all_goals
            go_wp2_with fail
            go_meet
            first | exact ⟨_, _, rfl, h6.out⟩ | (case rel => exact ⟨_, _, rfl, h6.out⟩)
        case rest =>
          obtain ⟨tb, vs, rfl, hst⟩ := hcut
          have H5 := Lib.hid (show St w1 wc (arr tb (stC 30 R.2.2) 67 neSt :: chgs u17 ((chK R).map fun k : Nat => (k : Int)) vs (chD R) :: arr sb (stC 30 f) 67 neSt :: arr qb (stC 30 f) 67 neSt :: arr mb (stC 30 f) 67 neSt :: jrn H jh' J' :: dev H D' :: []) from hst)
          have HGT := Lib.hid (show wc.heap[tb]? = some (.cells (stC 30 R.2.2) 67 (0, 0)) from H5.out.get (i := 0) rfl)
          have HGQ := Lib.hid (show wc.heap[qb]? = some (.cells (stC 30 f) 67 (0, 0)) from H5.out.get (i := 3) rfl)
          have H6 := Lib.hid (show St w1 (wc.setRow qb (stC 30 R.2.2)) (chgs u17 ((chK R).map fun k : Nat => (k : Int)) vs (chD R) :: arr sb (stC 30 f) 67 neSt :: arr qb (stC 30 R.2.2) 67 neSt :: arr mb (stC 30 f) 67 neSt :: jrn H jh' J' :: dev H D' :: []) from (H5.out.setRow 3 rfl (stC 30 R.2.2)).drop 1)
          clear hst H5 KA KC KD KE HC0 HC1 HC3 HCH hU hI1 hI2 hN1 hN2 hO2 k1 k2
          go_upto_region 18 with (first | refine loadSt rfl _ rfl tb rfl R.2.2 HGT.out ?_ | refine storeSt rfl _ _ rfl qb R.2.2 rfl rfl (stC 30 f) (stC_size _ _) HGQ.out ?_)
          obtain ⟨w5, hw5⟩ : ∃ w5, w5 = wc.setRow qb (stC 30 R.2.2) := ⟨_, rfl⟩
          rw [← hw5] at H6 ⊢
          clear hw5 HGT HGQ
          have H6 := Lib.hid (show St w1 w5 (jrn H jh' J' :: chgs u17 ((chK R).map fun k : Nat => (k : Int)) vs (chD R) :: arr sb (stC 30 f) 67 neSt :: arr qb (stC 30 R.2.2) 67 neSt :: arr mb (stC 30 f) 67 neSt :: dev H D' :: []) from H6.out.perm ((List.perm_append_comm (l₁ := [_, _, _, _]) (l₂ := [_])).append_right [_]))
          have HCM := Lib.hid (S_CommitK H6.out 4 0 rfl rfl HRK.out HR.out (by have := H40.out; omega) (by omega))
          rw [HJB.out] at HCM
          clear H6
          go_wp2_with fail
          refine HCM.out.mono ?_
          clear HCM
          rintro e w6 ⟨jh6, J6, D6, hjb, h6, ⟨rfl, hR6⟩ | ⟨rfl, hR6⟩⟩
          · have HT := Lib.hid (show St w1 w6 (jrn H jh6 J6 :: arr qb (stC 30 R.2.2) 67 neSt :: arr sb (stC 30 f) 67 neSt :: arr mb (stC 30 f) 67 neSt :: dev H D6 :: []) from (show St w1 w6 (jrn H jh6 J6 :: chgs u17 ((chK R).map fun k : Nat => (k : Int)) vs (chD R) :: arr sb (stC 30 f) 67 neSt :: arr qb (stC 30 R.2.2) 67 neSt :: arr mb (stC 30 f) 67 neSt :: dev H D6 :: []) from h6).drop2nd.perm (List.Perm.cons _ (List.Perm.swap _ _ _)))
            have HR6 := Lib.hid hR6
            have HJ6 : Hid (jh6.jb = jh.jb) := Lib.hid hjb
            clear h6 hR6 hjb HR
            have HQ6 := Lib.hid (show w6.heap[qb]? = some (.cells (stC 30 (R.2.2)) 67 (0, 0)) from HT.out.get (i := 1) rfl)
            have HSB6 := Lib.hid (show w6.heap[sb]? = some (.cells (stC 30 f) 67 (0, 0)) from HT.out.get (i := 2) rfl)
            have H7 := Lib.hid (show St w1 (w6.setRow sb (stC 30 (R.2.2))) (jrn H jh6 J6 :: arr qb (stC 30 (R.2.2)) 67 neSt :: arr sb (stC 30 (R.2.2)) 67 neSt :: arr mb (stC 30 f) 67 neSt :: dev H D6 :: []) from HT.out.setRow 2 rfl (stC 30 (R.2.2)))
            have HS7 := Lib.hid (show (w6.setRow sb (stC 30 (R.2.2))).heap[sb]? = some (.cells (stC 30 (R.2.2)) 67 (0, 0)) from H7.out.get (i := 2) rfl)
            have HM7 := Lib.hid (show (w6.setRow sb (stC 30 (R.2.2))).heap[mb]? = some (.cells (stC 30 f) 67 (0, 0)) from H7.out.get (i := 3) rfl)
            have H8 := Lib.hid (show St w1 ((w6.setRow sb (stC 30 (R.2.2))).setRow mb (stC 30 (R.2.2))) (jrn H jh6 J6 :: arr qb (stC 30 (R.2.2)) 67 neSt :: arr sb (stC 30 (R.2.2)) 67 neSt :: arr mb (stC 30 (R.2.2)) 67 neSt :: dev H D6 :: []) from H7.out.setRow 3 rfl (stC 30 (R.2.2)))
            have H9 := Lib.hid (show St w1 ((w6.setRow sb (stC 30 (R.2.2))).setRow mb (stC 30 (R.2.2))) (arr sb (stC 30 (R.2.2)) 67 neSt :: arr mb (stC 30 (R.2.2)) 67 neSt :: jrn H jh6 J6 :: dev H D6 :: []) from H8.out.drop2nd.swap.perm (List.Perm.cons _ (List.Perm.swap _ _ _)))
            clear HT H7 H8
            go_wp2_with (first | refine loadSt rfl _ rfl qb rfl (R.2.2) HQ6.out ?_ | refine storeSt rfl _ _ rfl sb (R.2.2) rfl rfl (stC 30 f) (stC_size _ _) HSB6.out ?_ | refine loadSt rfl _ rfl sb rfl (R.2.2) HS7.out ?_ | refine storeSt rfl _ _ rfl mb (R.2.2) rfl rfl (stC 30 f) (stC_size _ _) HM7.out ?_)
            first | exact ⟨⟨i + 1, jh6, _, _, _, hlt, by go_num, HJ6, H9.out, HR6⟩, by simp [intOf]; omega⟩ | (go_roundw; case rel => first | exact ⟨i + 1, jh6, _, _, _, hlt, by go_num, HJ6, H9.out, HR6⟩ | ((repeat apply Exists.intro); exact ⟨⟨i + 1, jh6, _, _, _, hlt, by go_num, HJ6, H9.out, HR6⟩, rfl⟩); case measure => simp [intOf]; omega)
          · have HT := Lib.hid (show St w1 w6 (jrn H jh6 J6 :: arr qb (stC 30 R.2.2) 67 neSt :: arr sb (stC 30 f) 67 neSt :: arr mb (stC 30 f) 67 neSt :: dev H D6 :: []) from (show St w1 w6 (jrn H jh6 J6 :: chgs u17 ((chK R).map fun k : Nat => (k : Int)) vs (chD R) :: arr sb (stC 30 f) 67 neSt :: arr qb (stC 30 R.2.2) 67 neSt :: arr mb (stC 30 f) 67 neSt :: dev H D6 :: []) from h6).drop2nd.perm (List.Perm.cons _ (List.Perm.swap _ _ _)))
            have HLF := Lib.hid hR6
            clear h6 hR6 hjb HR
            have HQ6 := Lib.hid (show w6.heap[qb]? = some (.cells (stC 30 (R.2.2)) 67 (0, 0)) from HT.out.get (i := 1) rfl)
            have HM6 := Lib.hid (show w6.heap[mb]? = some (.cells (stC 30 f) 67 (0, 0)) from HT.out.get (i := 3) rfl)
            have HS := Lib.hid (show St w1 (w6.setRow mb (stC 30 (R.2.2))) (jrn H jh6 J6 :: arr sb (stC 30 f) 67 neSt :: arr mb (stC 30 (R.2.2)) 67 neSt :: dev H D6 :: []) from (HT.out.setRow 3 rfl (stC 30 (R.2.2))).drop2nd)
            obtain ⟨w8, hw8⟩ : ∃ w8, w8 = w6.setRow mb (stC 30 (R.2.2)) := ⟨_, rfl⟩
            rw [← hw8] at HS
            clear HT
            go_upto_region 27 with (first | refine loadSt rfl _ rfl qb rfl (R.2.2) HQ6.out ?_ | refine storeSt rfl _ _ rfl mb (R.2.2) rfl rfl (stC 30 f) (stC_size _ _) HM6.out ?_)
            rw [← hw8]
            clear hw8 HQ6 HM6
            have HE : Hid (Elems w8 (.slice b picks.length cap2) (picks.map IntK)) := Lib.hid ((show Elems w1 (.slice b picks.length cap2) (picks.map IntK) from ⟨b, cap2, by rw [List.length_map], HP.out⟩).frm HS.out.base)
            have HCR := Lib.hid (S_Crash HS.out 3 rfl (by have := HLF.out.2.2.1; have := HI.out; omega) _ picks HE.out HPK.out (by omega))
            clear HE
            go_wp2_with fail
            refine HCR.out.mono ?_
            clear HCR HS
            rintro e wa ⟨Ha, rfl, ha⟩
            have HOP := Lib.hid (S_openedC HLF.out (by have := HI.out; omega) picks cuts ha (.slice bc cuts.length cap3) (.slice b picks.length cap2) ⟨bc, cap3, by rw [List.length_map], HCU.out⟩ ⟨b, cap2, by rw [List.length_map], HP.out⟩ HCK.out HPK.out (by omega))
            clear ha HLF
            go_wp2_with fail
            refine HOP.out.mono ?_
            clear HOP
            rintro e wb ⟨Hb, jhb, Jb, Db, s, rfl, hb, hlb, hlimb, hopsb, hto⟩
            have HB := Lib.hid hb
            have HLB := Lib.hid hlb
            have HOB : Hid (Db.ops ≤ 61) := Lib.hid hopsb
            have HTO := Lib.hid hto
            clear hb hlb hlimb hopsb hto
            have HGS := Lib.hid (show wb.heap[sb]? = some (.cells (stC 30 f) 67 (0, 0)) from HB.out.get (i := 4) rfl)
            have HIS := Lib.hid (S_is HB.out 0 rfl HLB.out (by omega) (by have := HI.out; omega) (by have := HOB.out; omega) f)
            go_wp2_with (first | refine loadSt rfl _ rfl sb rfl f HGS.out ?_)
            refine HIS.out.mono ?_
            clear HIS HB HGS
            rintro e wc2 ⟨rfl, hc⟩
            have HIN := Lib.hid hc
            clear hc
            cases hto1 : isTo s f 30 with
            | true =>
              clear hto1
              go_wp2_with fail
              refine (awake4_any HIN.out).mono ?_
              rintro e w5 ⟨rfl, h5⟩
              have HF5 := Lib.hid h5.base
              clear h5
              go_wp2
              go_ret
              exact ⟨rfl, HF5.out⟩
            | false =>
              have hto2 : isTo s (R.2.2) 30 = true := by
                rcases HTO.out with h | h
                · rw [hto1] at h; cases h
                · exact h
              have HGM := Lib.hid (show wc2.heap[mb]? = some (.cells (stC 30 (R.2.2)) 67 (0, 0)) from HIN.out.get (i := 5) rfl)
              have HIS := Lib.hid (S_is HIN.out 0 rfl HLB.out (by omega) (by have := HI.out; omega) (by have := HOB.out; omega) (R.2.2))
              rw [hto2] at HIS
              clear hto1 hto2 HIN
              go_wp2_with (first | refine loadSt rfl _ rfl mb rfl (R.2.2) HGM.out ?_)
              refine HIS.out.mono ?_
              clear HIS HGM
              rintro e wd ⟨rfl, hd⟩
              have HIN := Lib.hid hd
              clear hd
              go_wp2_with fail
              refine (awake4_any HIN.out).mono ?_
              rintro e w5 ⟨rfl, h5⟩
              have HF5 := Lib.hid h5.base
              clear h5
              go_wp2
              go_ret
              exact ⟨rfl, HF5.out⟩
      have hk1 : (p.1 == 1) = false := by simpa using hk1
      by_cases hk2 : (p.1 == 2) = true
      · have H6 := Lib.hid (show St w1 wq (jrn H jh' J' :: arr sb (stC 30 f) 67 neSt :: arr qb (stC 30 f) 67 neSt :: arr mb (stC 30 f) 67 neSt :: dev H D' :: []) from HQ.out.perm ((List.perm_append_comm (l₁ := [_, _, _]) (l₂ := [_])).append_right [_]))
        have HCM := Lib.hid (S_SyncK H6.out 3 rfl HR.out (by have := H40.out; omega))
        rw [HJB.out] at HCM
        clear H6 HQ
        go_wp2_with fail
        refine HCM.out.mono ?_
        clear HCM
        rintro e w6 ⟨jh6, J6, D6, hjb, h6, ⟨rfl, hR6⟩ | ⟨rfl, hR6⟩⟩
        · have HT := Lib.hid (show St w1 w6 (jrn H jh6 J6 :: arr qb (stC 30 f) 67 neSt :: arr sb (stC 30 f) 67 neSt :: arr mb (stC 30 f) 67 neSt :: dev H D6 :: []) from (show St w1 w6 (jrn H jh6 J6 :: arr sb (stC 30 f) 67 neSt :: arr qb (stC 30 f) 67 neSt :: arr mb (stC 30 f) 67 neSt :: dev H D6 :: []) from h6).perm (List.Perm.cons _ (List.Perm.swap _ _ _)))
          have HR6 := Lib.hid hR6
          have HJ6 : Hid (jh6.jb = jh.jb) := Lib.hid hjb
          clear h6 hR6 hjb HR
          have HQ6 := Lib.hid (show w6.heap[qb]? = some (.cells (stC 30 (f)) 67 (0, 0)) from HT.out.get (i := 1) rfl)
          have HSB6 := Lib.hid (show w6.heap[sb]? = some (.cells (stC 30 f) 67 (0, 0)) from HT.out.get (i := 2) rfl)
          have H7 := Lib.hid (show St w1 (w6.setRow sb (stC 30 (f))) (jrn H jh6 J6 :: arr qb (stC 30 (f)) 67 neSt :: arr sb (stC 30 (f)) 67 neSt :: arr mb (stC 30 f) 67 neSt :: dev H D6 :: []) from HT.out.setRow 2 rfl (stC 30 (f)))
          have HS7 := Lib.hid (show (w6.setRow sb (stC 30 (f))).heap[sb]? = some (.cells (stC 30 (f)) 67 (0, 0)) from H7.out.get (i := 2) rfl)
          have HM7 := Lib.hid (show (w6.setRow sb (stC 30 (f))).heap[mb]? = some (.cells (stC 30 f) 67 (0, 0)) from H7.out.get (i := 3) rfl)
          have H8 := Lib.hid (show St w1 ((w6.setRow sb (stC 30 (f))).setRow mb (stC 30 (f))) (jrn H jh6 J6 :: arr qb (stC 30 (f)) 67 neSt :: arr sb (stC 30 (f)) 67 neSt :: arr mb (stC 30 (f)) 67 neSt :: dev H D6 :: []) from H7.out.setRow 3 rfl (stC 30 (f)))
          have H9 := Lib.hid (show St w1 ((w6.setRow sb (stC 30 (f))).setRow mb (stC 30 (f))) (arr sb (stC 30 (f)) 67 neSt :: arr mb (stC 30 (f)) 67 neSt :: jrn H jh6 J6 :: dev H D6 :: []) from H8.out.drop2nd.swap.perm (List.Perm.cons _ (List.Perm.swap _ _ _)))
          clear HT H7 H8
          go_wp2_with (first | refine loadSt rfl _ rfl qb rfl (f) HQ6.out ?_ | refine storeSt rfl _ _ rfl sb (f) rfl rfl (stC 30 f) (stC_size _ _) HSB6.out ?_ | refine loadSt rfl _ rfl sb rfl (f) HS7.out ?_ | refine storeSt rfl _ _ rfl mb (f) rfl rfl (stC 30 f) (stC_size _ _) HM7.out ?_)
          first | exact ⟨⟨i + 1, jh6, _, _, _, hlt, by go_num, HJ6, H9.out, HR6⟩, by simp [intOf]; omega⟩ | (go_roundw; case rel => first | exact ⟨i + 1, jh6, _, _, _, hlt, by go_num, HJ6, H9.out, HR6⟩ | ((repeat apply Exists.intro); exact ⟨⟨i + 1, jh6, _, _, _, hlt, by go_num, HJ6, H9.out, HR6⟩, rfl⟩); case measure => simp [intOf]; omega)
        · have HT := Lib.hid (show St w1 w6 (jrn H jh6 J6 :: arr qb (stC 30 f) 67 neSt :: arr sb (stC 30 f) 67 neSt :: arr mb (stC 30 f) 67 neSt :: dev H D6 :: []) from (show St w1 w6 (jrn H jh6 J6 :: arr sb (stC 30 f) 67 neSt :: arr qb (stC 30 f) 67 neSt :: arr mb (stC 30 f) 67 neSt :: dev H D6 :: []) from h6).perm (List.Perm.cons _ (List.Perm.swap _ _ _)))
          have HLF := Lib.hid hR6
          clear h6 hR6 hjb HR
          have HQ6 := Lib.hid (show w6.heap[qb]? = some (.cells (stC 30 (f)) 67 (0, 0)) from HT.out.get (i := 1) rfl)
          have HM6 := Lib.hid (show w6.heap[mb]? = some (.cells (stC 30 f) 67 (0, 0)) from HT.out.get (i := 3) rfl)
          have HS := Lib.hid (show St w1 (w6.setRow mb (stC 30 (f))) (jrn H jh6 J6 :: arr sb (stC 30 f) 67 neSt :: arr mb (stC 30 (f)) 67 neSt :: dev H D6 :: []) from (HT.out.setRow 3 rfl (stC 30 (f))).drop2nd)
          obtain ⟨w8, hw8⟩ : ∃ w8, w8 = w6.setRow mb (stC 30 (f)) := ⟨_, rfl⟩
          rw [← hw8] at HS
          clear HT
          go_upto_region 27 with (first | refine loadSt rfl _ rfl qb rfl (f) HQ6.out ?_ | refine storeSt rfl _ _ rfl mb (f) rfl rfl (stC 30 f) (stC_size _ _) HM6.out ?_)
          rw [← hw8]
          clear hw8 HQ6 HM6
          have HE : Hid (Elems w8 (.slice b picks.length cap2) (picks.map IntK)) := Lib.hid ((show Elems w1 (.slice b picks.length cap2) (picks.map IntK) from ⟨b, cap2, by rw [List.length_map], HP.out⟩).frm HS.out.base)
          have HCR := Lib.hid (S_Crash HS.out 3 rfl (by have := HLF.out.2.2.1; have := HI.out; omega) _ picks HE.out HPK.out (by omega))
          clear HE
          go_wp2_with fail
          refine HCR.out.mono ?_
          clear HCR HS
          rintro e wa ⟨Ha, rfl, ha⟩
          have HOP := Lib.hid (S_openedC HLF.out (by have := HI.out; omega) picks cuts ha (.slice bc cuts.length cap3) (.slice b picks.length cap2) ⟨bc, cap3, by rw [List.length_map], HCU.out⟩ ⟨b, cap2, by rw [List.length_map], HP.out⟩ HCK.out HPK.out (by omega))
          clear ha HLF
          go_wp2_with fail
          refine HOP.out.mono ?_
          clear HOP
          rintro e wb ⟨Hb, jhb, Jb, Db, s, rfl, hb, hlb, hlimb, hopsb, hto⟩
          have HB := Lib.hid hb
          have HLB := Lib.hid hlb
          have HOB : Hid (Db.ops ≤ 61) := Lib.hid hopsb
          have HTO := Lib.hid hto
          clear hb hlb hlimb hopsb hto
          have HGS := Lib.hid (show wb.heap[sb]? = some (.cells (stC 30 f) 67 (0, 0)) from HB.out.get (i := 4) rfl)
          have HIS := Lib.hid (S_is HB.out 0 rfl HLB.out (by omega) (by have := HI.out; omega) (by have := HOB.out; omega) f)
          go_wp2_with (first | refine loadSt rfl _ rfl sb rfl f HGS.out ?_)
          refine HIS.out.mono ?_
          clear HIS HB HGS
          rintro e wc2 ⟨rfl, hc⟩
          have HIN := Lib.hid hc
          clear hc
          cases hto1 : isTo s f 30 with
          | true =>
            clear hto1
            go_wp2_with fail
            refine (awake4_any HIN.out).mono ?_
            rintro e w5 ⟨rfl, h5⟩
            have HF5 := Lib.hid h5.base
            clear h5
            go_wp2
            go_ret
            exact ⟨rfl, HF5.out⟩
          | false =>
            have hto2 : isTo s (f) 30 = true := by
              rcases HTO.out with h | h
              · rw [hto1] at h; cases h
              · exact h
            have HGM := Lib.hid (show wc2.heap[mb]? = some (.cells (stC 30 (f)) 67 (0, 0)) from HIN.out.get (i := 5) rfl)
            have HIS := Lib.hid (S_is HIN.out 0 rfl HLB.out (by omega) (by have := HI.out; omega) (by have := HOB.out; omega) (f))
            rw [hto2] at HIS
            clear hto1 hto2 HIN
            go_wp2_with (first | refine loadSt rfl _ rfl mb rfl (f) HGM.out ?_)
            refine HIS.out.mono ?_
            clear HIS HGM
            rintro e wd ⟨rfl, hd⟩
            have HIN := Lib.hid hd
            clear hd
            go_wp2_with fail
            refine (awake4_any HIN.out).mono ?_
            rintro e w5 ⟨rfl, h5⟩
            have HF5 := Lib.hid h5.base
            clear h5
            go_wp2
            go_ret
            exact ⟨rfl, HF5.out⟩
      have hk2 : (p.1 == 2) = false := by simpa using hk2
      have HT := Lib.hid (show St w1 wq (jrn H jh' J' :: arr qb (stC 30 f) 67 neSt :: arr sb (stC 30 f) 67 neSt :: arr mb (stC 30 f) 67 neSt :: dev H D' :: []) from (HQ.out.swap.perm ((List.perm_append_comm (l₁ := [_, _, _]) (l₂ := [_])).append_right [_])))
      have HR6 : Hid (CRel (i + 1) J' D' f) := Lib.hid (HR.out.mono (Nat.le_succ i))
      clear HQ HR
      have HQ6 := Lib.hid (show wq.heap[qb]? = some (.cells (stC 30 (f)) 67 (0, 0)) from HT.out.get (i := 1) rfl)
      have HSB6 := Lib.hid (show wq.heap[sb]? = some (.cells (stC 30 f) 67 (0, 0)) from HT.out.get (i := 2) rfl)
      have H7 := Lib.hid (show St w1 (wq.setRow sb (stC 30 (f))) (jrn H jh' J' :: arr qb (stC 30 (f)) 67 neSt :: arr sb (stC 30 (f)) 67 neSt :: arr mb (stC 30 f) 67 neSt :: dev H D' :: []) from HT.out.setRow 2 rfl (stC 30 (f)))
      have HS7 := Lib.hid (show (wq.setRow sb (stC 30 (f))).heap[sb]? = some (.cells (stC 30 (f)) 67 (0, 0)) from H7.out.get (i := 2) rfl)
      have HM7 := Lib.hid (show (wq.setRow sb (stC 30 (f))).heap[mb]? = some (.cells (stC 30 f) 67 (0, 0)) from H7.out.get (i := 3) rfl)
      have H8 := Lib.hid (show St w1 ((wq.setRow sb (stC 30 (f))).setRow mb (stC 30 (f))) (jrn H jh' J' :: arr qb (stC 30 (f)) 67 neSt :: arr sb (stC 30 (f)) 67 neSt :: arr mb (stC 30 (f)) 67 neSt :: dev H D' :: []) from H7.out.setRow 3 rfl (stC 30 (f)))
      have H9 := Lib.hid (show St w1 ((wq.setRow sb (stC 30 (f))).setRow mb (stC 30 (f))) (arr sb (stC 30 (f)) 67 neSt :: arr mb (stC 30 (f)) 67 neSt :: jrn H jh' J' :: dev H D' :: []) from H8.out.drop2nd.swap.perm (List.Perm.cons _ (List.Perm.swap _ _ _)))
      clear HT H7 H8
      go_wp2_with (first | refine loadSt rfl _ rfl qb rfl (f) HQ6.out ?_ | refine storeSt rfl _ _ rfl sb (f) rfl rfl (stC 30 f) (stC_size _ _) HSB6.out ?_ | refine loadSt rfl _ rfl sb rfl (f) HS7.out ?_ | refine storeSt rfl _ _ rfl mb (f) rfl rfl (stC 30 f) (stC_size _ _) HM7.out ?_)
      first | exact ⟨⟨i + 1, jh', _, _, _, hlt, by go_num, HJB, H9.out, HR6⟩, by simp [intOf]; omega⟩ | (go_roundw; case rel => first | exact ⟨i + 1, jh', _, _, _, hlt, by go_num, HJB, H9.out, HR6⟩ | ((repeat apply Exists.intro); exact ⟨⟨i + 1, jh', _, _, _, hlt, by go_num, HJB, H9.out, HR6⟩, rfl⟩); case measure => simp [intOf]; omega)
    · have hi1 : ¬ (i : Int) < (l.length : Int) := by omega
      have HI : Hid (i ≤ 41) := Lib.hid (by have := H40.out; omega)
      have HS := Lib.hid (show St w1 wr (jrn H jh' J' :: arr sb (stC 30 f) 67 neSt :: arr mb (stC 30 f) 67 neSt :: dev H D' :: []) from HST.out.perm ((List.perm_append_comm (l₁ := [_, _]) (l₂ := [_])).append_right [_]))
      have HLF := Lib.hid (HR.out.left f)
      clear HST HR
      have HE : Hid (Elems wr (.slice b picks.length cap2) (picks.map IntK)) := Lib.hid ((show Elems w1 (.slice b picks.length cap2) (picks.map IntK) from ⟨b, cap2, by rw [List.length_map], HP.out⟩).frm HS.out.base)
      have HCR := Lib.hid (S_Crash HS.out 3 rfl (by have := HLF.out.2.2.1; have := HI.out; omega) _ picks HE.out HPK.out (by omega))
      clear HE
      go_wp2_with fail
      refine HCR.out.mono ?_
      clear HCR HS
      rintro e wa ⟨Ha, rfl, ha⟩
      have HOP := Lib.hid (S_openedC HLF.out (by have := HI.out; omega) picks cuts ha (.slice bc cuts.length cap3) (.slice b picks.length cap2) ⟨bc, cap3, by rw [List.length_map], HCU.out⟩ ⟨b, cap2, by rw [List.length_map], HP.out⟩ HCK.out HPK.out (by omega))
      clear ha HLF
      go_wp2_with fail
      refine HOP.out.mono ?_
      clear HOP
      rintro e wb ⟨Hb, jhb, Jb, Db, s, rfl, hb, hlb, hlimb, hopsb, hto⟩
      have HB := Lib.hid hb
      have HLB := Lib.hid hlb
      have HOB : Hid (Db.ops ≤ 61) := Lib.hid hopsb
      have HTO := Lib.hid hto
      clear hb hlb hlimb hopsb hto
      have HGS := Lib.hid (show wb.heap[sb]? = some (.cells (stC 30 f) 67 (0, 0)) from HB.out.get (i := 4) rfl)
      have HIS := Lib.hid (S_is HB.out 0 rfl HLB.out (by omega) (by have := HI.out; omega) (by have := HOB.out; omega) f)
      go_wp2_with (first | refine loadSt rfl _ rfl sb rfl f HGS.out ?_)
      refine HIS.out.mono ?_
      clear HIS HB HGS
      rintro e wc2 ⟨rfl, hc⟩
      have HIN := Lib.hid hc
      clear hc
      cases hto1 : isTo s f 30 with
      | true =>
        clear hto1
        go_wp2_with fail
        refine (awake4_any HIN.out).mono ?_
        rintro e w5 ⟨rfl, h5⟩
        have HF5 := Lib.hid h5.base
        clear h5
        go_wp2
        go_ret
        exact ⟨rfl, HF5.out⟩
      | false =>
        have hto2 : isTo s f 30 = true := by
          rcases HTO.out with h | h
          · rw [hto1] at h; cases h
          · exact h
        have HGM := Lib.hid (show wc2.heap[mb]? = some (.cells (stC 30 f) 67 (0, 0)) from HIN.out.get (i := 5) rfl)
        have HIS := Lib.hid (S_is HIN.out 0 rfl HLB.out (by omega) (by have := HI.out; omega) (by have := HOB.out; omega) f)
        rw [hto2] at HIS
        clear hto1 hto2 HIN
        go_wp2_with (first | refine loadSt rfl _ rfl mb rfl f HGM.out ?_)
        refine HIS.out.mono ?_
        clear HIS HGM
        rintro e wd ⟨rfl, hd⟩
        have HIN := Lib.hid hd
        clear hd
        go_wp2_with fail
        refine (awake4_any HIN.out).mono ?_
        rintro e w5 ⟨rfl, h5⟩
        have HF5 := Lib.hid h5.base
        clear h5
        go_wp2
        go_ret
        exact ⟨rfl, HF5.out⟩
end Go.Proofs.Ytkanfpmmgaipnaa
