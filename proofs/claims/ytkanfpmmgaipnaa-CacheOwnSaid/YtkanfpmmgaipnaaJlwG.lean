/-
  Homes that others wrote: JournalHomes.
-/
import Derived.Test.YtkanfpmmgaipnaaJlwF
namespace Go.Proofs.Ytkanfpmmgaipnaa
set_option linter.unusedVariables false
open Go.ChangeMaps Go.MapKept Go.RowKit

/-- A journal to which nothing was committed, over a device whose homes others write. -/
structure HRel (J : JSt) (D : DSt) (f : Nat → Int) (i : Nat) : Prop where
  wf : D.Wf
  dn : D.n = 275
  lim : D.lim = none
  ops : D.ops ≤ 100 + i
  gen : J.gen = 1
  last : J.last = 0
  alive : J.dead = false
  ord : J.order = []
  dat : J.data = []
  disk : JDisk 275 1 D.last 0 [] []
  homes : ∀ k, k < 30 → D.last (245 + k) = blockOf (f k)

theorem HRel.start {J : JSt} {D : DSt} (h : Live 275 1 0 J D (fun _ => zeros)) (hlim : D.lim = none) (hops : D.ops ≤ 100) : HRel J D zeroS 0 := by
  obtain ⟨o, dt, hT, hK⟩ := h.disk
  have hl : J.last = 0 := Nat.le_zero.1 h.last
  have hb := last_fun_clean h.clean
  have ho : o = [] ∧ dt = [] := by
    rcases hT.1.chosen with ⟨_, a, b⟩ | ⟨a, _⟩
    · exact ⟨a, b⟩
    · omega
  obtain ⟨rfl, rfl⟩ := ho
  have hJ : J.order = [] ∧ J.data = [] := by
    rcases hK with ⟨a, b⟩ | ⟨a, b, _⟩
    · exact ⟨a, b⟩
    · exact ⟨a, b⟩
  refine ⟨h.wf, h.dn, hlim, by omega, h.gen, hl, h.alive, hJ.1, hJ.2, by rw [hb, ← hl]; exact hT.1, fun k hk => ?_⟩
  have := hT.2 (245 + k) (by omega) (by omega)
  unfold over at this
  rw [hb, this]; rfl

theorem HRel.put {J : JSt} {D : DSt} {f : Nat → Int} {i : Nat} (h : HRel J D f i) (k : Nat) (hk : k < 30) (z : Int) : HRel J (D.op.put (245 + k) (blockOf z)) (setS f k z) (i + 1) := by
  have hw : (D.op.put (245 + k) (blockOf z)).Wf := did_wf (o := .wr (245 + k) (blockOf z)) h.wf ⟨by rw [h.dn]; omega, blockOf_length z⟩
  have hlast := last_put_fun D (245 + k) (blockOf z)
  have hT : TellsAt 275 1 0 [] [] D.last D.last := ⟨h.disk, fun k _ _ => by unfold over; rfl⟩
  have hlim := did_lim (.wr (245 + k) (blockOf z)) D
  have hops := did_ops (.wr (245 + k) (blockOf z)) D
  refine ⟨hw, h.dn, by show (DOp.did (.wr (245 + k) (blockOf z)) D).lim = none; rw [hlim, h.lim]; rfl, by show (DOp.did (.wr (245 + k) (blockOf z)) D).ops ≤ _; rw [hops]; have := h.ops; omega, h.gen, h.last, h.alive, h.ord, h.dat, by rw [hlast]; exact (hT.home (blockOf z) (by omega)).1, fun x hx => ?_⟩
  rw [hlast]
  unfold setB setS
  by_cases e : x = k
  · subst e; rw [if_pos rfl, if_pos rfl]
  · rw [if_neg (by omega), if_neg e]; exact h.homes x hx

theorem HRel.flush {J : JSt} {D : DSt} {f : Nat → Int} {i : Nat} (h : HRel J D f i) : Live 275 1 0 J D.op.flushed D.last ∧ D.op.flushed.lim = none ∧ D.op.flushed.ops ≤ 101 + i ∧ isTo D.last f 30 = true := by
  have hlim := did_lim .fl D
  have hops := did_ops .fl D
  refine ⟨⟨did_wf (o := .fl) h.wf trivial, h.dn, fun k => rfl, h.gen, Nat.le_of_eq h.last, h.alive, [], [], ⟨?_, fun k _ _ => ?_⟩, .inl ⟨h.ord, h.dat⟩⟩, ?_, ?_, (isTo_iff _ _ _).2 h.homes⟩
  · rw [h.last]; exact h.disk
  · unfold over; rfl
  · show (DOp.did .fl D).lim = none; rw [hlim, h.lim]; rfl
  · show (DOp.did .fl D).ops ≤ _; rw [hops]; have := h.ops; omega

set_option maxHeartbeats 2000000 in
set_option maxRecDepth 100000 in
theorem journalHomes_any (w : World) (v u : Value) (l more : List (Int × Int)) (hv : Pairs w v l) (hok : ∀ p ∈ l, okI p.1 ∧ okI p.2) (hl : l.length ≤ maxLen) (hu : Pairs w u more) (hokm : ∀ p ∈ more, okI p.1 ∧ okI p.2) (hlm : more.length ≤ maxLen) :
    Calls Try.prog 16 #[v, u] w fun e w' => e = .returned (.bool true) ∧ Frm NoB w w' := by
  obtain ⟨a, cap, rfl, hcell⟩ := hv
  obtain ⟨b, cap2, rfl, hcell2⟩ := hu
  have hl2 : ((l.length : Nat) : Int) ≤ 9223372036854775807 := by unfold maxLen at hl; omega
  have hl3 : (0 : Int) ≤ ((l.length : Nat) : Int) := Int.natCast_nonneg _
  have hm2 : ((more.length : Nat) : Int) ≤ 9223372036854775807 := by unfold maxLen at hlm; omega
  have hm3 : (0 : Int) ≤ ((more.length : Nat) : Int) := Int.natCast_nonneg _
  by_cases hg : 60 < l.length ∨ 60 < more.length
  · by_cases h1 : (60 : Int) < ((l.length : Nat) : Int)
    · clear hcell hok hl hg hcell2 hokm hlm
      go_enter Try.func16, Try.ntmps16
      go_wp2_with fail
      refine (awake4_any (St.start w)).mono ?_
      rintro e w5 ⟨rfl, h5⟩
      have HF5 := Lib.hid h5.base
      clear h5
      go_wp2
      go_ret
      exact ⟨rfl, HF5.out⟩
    · have h2 : (60 : Int) < ((more.length : Nat) : Int) := by omega
      clear hcell hok hl hg hcell2 hokm hlm
      go_enter Try.func16, Try.ntmps16
      go_wp2_with fail
      refine (awake4_any (St.start w)).mono ?_
      rintro e w5 ⟨rfl, h5⟩
      have HF5 := Lib.hid h5.base
      clear h5
      go_wp2
      go_ret
      exact ⟨rfl, HF5.out⟩
  have hl60 : ¬ (60 : Int) < ((l.length : Nat) : Int) := by omega
  have hm60 : ¬ (60 : Int) < ((more.length : Nat) : Int) := by omega
  have HLL := Lib.hid (And.intro (show l.length ≤ 60 by omega) (show more.length ≤ 60 by omega))
  have HPV : Hid (∀ y, Frm NoB w y → Pairs y (.slice a l.length cap) l) := Lib.hid fun y hy => Pairs.frm ⟨a, cap, rfl, hcell⟩ hy
  have HPU : Hid (∀ y pre, St w y pre → Pairs y (.slice b more.length cap2) more) := Lib.hid fun y pre hy => Pairs.frm ⟨b, cap2, rfl, hcell2⟩ hy.base
  have HOK := Lib.hid hok
  have HOKM := Lib.hid hokm
  have HF := Lib.hid (S_fresh (St.start w))
  clear hcell hok hl hg hl2 hl3 hcell2 hokm hlm hm2 hm3
  go_enter Try.func16, Try.ntmps16
  go_wp2_with fail
  refine HF.out.mono ?_
  clear HF hl60 hm60
  rintro e w1 ⟨H, jh, J, D, rfl, h1, hl1, hlim1, hops1⟩
  have HR1 := Lib.hid (HRel.start hl1 hlim1 hops1)
  have H1 := Lib.hid h1
  clear h1 hl1 hlim1 hops1
  go_upto_region 7 with (fail)
  have H2 := Lib.hid (H1.out.newArr #[.int .i64 0, .int .i64 0, .int .i64 0, .int .i64 0, .int .i64 0, .int .i64 0, .int .i64 0, .int .i64 0, .int .i64 0, .int .i64 0, .int .i64 0, .int .i64 0, .int .i64 0, .int .i64 0, .int .i64 0, .int .i64 0, .int .i64 0, .int .i64 0, .int .i64 0, .int .i64 0, .int .i64 0, .int .i64 0, .int .i64 0, .int .i64 0, .int .i64 0, .int .i64 0, .int .i64 0, .int .i64 0, .int .i64 0, .int .i64 0] 67 neSt)
  obtain ⟨w2, hw2⟩ : ∃ w2, w2 = w1.alloc (.cells #[.int .i64 0, .int .i64 0, .int .i64 0, .int .i64 0, .int .i64 0, .int .i64 0, .int .i64 0, .int .i64 0, .int .i64 0, .int .i64 0, .int .i64 0, .int .i64 0, .int .i64 0, .int .i64 0, .int .i64 0, .int .i64 0, .int .i64 0, .int .i64 0, .int .i64 0, .int .i64 0, .int .i64 0, .int .i64 0, .int .i64 0, .int .i64 0, .int .i64 0, .int .i64 0, .int .i64 0, .int .i64 0, .int .i64 0, .int .i64 0] 67 (0, 0)) := ⟨_, rfl⟩
  rw [← hw2] at H2 ⊢
  rw [show (#[.int .i64 0, .int .i64 0, .int .i64 0, .int .i64 0, .int .i64 0, .int .i64 0, .int .i64 0, .int .i64 0, .int .i64 0, .int .i64 0, .int .i64 0, .int .i64 0, .int .i64 0, .int .i64 0, .int .i64 0, .int .i64 0, .int .i64 0, .int .i64 0, .int .i64 0, .int .i64 0, .int .i64 0, .int .i64 0, .int .i64 0, .int .i64 0, .int .i64 0, .int .i64 0, .int .i64 0, .int .i64 0, .int .i64 0, .int .i64 0] : Array Value) = stC 30 zeroS from rfl] at H2
  clear hw2 H1
  generalize w1.heap.size = sb at *
  have H2 := Lib.hid (show St w w2 (arr sb (stC 30 zeroS) 67 neSt :: jrn H jh J :: dev H D :: []) from H2.out)
  go_wp2_with fail
  go_loopw [9, 10] (fun t9 t10 wr => ∃ (i : Nat) (D' : DSt) (f : Nat → Int), i ≤ l.length ∧ t9 = .int .i64 i ∧ St w wr (arr sb (stC 30 f) 67 neSt :: jrn H jh J :: dev H D' :: []) ∧ Hid (HRel J D' f i)) (fun t9 _ _ => l.length - (intOf t9).toNat)
  case atStart => exact ⟨0, D, zeroS, Nat.zero_le _, rfl, H2.out, HR1⟩
  case round =>
    clear H2 HR1
    obtain ⟨i, D', f, hi, rfl, hst, HR⟩ := hrel
    have HST := Lib.hid hst
    clear hst
    by_cases hlt : i < l.length
    · have hi0 : (0 : Int) ≤ (i : Int) := Int.natCast_nonneg _
      have hi1 : (i : Int) < (l.length : Int) := by omega
      have hi2 : (i : Int) < 60 := by have := HLL.out.1; omega
      obtain ⟨p, hp⟩ : ∃ p, l[i]? = some p := ⟨_, List.getElem?_eq_getElem hlt⟩
      obtain ⟨_, _, e0, hcl⟩ := HPV.out wr HST.out.base
      injection e0 with e1 e2 e3
      subst e1
      clear e2 e3
      obtain ⟨gb, go, rfl, _, c1, c2⟩ := hcl i p hp
      have HPK := Lib.hid (HOK.out p (List.mem_of_getElem? hp))
      obtain ⟨x, y⟩ := p
      simp only at c1 c2 HPK
      obtain ⟨q, hq⟩ : ∃ q : Nat, x % 30 = (q : Int) := ⟨(x % 30).toNat, by omega⟩
      have hq30 : q < 30 := by omega
      have hq0 : (0 : Int) ≤ (q : Int) := Int.natCast_nonneg _
      have hq1 : (q : Int) < 30 := by omega
      obtain ⟨z, hz⟩ : ∃ z, y % 200 = z := ⟨_, rfl⟩
      clear hcl hp
      go_wp2_with fail
      refine (Round_any _ x 30 HPK.out.1 (by omega) (by omega)).mono ?_
      rintro e w4 ⟨rfl, rfl⟩
      rw [hq]
      go_wp2_with fail
      refine (Round_any _ y 200 HPK.out.2 (by omega) (by omega)).mono ?_
      rintro e w5 ⟨rfl, rfl⟩
      rw [hz]
      have c7 : wr.cell? ⟨sb, q, none⟩ = some (.int .i64 (f q)) := (HST.out.arrCell (i := 0) rfl q).trans (stC_get 30 f q hq30)
      have f7 : wr.frozen? ⟨sb, q, none⟩ = false := HST.out.arrFree (i := 0) rfl q
      have h8 := HST.out.setArr 0 rfl q (.int .i64 z)
      rw [stC_set] at h8
      have H8 : Hid (St w (wr.setCell ⟨sb, q, none⟩ (.int .i64 z)) (arr sb (stC 30 (setS f q z)) 67 neSt :: jrn H jh J :: dev H D' :: [])) := Lib.hid h8
      have c8 : (wr.setCell ⟨sb, q, none⟩ (.int .i64 z)).cell? ⟨sb, q, none⟩ = some (.int .i64 z) := (H8.out.arrCell (i := 0) rfl q).trans ((stC_get 30 _ q hq30).trans (by unfold setS; rw [if_pos rfl]))
      clear h8 HST hq hz
      go_wp2_with fail
      refine (S_Block H8.out z).mono ?_
      rintro e w6 ⟨bv, rfl, h6⟩
      have HW := Lib.hid (S_Write h6 3 0 rfl rfl (245 + (q : Int)) (by have := HR.out.ops; have := HLL.out.1; omega) (off_of_lim HR.out.lim) (by omega) (by rw [HR.out.dn]; omega) (blockOf_length z))
      rw [show (245 + (q : Int)).toNat = 245 + q from by omega] at HW
      clear h6 H8 c7 f7 c8 c1 c2
      go_wp2_with fail
      refine HW.out.mono ?_
      clear HW
      rintro e w7 ⟨rfl, h7⟩
      have H9 := Lib.hid (show St w w7 (arr sb (stC 30 (setS f q z)) 67 neSt :: jrn H jh J :: dev H (D'.op.put (245 + q) (blockOf z)) :: []) from h7.drop 1)
      have HR2 := Lib.hid (HR.out.put q hq30 z)
      clear h7
      go_wp2
      first | exact ⟨⟨i + 1, _, _, hlt, by go_num, H9.out, HR2⟩, by simp [intOf]; omega⟩ | (go_roundw; case rel => first | exact ⟨i + 1, _, _, hlt, by go_num, H9.out, HR2⟩ | ((repeat apply Exists.intro); exact ⟨⟨i + 1, _, _, hlt, by go_num, H9.out, HR2⟩, rfl⟩); case measure => simp [intOf]; omega)
    · have hi1 : ¬ (i : Int) < (l.length : Int) := by omega
      have HFL := Lib.hid (S_Flush HST.out 2 rfl (by have := HR.out.ops; have := HLL.out.1; omega) (off_of_lim HR.out.lim))
      have HFF := Lib.hid HR.out.flush
      have HI : Hid (i ≤ 60) := Lib.hid (by have := HLL.out.1; omega)
      clear HST
      go_wp2_with fail
      refine HFL.out.mono ?_
      clear HFL
      rintro e w3 ⟨rfl, h3⟩
      have H3 := Lib.hid (show St w w3 (jrn H jh J :: arr sb (stC 30 f) 67 neSt :: dev H D'.op.flushed :: []) from (show St w w3 (arr sb (stC 30 f) 67 neSt :: jrn H jh J :: dev H D'.op.flushed :: []) from h3).swap)
      have HG3 := Lib.hid (show w3.heap[sb]? = some (.cells (stC 30 f) 67 (0, 0)) from H3.out.get (i := 1) rfl)
      have HIS := Lib.hid (S_is H3.out 1 rfl HFF.out.1 (by omega) (by omega) (by have := HFF.out.2.2.1; have := HI.out; omega) f)
      rw [HFF.out.2.2.2] at HIS
      clear h3
      go_wp2_with (refine loadSt rfl _ rfl sb rfl f HG3.out ?_)
      refine HIS.out.mono ?_
      clear HIS H3 HG3
      rintro e w4 ⟨rfl, h4⟩
      have H4 := Lib.hid h4
      have HG4 := Lib.hid (show w4.heap[sb]? = some (.cells (stC 30 f) 67 (0, 0)) from H4.out.get (i := 1) rfl)
      clear h4
      obtain ⟨R, hR⟩ : ∃ R, chTo more f more.length = R := ⟨_, rfl⟩
      have HRK : Hid (ChOk 275 f R) := Lib.hid (hR ▸ chTo_ok 275 more f more.length)
      have HCH := Lib.hid (S_changes H4.out (.slice b more.length cap2) more f (fun y pre hy => HPU.out y _ hy) HOKM.out (by have := HLL.out.2; omega))
      rw [hR] at HCH
      clear hR
      go_wp2_with (refine loadSt rfl _ rfl sb rfl f HG4.out ?_)
      refine HCH.out.mono ?_
      clear HCH HG4 H4
      rintro e w5 ⟨v5, vs, rfl, h5⟩
      have HX5 := Lib.hid (h5.newArr #[.int .i64 0, .int .i64 0, .int .i64 0, .int .i64 0, .int .i64 0, .int .i64 0, .int .i64 0, .int .i64 0, .int .i64 0, .int .i64 0, .int .i64 0, .int .i64 0, .int .i64 0, .int .i64 0, .int .i64 0, .int .i64 0, .int .i64 0, .int .i64 0, .int .i64 0, .int .i64 0, .int .i64 0, .int .i64 0, .int .i64 0, .int .i64 0, .int .i64 0, .int .i64 0, .int .i64 0, .int .i64 0, .int .i64 0, .int .i64 0] 67 neSt)
      have HN5 : Hid ((w5.alloc (.cells #[.int .i64 0, .int .i64 0, .int .i64 0, .int .i64 0, .int .i64 0, .int .i64 0, .int .i64 0, .int .i64 0, .int .i64 0, .int .i64 0, .int .i64 0, .int .i64 0, .int .i64 0, .int .i64 0, .int .i64 0, .int .i64 0, .int .i64 0, .int .i64 0, .int .i64 0, .int .i64 0, .int .i64 0, .int .i64 0, .int .i64 0, .int .i64 0, .int .i64 0, .int .i64 0, .int .i64 0, .int .i64 0, .int .i64 0, .int .i64 0] 67 (0, 0))).heap[w5.heap.size]? = some (.cells #[.int .i64 0, .int .i64 0, .int .i64 0, .int .i64 0, .int .i64 0, .int .i64 0, .int .i64 0, .int .i64 0, .int .i64 0, .int .i64 0, .int .i64 0, .int .i64 0, .int .i64 0, .int .i64 0, .int .i64 0, .int .i64 0, .int .i64 0, .int .i64 0, .int .i64 0, .int .i64 0, .int .i64 0, .int .i64 0, .int .i64 0, .int .i64 0, .int .i64 0, .int .i64 0, .int .i64 0, .int .i64 0, .int .i64 0, .int .i64 0] 67 (0, 0))) := Lib.hid (block_alloc_new _ _)
      have h6 := HX5.out.setRow 0 rfl (stC 30 R.2.2)
      have H6 := Lib.hid (show St w _ (arr w5.heap.size (stC 30 R.2.2) 67 neSt :: chgs v5 ((chK R).map fun k : Nat => (k : Int)) vs (chD R) :: jrn H jh J :: arr sb (stC 30 f) 67 neSt :: dev H D'.op.flushed :: []) from h6)
      have H6 := Lib.hid (H6.out.perm ((List.perm_append_comm (l₁ := [_, _]) (l₂ := [_])).append_right _))
      clear h5 h6 HX5
      go_wp2_with (refine wpList_store_row rfl _ _ _ rfl w5.heap.size (stC 30 R.2.2) rfl rfl _ _ HN5.out (infoSt _) (by rw [stC_size]; rfl) (stC_one _ _) ?_)
      obtain ⟨w6, hw6⟩ : ∃ w6, w6 = (w5.alloc (.cells #[.int .i64 0, .int .i64 0, .int .i64 0, .int .i64 0, .int .i64 0, .int .i64 0, .int .i64 0, .int .i64 0, .int .i64 0, .int .i64 0, .int .i64 0, .int .i64 0, .int .i64 0, .int .i64 0, .int .i64 0, .int .i64 0, .int .i64 0, .int .i64 0, .int .i64 0, .int .i64 0, .int .i64 0, .int .i64 0, .int .i64 0, .int .i64 0, .int .i64 0, .int .i64 0, .int .i64 0, .int .i64 0, .int .i64 0, .int .i64 0] 67 (0, 0))).setRow w5.heap.size (stC 30 R.2.2) := ⟨_, rfl⟩
      rw [← hw6] at H6 ⊢
      clear hw6 HN5
      generalize w5.heap.size = tb at *
      have H6 := Lib.hid (show St w w6 (jrn H jh J :: arr tb (stC 30 R.2.2) 67 neSt :: chgs v5 ((chK R).map fun k : Nat => (k : Int)) vs (chD R) :: arr sb (stC 30 f) 67 neSt :: dev H D'.op.flushed :: []) from H6.out)
      have HCM := Lib.hid (S_CommitL H6.out 3 1 rfl rfl HFF.out.1 (HRK.out.may (by omega)) (chD_512 R) (by omega) (by omega) (by omega) (by omega) (by have := HFF.out.2.2.1; have := HI.out; omega) HFF.out.2.1 (by omega))
      have HT : Hid (isTo (over (chK R) (chD R) D'.last) R.2.2 30 = true) := Lib.hid (isTo_over HRK.out HFF.out.2.2.2)
      obtain ⟨s2, hs2⟩ : ∃ s2, over (chK R) (chD R) D'.last = s2 := ⟨_, rfl⟩
      rw [hs2] at HCM HT
      have HOP : Hid (D'.op.flushed.ops ≤ 161) := Lib.hid (by have := HFF.out.2.2.1; have := HI.out; omega)
      clear HFF HR HI hs2
      go_wp2_with fail
      refine HCM.out.mono ?_
      clear HCM
      rintro e w7 ⟨jh7, J7, D7, hjb, rfl, h7, hl7, hlim7, hops7⟩
      have H7 := Lib.hid (show St w w7 (jrn H jh7 J7 :: arr tb (stC 30 R.2.2) 67 neSt :: chgs v5 ((chK R).map fun k : Nat => (k : Int)) vs (chD R) :: arr sb (stC 30 f) 67 neSt :: dev H D7 :: []) from h7)
      have HL7 := Lib.hid hl7
      have HOP7 : Hid (D7.ops ≤ 300) := Lib.hid (by have := HOP.out; omega)
      clear h7 hl7 hlim7 hops7 hjb H6
      have HCR := Lib.hid (S_Crash H7.out 4 rfl (by have := HOP7.out; omega) (.slice none 0 0) [] ⟨none, 0, rfl, fun i x hx => by simp at hx⟩ (fun _ h => by cases h) (by decide))
      go_wp2_with fail
      refine HCR.out.mono ?_
      clear HCR H7
      rintro e w8 ⟨H8, rfl, h8⟩
      have HX8 := Lib.hid (show St w w8 (dev H8 (D7.crash []) :: jrn H jh7 J7 :: arr tb (stC 30 R.2.2) 67 neSt :: chgs v5 ((chK R).map fun k : Nat => (k : Int)) vs (chD R) :: arr sb (stC 30 f) 67 neSt :: dev H D7 :: []) from h8)
      clear h8
      obtain ⟨p1, p2, p3, p4, p5, p6⟩ := HL7.out.wf' []
      have HOPN := Lib.hid (S_opened HX8.out 0 rfl p1 p2 p3 p4 (by omega) (by omega) (by omega) (by omega) p5 _ _ [] [] ⟨none, 0, rfl, fun i x hx => by simp at hx⟩ ⟨none, 0, rfl, fun i x hx => by simp at hx⟩ (fun _ h => by cases h) (fun _ h => by cases h) (by decide))
      clear p1 p2 p3 p4 p5 p6
      go_wp2_with fail
      refine HOPN.out.mono ?_
      clear HOPN HX8
      rintro e w10 ⟨H10, jh10, J10, D10, rfl, h10, hl10, hlim10, hops10⟩
      have HX := Lib.hid (show St w w10 (jrn H10 jh10 J10 :: dev H10 D10 :: voidR :: jrn H jh7 J7 :: arr tb (stC 30 R.2.2) 67 neSt :: chgs v5 ((chK R).map fun k : Nat => (k : Int)) vs (chD R) :: arr sb (stC 30 f) 67 neSt :: dev H D7 :: []) from h10)
      have HG := Lib.hid (show w10.heap[tb]? = some (.cells (stC 30 R.2.2) 67 (0, 0)) from HX.out.get (i := 4) rfl)
      have HIS := Lib.hid (S_is HX.out 0 rfl hl10 (by omega) (by omega) (by have h0 : (D7.crash []).ops = 0 := rfl; omega) R.2.2)
      rw [HT.out] at HIS
      clear h10 hl10 hlim10 hops10
      go_wp2_with (refine loadSt rfl _ rfl tb rfl R.2.2 HG.out ?_)
      refine HIS.out.mono ?_
      clear HIS HX HG
      rintro e w11 ⟨rfl, h11⟩
      have H11 := Lib.hid h11
      clear h11
      go_wp2_with fail
      refine (awake4_any H11.out).mono ?_
      rintro e w12 ⟨rfl, h12⟩
      have HF12 := Lib.hid h12.base
      clear h12
      go_wp2
      go_ret
      exact ⟨rfl, HF12.out⟩
end Go.Proofs.Ytkanfpmmgaipnaa
