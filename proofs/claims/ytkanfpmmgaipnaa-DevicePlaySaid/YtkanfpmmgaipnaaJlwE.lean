/-
  Commits and Syncs over a device that may be cut; JournalDead.
-/
import Derived.Test.YtkanfpmmgaipnaaJlwD
namespace Go.Proofs.Ytkanfpmmgaipnaa
set_option linter.unusedVariables false
open Go.ChangeMaps Go.MapKept Go.RowKit

theorem After.crash {n g m : Nat} {s t : Nat → Blk} {D D' : DSt} (h : After n g m s t D D') (picks : List Int) : (D'.crash picks).Wf ∧ (D'.crash picks).n = n ∧ (∀ k, (D'.crash picks).pend k = []) ∧ (D'.crash picks).lim = none ∧ (D'.crash picks).ops = 0 ∧ (Tells n g m s (D'.crash picks).base ∨ Tells n g m t (D'.crash picks).base) :=
  ⟨DSt.crash_wf h.wf picks, h.dn, fun _ => rfl, rfl, rfl, h.safe _ (img_crash D' picks)⟩

/-- What a commit answers, over a device that may be cut. -/
def CommitCRet (w0 : Gnd) (rs : List Res) (a : Nat) (H : Hdl) (jb n g m : Nat) (s t : Nat → Blk) (D : DSt) (e : Ending) (w' : World) : Prop :=
  ∃ jh' J' D', jh'.jb = jb ∧ St w0 w' (jrn H jh' J' :: rs.set a (dev H D')) ∧ After n g (m + 1) s t D D' ∧ ((e = .returned (.int .i64 0) ∧ Live n g (m + 1) J' D' t) ∨ (e = .returned (.int .i64 9) ∧ J'.dead = true))

theorem S_CommitC {w0 : Gnd} {w : World} {rs : List Res} {H : Hdl} {jh : JHdl} {J : JSt} (h : St w0 w (jrn H jh J :: rs)) (a iv : Nat) {D : DSt} (hr : rs[a]? = some (dev H D)) {v : Value} {ks : List Nat} {vs : List Value} {ds : List Blk} (hl : rs[iv]? = some (chgs v (ks.map fun k : Nat => (k : Int)) vs ds))
    {n g m : Nat} {s : Nat → Blk} (hL : Live n g m J D s) (hmay : MayL n ks ds) (hd512 : ∀ d ∈ ds, d.length = 512) (h246 : 246 ≤ n) (hn : n ≤ 65536) (hm : m < 18446744073709551615) (hg : g < 18446744073709551616) (ho : D.ops < 1000000000) (q : iv ≠ a) :
    Calls Try.prog 47 #[.pointer (some ⟨jh.jb, 0, none⟩), v] w (CommitCRet w0 rs a H jh.jb n g m s (over ks ds s) D) := by
  have hdn := hL.dn
  by_cases hk : ks = []
  · subst hk
    have hds : ds = [] := List.eq_nil_of_length_eq_zero hmay.len
    subst hds
    have hvs : vs = [] := by
      have := (h.get (i := iv + 1) hl).2.1
      exact List.eq_nil_of_length_eq_zero (by simpa using this)
    subst hvs
    refine (S_CommitNone h a iv hr hl).mono ?_
    rintro e w' ⟨he, hst⟩
    have e1 : rs.set a (dev H D) = rs := by
      obtain ⟨h1, h2⟩ := List.getElem?_eq_some_iff.1 hr
      rw [← h2]; exact List.set_getElem_self h1
    refine ⟨jh, J, D, rfl, by rw [e1]; exact hst, ⟨hL.wf, hdn, by omega, Safe.clean hL.clean (.inl (hL.tells.mono (by omega)))⟩, .inl ⟨he, (hL.mono (Nat.le_succ m)).congr (fun k _ _ => by unfold over; rfl)⟩⟩
  · obtain ⟨hA, hB⟩ := hL.commit hmay hd512 h246 hn hg hm
    refine (S_Commit h a iv hr hl (hL.ok hg hm) hL.alive (by rw [hdn]; exact hmay) hd512 (by omega) (by omega) ho hk q).mono ?_
    rintro e w' (⟨h0, he, jh', hjb, hst⟩ | ⟨h9, he, jh', hjb, hst⟩)
    · exact ⟨jh', _, _, hjb, hst, hA, .inl ⟨he, hB h0⟩⟩
    · exact ⟨jh', _, _, hjb, hst, hA, .inr ⟨he, rfl⟩⟩

theorem S_SyncC {w0 : Gnd} {w : World} {rs : List Res} {H : Hdl} {jh : JHdl} {J : JSt} (h : St w0 w (jrn H jh J :: rs)) (a : Nat) {D : DSt} (hr : rs[a]? = some (dev H D)) {n g m : Nat} {s : Nat → Blk} (hL : Live n g m J D s) (h246 : 246 ≤ n) (hn : n ≤ 65536) (hm : m < 18446744073709551615) (hg : g < 18446744073709551616) (ho : D.ops < 1000000000) :
    Calls Try.prog 54 #[.pointer (some ⟨jh.jb, 0, none⟩)] w (CommitCRet w0 rs a H jh.jb n g m s s D) := by
  have hdn := hL.dn
  obtain ⟨hA, hB⟩ := hL.commit (mayNil n) (fun d hd => by cases hd) h246 hn hg hm
  have ho2 : over [] [] s = s := by funext k; unfold over; rfl
  rw [ho2] at hA hB
  refine (S_Sync h a hr (hL.ok hg hm) hL.alive (by omega) (by omega) ho).mono ?_
  rintro e w' (⟨h0, he, jh', hjb, hst⟩ | ⟨h9, he, jh', hjb, hst⟩)
  · exact ⟨jh', _, _, hjb, hst, hA, .inl ⟨he, hB h0⟩⟩
  · exact ⟨jh', _, _, hjb, hst, hA, .inr ⟨he, rfl⟩⟩

theorem over_twice (ks : List Nat) (ds : List Blk) (s : Nat → Blk) (h : ds.length = ks.length) : over ks ds (over ks ds s) = over ks ds s := by
  funext k
  by_cases hk : k ∈ ks
  · exact over_congr ks ds _ _ k h (fun hn => absurd hk hn)
  · rw [over_not _ _ _ _ hk]

def zeroS : Nat → Int := fun _ => 0
theorem zero_view (k : Nat) : (fun _ : Nat => zeros) (245 + k) = blockOf (zeroS k) := rfl

/-- The device may be cut as it lives. -/
theorem Live.cut {n g m : Nat} {J : JSt} {D : DSt} {s : Nat → Blk} (h : Live n g m J D s) (c : Int) : Live n g m J (D.cut c) s :=
  ⟨DSt.cut_wf h.wf c, h.dn, h.clean, h.gen, h.last, h.alive, h.disk⟩

/-- What holds of the journal and its device while the same is committed again and again. -/
def DeadRel (T : Nat → Blk) (i : Nat) (b : Bool) (J : JSt) (D : DSt) : Prop :=
  D.ops ≤ 100 + 123 * i ∧ ((b = false ∧ (Live 275 1 i J D (fun _ => zeros) ∨ Live 275 1 i J D T)) ∨ (b = true ∧ J.dead = true ∧ D.Wf ∧ D.n = 275 ∧ Safe D (fun C => Tells 275 1 i (fun _ => zeros) C ∨ Tells 275 1 i T C)))

theorem isTo_over {f : Nat → Int} {r : List Nat × List Int × (Nat → Int)} {n : Nat} (h : ChOk n f r) {s : Nat → Blk} (hs : isTo s f 30 = true) : isTo (over (chK r) (chD r) s) r.2.2 30 = true :=
  (isTo_iff _ _ _).2 (h.view s ((isTo_iff _ _ _).1 hs))

theorem isTo_zero : isTo (fun _ => zeros) zeroS 30 = true := (isTo_iff _ _ _).2 fun k _ => rfl

/-- One commit more of the same. -/
theorem DeadRel.step {w0 : Gnd} {w : World} {rs : List Res} {H : Hdl} {jh : JHdl} {J : JSt} (h : St w0 w (jrn H jh J :: rs)) (a iv : Nat) {D : DSt} (hr : rs[a]? = some (dev H D)) {v : Value} {ks : List Nat} {vs : List Value} {ds : List Blk} (hl : rs[iv]? = some (chgs v (ks.map fun k : Nat => (k : Int)) vs ds))
    {i : Nat} (hR : DeadRel (over ks ds fun _ => zeros) i false J D) (hmay : MayL 275 ks ds) (hd512 : ∀ d ∈ ds, d.length = 512) (hi : i ≤ 1000) (q : iv ≠ a) :
    Calls Try.prog 47 #[.pointer (some ⟨jh.jb, 0, none⟩), v] w fun e w' => ∃ jh' J' D' b, jh'.jb = jh.jb ∧ St w0 w' (jrn H jh' J' :: rs.set a (dev H D')) ∧ DeadRel (over ks ds fun _ => zeros) (i + 1) b J' D' ∧ e = .returned (.int .i64 (if b then 9 else 0)) := by
  obtain ⟨ho, hc⟩ := hR
  rcases hc with ⟨_, hc⟩ | ⟨hb, _⟩
  · have key : ∀ s, (s = (fun _ => zeros) ∨ s = over ks ds (fun _ => zeros)) → Live 275 1 i J D s → Calls Try.prog 47 #[.pointer (some ⟨jh.jb, 0, none⟩), v] w fun e w' => ∃ jh' J' D' b, jh'.jb = jh.jb ∧ St w0 w' (jrn H jh' J' :: rs.set a (dev H D')) ∧ DeadRel (over ks ds fun _ => zeros) (i + 1) b J' D' ∧ e = .returned (.int .i64 (if b then 9 else 0)) := by
      intro s hs hL
      have hov : over ks ds s = over ks ds (fun _ => zeros) := by
        rcases hs with rfl | rfl
        · rfl
        · exact over_twice _ _ _ hmay.len
      refine (S_CommitC h a iv hr hl hL hmay hd512 (by omega) (by omega) (by omega) (by omega) (by omega) q).mono ?_
      rintro e w' ⟨jh', J', D', hjb, hst, hA, hC⟩
      rw [hov] at hA hC
      have hops := hA.ops
      rcases hC with ⟨he, hL'⟩ | ⟨he, hd⟩
      · exact ⟨jh', J', D', false, hjb, hst, ⟨by omega, .inl ⟨rfl, .inr hL'⟩⟩, he⟩
      · refine ⟨jh', J', D', true, hjb, hst, ⟨by omega, .inr ⟨rfl, hd, hA.wf, hA.dn, hA.safe.mono fun C hC => ?_⟩⟩, he⟩
        rcases hC with hC | hC
        · rcases hs with rfl | rfl
          · exact .inl hC
          · exact .inr hC
        · exact .inr hC
    rcases hc with hc | hc
    · exact key _ (.inl rfl) hc
    · exact key _ (.inr rfl) hc
  · cases hb

set_option maxHeartbeats 2000000 in
set_option maxRecDepth 100000 in
theorem journalDead_any (w : World) (n : Int) (v : Value) (l : List (Int × Int)) (hv : Pairs w v l) (hok : ∀ p ∈ l, okI p.1 ∧ okI p.2) (hl : l.length ≤ maxLen) :
    Calls Try.prog 20 #[.int .i64 n, v] w fun e w' => e = .returned (.bool true) ∧ Frm NoB w w' := by
  obtain ⟨a, cap, rfl, hcell⟩ := hv
  have hl2 : ((l.length : Nat) : Int) ≤ 9223372036854775807 := by unfold maxLen at hl; omega
  have hl3 : (0 : Int) ≤ ((l.length : Nat) : Int) := Int.natCast_nonneg _
  by_cases hg : n < 0 ∨ 300 < n ∨ 50 < l.length ∨ l.length = 0
  · rcases hg with hg | hg | hg | hg
    · clear hcell hok hl
      go_enter Try.func20, Try.ntmps20
      go_wp2_with fail
      refine (awake4_any (St.start w)).mono ?_
      rintro e w5 ⟨rfl, h5⟩
      have HF5 := Lib.hid h5.base
      clear h5
      go_wp2
      go_ret
      exact ⟨rfl, HF5.out⟩
    · have hg2 : ¬ n < 0 := by omega
      clear hcell hok hl
      go_enter Try.func20, Try.ntmps20
      go_wp2_with fail
      refine (awake4_any (St.start w)).mono ?_
      rintro e w5 ⟨rfl, h5⟩
      have HF5 := Lib.hid h5.base
      clear h5
      go_wp2
      go_ret
      exact ⟨rfl, HF5.out⟩
    all_goals
      have hg3 : (50 : Int) < ((l.length : Nat) : Int) ∨ ((l.length : Nat) : Int) = 0 := by omega
      by_cases hg1 : n < 0
      · clear hcell hok hl
        go_enter Try.func20, Try.ntmps20
        go_wp2_with fail
        refine (awake4_any (St.start w)).mono ?_
        rintro e w5 ⟨rfl, h5⟩
        have HF5 := Lib.hid h5.base
        clear h5
        go_wp2
        go_ret
        exact ⟨rfl, HF5.out⟩
      · by_cases hg2 : 300 < n
        · clear hcell hok hl
          go_enter Try.func20, Try.ntmps20
          go_wp2_with fail
          refine (awake4_any (St.start w)).mono ?_
          rintro e w5 ⟨rfl, h5⟩
          have HF5 := Lib.hid h5.base
          clear h5
          go_wp2
          go_ret
          exact ⟨rfl, HF5.out⟩
        · obtain ⟨m, hm⟩ : ∃ m, l.length = m := ⟨_, rfl⟩
          rw [hm] at hg hg3 hl2 hl3 ⊢
          clear hcell hok hl hm hl2 hl3
          rcases hg3 with h3 | h3
          · go_enter Try.func20, Try.ntmps20
            go_wp2_with fail
            refine (awake4_any (St.start w)).mono ?_
            rintro e w5 ⟨rfl, h5⟩
            have HF5 := Lib.hid h5.base
            clear h5
            go_wp2
            go_ret
            exact ⟨rfl, HF5.out⟩
          · obtain rfl : m = 0 := by omega
            go_enter Try.func20, Try.ntmps20
            go_wp2_with fail
            refine (awake4_any (St.start w)).mono ?_
            rintro e w5 ⟨rfl, h5⟩
            have HF5 := Lib.hid h5.base
            clear h5
            go_wp2
            go_ret
            exact ⟨rfl, HF5.out⟩
  have hn0 : ¬ n < 0 := by omega
  have hn300 : ¬ 300 < n := by omega
  have hl50 : ¬ (50 : Int) < ((l.length : Nat) : Int) := by omega
  have hl0 : (((l.length : Nat) : Int) == 0) = false := by rw [beq_eq_false_iff_ne]; omega
  have HLL := Lib.hid (And.intro (show l.length ≤ 50 by omega) (show l.length ≠ 0 by omega))
  have hon : okI n := (okI_iff n).2 (by omega)
  have HON := Lib.hid hon
  have HPV : Hid (∀ y pre, St w y pre → Pairs y (.slice a l.length cap) l) := Lib.hid fun y pre hy => Pairs.frm ⟨a, cap, rfl, hcell⟩ hy.base
  have HOK := Lib.hid hok
  have HF := Lib.hid (S_fresh (St.start w))
  obtain ⟨R, hR⟩ : ∃ R, chTo l zeroS l.length = R := ⟨_, rfl⟩
  have HRK : Hid (ChOk 275 zeroS R) := Lib.hid (hR ▸ chTo_ok 275 l zeroS l.length)
  have HNE : Hid (chK R ≠ []) := Lib.hid (by
    intro e
    have h1 : R.1 = [] := by unfold chK at e; exact List.map_eq_nil_iff.1 e
    have h2 : ∀ i, 0 < i → (chTo l zeroS i).1 ≠ [] := by
      intro i
      induction i with
      | zero => intro h; omega
      | succ i ih =>
        intro _
        unfold chTo
        simp only
        split
        · rename_i hc
          intro e2
          rw [e2] at hc
          cases hc
        · simp
    exact h2 l.length (by omega) (by rw [hR]; exact h1))
  have HRR := Lib.hid hR
  clear hcell hok hl hg hl2 hl3 hon hR
  go_enter Try.func20, Try.ntmps20
  go_wp2_with fail
  refine HF.out.mono ?_
  clear HF hl0 hl50 hn0 hn300
  rintro e w1 ⟨H, jh, J, D, rfl, h1, hl1, hlim1, hops1⟩
  have HL1 := Lib.hid (hl1.cut n)
  have HOP : Hid ((D.cut n).ops ≤ 100) := Lib.hid hops1
  have H1 := Lib.hid h1
  clear h1 hl1 hlim1 hops1
  go_upto_region 7 with (fail)
  have H2 := Lib.hid ((H1.out.newArr #[.int .i64 0, .int .i64 0, .int .i64 0, .int .i64 0, .int .i64 0, .int .i64 0, .int .i64 0, .int .i64 0, .int .i64 0, .int .i64 0, .int .i64 0, .int .i64 0, .int .i64 0, .int .i64 0, .int .i64 0, .int .i64 0, .int .i64 0, .int .i64 0, .int .i64 0, .int .i64 0, .int .i64 0, .int .i64 0, .int .i64 0, .int .i64 0, .int .i64 0, .int .i64 0, .int .i64 0, .int .i64 0, .int .i64 0, .int .i64 0] 67 neSt).swap)
  obtain ⟨w2, hw2⟩ : ∃ w2, w2 = w1.alloc (.cells #[.int .i64 0, .int .i64 0, .int .i64 0, .int .i64 0, .int .i64 0, .int .i64 0, .int .i64 0, .int .i64 0, .int .i64 0, .int .i64 0, .int .i64 0, .int .i64 0, .int .i64 0, .int .i64 0, .int .i64 0, .int .i64 0, .int .i64 0, .int .i64 0, .int .i64 0, .int .i64 0, .int .i64 0, .int .i64 0, .int .i64 0, .int .i64 0, .int .i64 0, .int .i64 0, .int .i64 0, .int .i64 0, .int .i64 0, .int .i64 0] 67 (0, 0)) := ⟨_, rfl⟩
  rw [← hw2] at H2 ⊢
  rw [show (#[.int .i64 0, .int .i64 0, .int .i64 0, .int .i64 0, .int .i64 0, .int .i64 0, .int .i64 0, .int .i64 0, .int .i64 0, .int .i64 0, .int .i64 0, .int .i64 0, .int .i64 0, .int .i64 0, .int .i64 0, .int .i64 0, .int .i64 0, .int .i64 0, .int .i64 0, .int .i64 0, .int .i64 0, .int .i64 0, .int .i64 0, .int .i64 0, .int .i64 0, .int .i64 0, .int .i64 0, .int .i64 0, .int .i64 0, .int .i64 0] : Array Value) = stC 30 zeroS from rfl] at H2
  clear hw2 H1
  generalize w1.heap.size = sb at *
  have HCT := Lib.hid (S_Cut H2.out 2 rfl n HON.out)
  go_wp2_with fail
  refine HCT.out.mono ?_
  clear HCT H2
  rintro e w3 ⟨rfl, h3⟩
  have H3 := Lib.hid (show St w w3 (jrn H jh J :: arr sb (stC 30 zeroS) 67 neSt :: dev H (D.cut n) :: []) from h3)
  have HG3 : Hid (w3.heap[sb]? = some (.cells (stC 30 zeroS) 67 (0, 0))) := Lib.hid (H3.out.get (i := 1) rfl)
  clear h3
  go_wp2_with (refine wpList_load_row rfl _ _ rfl sb rfl _ (stC 30 zeroS) _ _ HG3.out Try.underlying67 rfl (infoSt _) ?_)
  have HCH := Lib.hid (S_changes H3.out (.slice a l.length cap) l zeroS (fun y pre hy => HPV.out y _ hy) HOK.out (by have := HLL.out.1; omega))
  rw [HRR.out] at HCH
  refine HCH.out.mono ?_
  clear HCH
  rintro e w4 ⟨v4, vs, rfl, h4⟩
  have HX4 := Lib.hid (h4.newArr #[.int .i64 0, .int .i64 0, .int .i64 0, .int .i64 0, .int .i64 0, .int .i64 0, .int .i64 0, .int .i64 0, .int .i64 0, .int .i64 0, .int .i64 0, .int .i64 0, .int .i64 0, .int .i64 0, .int .i64 0, .int .i64 0, .int .i64 0, .int .i64 0, .int .i64 0, .int .i64 0, .int .i64 0, .int .i64 0, .int .i64 0, .int .i64 0, .int .i64 0, .int .i64 0, .int .i64 0, .int .i64 0, .int .i64 0, .int .i64 0] 67 neSt)
  have HN4 : Hid ((w4.alloc (.cells #[.int .i64 0, .int .i64 0, .int .i64 0, .int .i64 0, .int .i64 0, .int .i64 0, .int .i64 0, .int .i64 0, .int .i64 0, .int .i64 0, .int .i64 0, .int .i64 0, .int .i64 0, .int .i64 0, .int .i64 0, .int .i64 0, .int .i64 0, .int .i64 0, .int .i64 0, .int .i64 0, .int .i64 0, .int .i64 0, .int .i64 0, .int .i64 0, .int .i64 0, .int .i64 0, .int .i64 0, .int .i64 0, .int .i64 0, .int .i64 0] 67 (0, 0))).heap[w4.heap.size]? = some (.cells #[.int .i64 0, .int .i64 0, .int .i64 0, .int .i64 0, .int .i64 0, .int .i64 0, .int .i64 0, .int .i64 0, .int .i64 0, .int .i64 0, .int .i64 0, .int .i64 0, .int .i64 0, .int .i64 0, .int .i64 0, .int .i64 0, .int .i64 0, .int .i64 0, .int .i64 0, .int .i64 0, .int .i64 0, .int .i64 0, .int .i64 0, .int .i64 0, .int .i64 0, .int .i64 0, .int .i64 0, .int .i64 0, .int .i64 0, .int .i64 0] 67 (0, 0))) := Lib.hid (block_alloc_new _ _)
  have h5 := HX4.out.setRow 0 rfl (stC 30 R.2.2)
  have H5 := Lib.hid (show St w _ (arr w4.heap.size (stC 30 R.2.2) 67 neSt :: chgs v4 ((chK R).map fun k : Nat => (k : Int)) vs (chD R) :: jrn H jh J :: arr sb (stC 30 zeroS) 67 neSt :: dev H (D.cut n) :: []) from h5)
  have H5 := Lib.hid (H5.out.perm ((List.perm_append_comm (l₁ := [_, _]) (l₂ := [_])).append_right _))
  clear h4 h5 H3 HG3 HX4
  go_wp2_with (refine wpList_store_row rfl _ _ _ rfl w4.heap.size (stC 30 R.2.2) rfl rfl _ _ HN4.out (infoSt _) (by rw [stC_size]; rfl) (stC_one _ _) ?_)
  obtain ⟨w5, hw5⟩ : ∃ w5, w5 = (w4.alloc (.cells #[.int .i64 0, .int .i64 0, .int .i64 0, .int .i64 0, .int .i64 0, .int .i64 0, .int .i64 0, .int .i64 0, .int .i64 0, .int .i64 0, .int .i64 0, .int .i64 0, .int .i64 0, .int .i64 0, .int .i64 0, .int .i64 0, .int .i64 0, .int .i64 0, .int .i64 0, .int .i64 0, .int .i64 0, .int .i64 0, .int .i64 0, .int .i64 0, .int .i64 0, .int .i64 0, .int .i64 0, .int .i64 0, .int .i64 0, .int .i64 0] 67 (0, 0))).setRow w4.heap.size (stC 30 R.2.2) := ⟨_, rfl⟩
  rw [← hw5] at H5 ⊢
  clear hw5 HN4
  generalize w4.heap.size = tb at *
  have HMAY : Hid (MayL 275 (chK R) (chD R)) := Lib.hid (HRK.out.may (by omega))
  have H5 := Lib.hid (show St w w5 (jrn H jh J :: arr tb (stC 30 R.2.2) 67 neSt :: chgs v4 ((chK R).map fun k : Nat => (k : Int)) vs (chD R) :: arr sb (stC 30 zeroS) 67 neSt :: dev H (D.cut n) :: []) from H5.out)
  have HREL : Hid (DeadRel (over (chK R) (chD R) fun _ => zeros) 0 false J (D.cut n)) := Lib.hid ⟨by have := HOP.out; omega, .inl ⟨rfl, .inl HL1.out⟩⟩
  clear HL1 HOP
  go_loopw [11, 12] (fun t11 t12 wr => ∃ (i : Nat) (b : Bool) (jh' : JHdl) (J' : JSt) (D' : DSt), i ≤ 200 ∧ t12 = .int .i64 i ∧ t11 = .bool b ∧ Hid (jh'.jb = jh.jb) ∧ St w wr (jrn H jh' J' :: arr tb (stC 30 R.2.2) 67 neSt :: chgs v4 ((chK R).map fun k : Nat => (k : Int)) vs (chD R) :: arr sb (stC 30 zeroS) 67 neSt :: dev H D' :: []) ∧ Hid (DeadRel (over (chK R) (chD R) fun _ => zeros) i b J' D')) (fun _ t12 _ => 200 - (intOf t12).toNat)
  case atStart => exact ⟨0, false, jh, J, _, Nat.zero_le _, rfl, rfl, Lib.hid rfl, H5.out, HREL⟩
  case round =>
    clear H5 HREL
    obtain ⟨i, b, jh', J', D', hi, rfl, rfl, HJB, hst, HREL⟩ := hrel
    have HST := Lib.hid hst
    clear hst
    have hi0 : (0 : Int) ≤ (i : Int) := Int.natCast_nonneg _
    have hex : ∀ (c : Bool), c = b → (¬ i < 200 ∨ b = true) → True := fun _ _ _ => trivial
    cases b with
    | false =>
      by_cases hlt : i < 200
      · have hi1 : (i : Int) < 200 := by omega
        have HCM := Lib.hid (DeadRel.step HST.out 3 1 rfl rfl HREL.out HMAY.out (chD_512 R) (by omega) (by omega))
        rw [HJB.out] at HCM
        go_wp2_with fail
        refine HCM.out.mono ?_
        clear HCM HST HREL
        rintro e w6 ⟨jh2, J2, D2, b2, hjb, hst, hrel2, rfl⟩
        have H6 := Lib.hid (show St w w6 (jrn H jh2 J2 :: arr tb (stC 30 R.2.2) 67 neSt :: chgs v4 ((chK R).map fun k : Nat => (k : Int)) vs (chD R) :: arr sb (stC 30 zeroS) 67 neSt :: dev H D2 :: []) from hst)
        have HR2 := Lib.hid hrel2
        have HJ2 : Hid (jh2.jb = jh.jb) := Lib.hid hjb
        clear hst hrel2 hjb
        cases b2
        all_goals
          simp only [if_true, if_false, Bool.false_eq_true]
          go_wp2
          first | exact ⟨⟨i + 1, _, jh2, J2, D2, hlt, by go_num, rfl, HJ2, H6.out, HR2⟩, by simp [intOf]; omega⟩ | (go_roundw; case rel => first | exact ⟨i + 1, _, jh2, J2, D2, hlt, by go_num, rfl, HJ2, H6.out, HR2⟩ | ((repeat apply Exists.intro); exact ⟨⟨i + 1, _, jh2, J2, D2, hlt, by go_num, rfl, HJ2, H6.out, HR2⟩, rfl⟩); case measure => simp [intOf]; omega)
      · have hi1 : ¬ (i : Int) < 200 := by omega
        have HCT := Lib.hid (S_Cut HST.out 4 rfl 100000 ((okI_iff _).2 (by omega)))
        go_wp2_with fail
        refine HCT.out.mono ?_
        clear HCT
        rintro e w6 ⟨rfl, h6⟩
        have H6 := Lib.hid h6
        clear h6
        go_wp2_with fail
        refine (awake4_any H6.out).mono ?_
        rintro e w7 ⟨rfl, h7⟩
        have HF7 := Lib.hid h7.base
        clear h7
        go_wp2
        go_ret
        exact ⟨rfl, HF7.out⟩
    | true =>
      have HCT := Lib.hid (S_Cut HST.out 4 rfl 100000 ((okI_iff _).2 (by omega)))
      have HD : Hid (J'.dead = true ∧ D'.Wf ∧ D'.n = 275 ∧ D'.ops ≤ 100 + 123 * i ∧ Safe D' (fun C => Tells 275 1 i (fun _ => zeros) C ∨ Tells 275 1 i (over (chK R) (chD R) fun _ => zeros) C)) := Lib.hid (by
        obtain ⟨h1, h2⟩ := HREL.out
        rcases h2 with ⟨h2, _⟩ | ⟨_, h2, h3, h4, h5⟩
        · cases h2
        · exact ⟨h2, h3, h4, h1, h5⟩)
      clear HREL
      by_cases hlt : (i : Int) < 200
      all_goals
        go_wp2_with fail
        refine HCT.out.mono ?_
        clear HCT
        rintro e w6 ⟨rfl, h6⟩
        have H6 := Lib.hid (show St w w6 (jrn H jh' J' :: arr tb (stC 30 R.2.2) 67 neSt :: chgs v4 ((chK R).map fun k : Nat => (k : Int)) vs (chD R) :: arr sb (stC 30 zeroS) 67 neSt :: dev H (D'.cut 100000) :: []) from h6)
        clear h6
        have HCM := Lib.hid (S_CommitDead H6.out 3 1 rfl rfl HD.out.1 (by rw [show (D'.cut 100000).n = 275 from HD.out.2.2.1]; exact HMAY.out) (chD_512 R) (by rw [show (D'.cut 100000).n = 275 from HD.out.2.2.1]; omega) HNE.out)
        rw [HJB.out] at HCM
        go_wp2_with fail
        refine HCM.out.mono ?_
        clear HCM H6
        rintro e w7 ⟨rfl, h7⟩
        have H7 := Lib.hid h7
        clear h7
        have HSY := Lib.hid (S_SyncDead H7.out HD.out.1)
        rw [HJB.out] at HSY
        go_wp2_with fail
        refine HSY.out.mono ?_
        clear HSY
        rintro e w8 ⟨rfl, rfl⟩
        have HCR := Lib.hid (S_Crash H7.out 4 rfl (by have := HD.out.2.2.2.1; show D'.ops < _; omega) (.slice none 0 0) [] ⟨none, 0, rfl, fun i x hx => by simp at hx⟩ (fun _ h => by cases h) (by decide))
        go_wp2_with fail
        refine HCR.out.mono ?_
        clear HCR H7
        rintro e w9 ⟨H9, rfl, h9⟩
        have HX9 := Lib.hid (show St w w9 (dev H9 ((D'.cut 100000).crash []) :: jrn H jh' J' :: arr tb (stC 30 R.2.2) 67 neSt :: chgs v4 ((chK R).map fun k : Nat => (k : Int)) vs (chD R) :: arr sb (stC 30 zeroS) 67 neSt :: dev H (D'.cut 100000) :: []) from h9)
        clear h9
        have HT9 := Lib.hid (HD.out.2.2.2.2 _ (img_crash D' []))
        have hopn : ∀ s, Tells 275 1 i s (D'.crash []).base → Calls Try.prog 55 #[.pointer (some ⟨H9.b, 0, none⟩), .slice none 0 0, .slice none 0 0] w9 (OpenedRet w _ 0 275 1 i s ((D'.cut 100000).crash []).ops) := fun s hs =>
          S_opened HX9.out 0 rfl (DSt.crash_wf (DSt.cut_wf HD.out.2.1 100000) []) HD.out.2.2.1 (fun _ => rfl) hs (by omega) (by omega) (by omega) (show (0 : Nat) < 900000000 by omega) rfl _ _ [] [] ⟨none, 0, rfl, fun i x hx => by simp at hx⟩ ⟨none, 0, rfl, fun i x hx => by simp at hx⟩ (fun _ h => by cases h) (fun _ h => by cases h) (by decide)
        have HOPN := Lib.hid hopn
        clear hopn
        go_wp2_with fail
        rcases HT9.out with hT | hT
        · refine (HOPN.out _ hT).mono ?_
          rintro e w10 ⟨H10, jh10, J10, D10, rfl, h10, hl10, hlim10, hops10⟩
          have HX := Lib.hid (show St w w10 (jrn H10 jh10 J10 :: dev H10 D10 :: voidR :: jrn H jh' J' :: arr tb (stC 30 R.2.2) 67 neSt :: chgs v4 ((chK R).map fun k : Nat => (k : Int)) vs (chD R) :: arr sb (stC 30 zeroS) 67 neSt :: dev H (D'.cut 100000) :: []) from h10)
          have HG := Lib.hid (show w10.heap[sb]? = some (.cells (stC 30 zeroS) 67 (0, 0)) from HX.out.get (i := 6) rfl)
          have HIS := Lib.hid (S_is HX.out 0 rfl hl10 (by omega) (by omega) (by have h0 : ((D'.cut 100000).crash []).ops = 0 := rfl; omega) zeroS)
          rw [isTo_zero] at HIS
          clear h10 hl10 hlim10 hops10 hT HOPN HT9 HX9
          go_wp2_with (refine loadSt rfl _ rfl sb rfl zeroS HG.out ?_)
          refine HIS.out.mono ?_
          clear HIS HX HG
          rintro e w11 ⟨rfl, h11⟩
          have H11 := Lib.hid h11
          clear h11
          go_wp2_with fail
          refine (awake4_any H11.out).mono ?_
          rintro e w12 ⟨rfl, h12⟩
          have HF12 := Lib.hid h12.base
          clear h12
          go_wp2
          go_ret
          exact ⟨rfl, HF12.out⟩
        · refine (HOPN.out _ hT).mono ?_
          rintro e w10 ⟨H10, jh10, J10, D10, rfl, h10, hl10, hlim10, hops10⟩
          have HX := Lib.hid (show St w w10 (jrn H10 jh10 J10 :: dev H10 D10 :: voidR :: jrn H jh' J' :: arr tb (stC 30 R.2.2) 67 neSt :: chgs v4 ((chK R).map fun k : Nat => (k : Int)) vs (chD R) :: arr sb (stC 30 zeroS) 67 neSt :: dev H (D'.cut 100000) :: []) from h10)
          have HG := Lib.hid (show w10.heap[sb]? = some (.cells (stC 30 zeroS) 67 (0, 0)) from HX.out.get (i := 6) rfl)
          have HOD : Hid (D10.ops < 1000000000) := Lib.hid (by have h0 : ((D'.cut 100000).crash []).ops = 0 := rfl; omega)
          have HIS := Lib.hid (S_is HX.out 0 rfl hl10 (by omega) (by omega) HOD.out zeroS)
          have HL10 := Lib.hid hl10
          obtain ⟨b1, hb1⟩ : ∃ b, isTo (over (chK R) (chD R) fun _ => zeros) zeroS 30 = b := ⟨_, rfl⟩
          rw [hb1] at HIS
          clear h10 hl10 hlim10 hops10 hT HOPN HT9 HX9 HX hb1
          go_wp2_with (refine loadSt rfl _ rfl sb rfl zeroS HG.out ?_)
          refine HIS.out.mono ?_
          clear HIS HG
          rintro e w11 ⟨rfl, h11⟩
          have H11 := Lib.hid h11
          clear h11
          cases b1 with
          | true =>
            go_wp2_with fail
            refine (awake4_any H11.out).mono ?_
            rintro e w12 ⟨rfl, h12⟩
            have HF12 := Lib.hid h12.base
            clear h12
            go_wp2
            go_ret
            exact ⟨rfl, HF12.out⟩
          | false =>
            have HG := Lib.hid (show w11.heap[tb]? = some (.cells (stC 30 R.2.2) 67 (0, 0)) from H11.out.get (i := 4) rfl)
            have HIS := Lib.hid (S_is H11.out 0 rfl HL10.out (by omega) (by omega) HOD.out R.2.2)
            rw [isTo_over HRK.out isTo_zero] at HIS
            go_wp2_with (refine loadSt rfl _ rfl tb rfl R.2.2 HG.out ?_)
            refine HIS.out.mono ?_
            clear HIS HG
            rintro e w12 ⟨rfl, h12⟩
            have H12 := Lib.hid h12
            clear h12
            go_wp2_with fail
            refine (awake4_any H12.out).mono ?_
            rintro e w13 ⟨rfl, h13⟩
            have HF13 := Lib.hid h13.base
            clear h13
            go_wp2
            go_ret
            exact ⟨rfl, HF13.out⟩
end Go.Proofs.Ytkanfpmmgaipnaa
