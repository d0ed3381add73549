/-
  A journal that lives over a device: what is known of both, as plain data.
-/
import Derived.Test.YtkanfpmmgaipnaaJrnU
namespace Go.Proofs.Ytkanfpmmgaipnaa
set_option linter.unusedVariables false

/-- A journal J lives over the device D: its homes are s; its last commit's number is at most m. -/
structure Live (n g m : Nat) (J : JSt) (D : DSt) (s : Nat → Blk) : Prop where
  wf : D.Wf
  dn : D.n = n
  clean : ∀ k, D.pend k = []
  gen : J.gen = g
  last : J.last ≤ m
  alive : J.dead = false
  disk : ∃ o dt, TellsAt n g J.last o dt s D.base ∧ Knows o dt D.base J.order J.data

theorem Live.ok {n g m : Nat} {J : JSt} {D : DSt} {s : Nat → Blk} (h : Live n g m J D s) (hg : g < 18446744073709551616) (hm : m < 18446744073709551615) : JOk D.n J := by
  obtain ⟨o, dt, hT, hK⟩ := h.disk
  have hd := hT.1.dt512 (fun k => h.wf.base k)
  have hl := h.last
  rcases hK with ⟨e1, e2⟩ | ⟨e1, e2, _⟩
  · exact ⟨by rw [e1, e2]; exact hT.1.len, by rw [e1]; exact hT.1.few, fun k hk => by rw [e1] at hk; rw [h.dn]; exact (hT.1.homes k hk).2, by rw [e2]; exact hd, by omega, by rw [h.gen]; exact hg⟩
  · exact ⟨by rw [e1, e2]; rfl, by rw [e1]; exact Nat.zero_le _, fun k hk => by rw [e1] at hk; (cases hk), fun b hb => by rw [e2] at hb; (cases hb), by omega, by rw [h.gen]; exact hg⟩

theorem Live.view {n g m : Nat} {J : JSt} {D : DSt} {s : Nat → Blk} (h : Live n g m J D s) (k : Nat) (h1 : 245 ≤ k) (h2 : k < n) : jview J D k = s k := by
  obtain ⟨o, dt, hT, hK⟩ := h.disk
  unfold jview
  rw [last_fun_clean h.clean]
  rcases hK with ⟨e1, e2⟩ | ⟨e1, e2, hs⟩
  · rw [e1, e2]; exact hT.2 k h1 h2
  · rw [e1, e2, ← hT.2 k h1 h2, over_settled hT.1.len hT.1.nodup hs]
    unfold over; rfl

theorem Live.tells {n g m : Nat} {J : JSt} {D : DSt} {s : Nat → Blk} (h : Live n g m J D s) : Tells n g m s D.base := by
  obtain ⟨o, dt, hT, _⟩ := h.disk
  exact ⟨_, o, dt, h.last, hT⟩

theorem Live.mono {n g m m' : Nat} {J : JSt} {D : DSt} {s : Nat → Blk} (h : Live n g m J D s) (hm : m ≤ m') : Live n g m' J D s :=
  ⟨h.wf, h.dn, h.clean, h.gen, Nat.le_trans h.last hm, h.alive, h.disk⟩

theorem Live.congr {n g m : Nat} {J : JSt} {D : DSt} {s t : Nat → Blk} (h : Live n g m J D s) (hs : ∀ k, 245 ≤ k → k < n → s k = t k) : Live n g m J D t := by
  obtain ⟨o, dt, hT, hK⟩ := h.disk
  exact ⟨h.wf, h.dn, h.clean, h.gen, h.last, h.alive, o, dt, ⟨hT.1, fun k h1 h2 => (hT.2 k h1 h2).trans (hs k h1 h2)⟩, hK⟩

theorem Tells.congr {n g m : Nat} {s t : Nat → Blk} {C : Nat → Blk} (h : Tells n g m s C) (hs : ∀ k, 245 ≤ k → k < n → s k = t k) : Tells n g m t C := by
  obtain ⟨l, o, dt, hl, h1, h2⟩ := h
  exact ⟨l, o, dt, hl, h1, fun k a b => (h2 k a b).trans (hs k a b)⟩

theorem Tells.mono {n g m m' : Nat} {s : Nat → Blk} {C : Nat → Blk} (h : Tells n g m s C) (hm : m ≤ m') : Tells n g m' s C := by
  obtain ⟨l, o, dt, hl, h1, h2⟩ := h
  exact ⟨l, o, dt, Nat.le_trans hl hm, h1, h2⟩

theorem wOk {n g m : Nat} {J : JSt} {D : DSt} {s : Nat → Blk} (h : Live n g m J D s) {ks : List Nat} {ds : List Blk} (hl : MayL n ks ds) (hd : ∀ d ∈ ds, d.length = 512) (hn : 246 ≤ n) (hg : g < 18446744073709551616) (hm : m < 18446744073709551615) :
    ∀ op ∈ writeOps J.gen J.last J.order J.data ks ds, op.ok D.n := by
  intro op hop
  have hJ := h.ok hg hm
  unfold writeOps at hop
  cases op with
  | fl => trivial
  | wr k b =>
    rcases List.mem_append.1 hop with hop | hop
    · rcases List.mem_append.1 hop with hop | hop
      · rcases List.mem_append.1 hop with hop | hop
        · obtain ⟨i, h1, h2⟩ := settleOps_mem _ _ _ _ hop
          exact ⟨hJ.home k (List.mem_of_getElem? h1), hJ.b512 b (List.mem_of_getElem? h2)⟩
        · obtain ⟨j, h1, h2⟩ := dataFrom_mem _ _ _ _ _ hop
          have hj := (List.getElem?_eq_some_iff.1 h2).1
          have h60 := hl.few
          have h61 := hl.len
          refine ⟨?_, hd b (List.mem_of_getElem? h2)⟩
          rw [h1, h.dn]
          unfold slotB
          have : (J.last + 1) % 4 < 4 := Nat.mod_lt _ (by omega)
          omega
      · simp at hop
    · simp at hop
      obtain ⟨rfl, rfl⟩ := hop
      refine ⟨?_, headB_length _ _ _ hl.few⟩
      rw [h.dn]
      unfold slotB
      have : (J.last + 1) % 4 < 4 := Nat.mod_lt _ (by omega)
      omega

theorem writeOps_length (g last : Nat) (om : List Nat) (dm : List Blk) (ks : List Nat) (ds : List Blk) (h : dm.length = om.length) : (writeOps g last om dm ks ds).length = om.length + ds.length + 3 := by
  unfold writeOps
  simp only [List.length_append, settleOps_length _ _ h, dataFrom_length, List.length_cons, List.length_nil]

/-- What a commit leaves: the device, behind at most 123 ops. -/
structure After (n g m : Nat) (s t : Nat → Blk) (D D' : DSt) : Prop where
  wf : D'.Wf
  dn : D'.n = n
  ops : D'.ops ≤ D.ops + 123
  safe : Safe D' (fun C => Tells n g m s C ∨ Tells n g m t C)

theorem Live.commit {n g m : Nat} {J : JSt} {D : DSt} {s : Nat → Blk} (h : Live n g m J D s) {ks : List Nat} {ds : List Blk} (hl : MayL n ks ds) (hd : ∀ d ∈ ds, d.length = 512) (h246 : 246 ≤ n) (hn : n ≤ 65536) (hg : g < 18446744073709551616) (hm : m < 18446744073709551615) :
    After n g (m + 1) s (over ks ds s) D (runD (writeOps J.gen J.last J.order J.data ks ds) D) ∧
    (endD (writeOps J.gen J.last J.order J.data ks ds) D = 0 → Live n g (m + 1) (J.did ks ds) (runD (writeOps J.gen J.last J.order J.data ks ds) D) (over ks ds s)) := by
  obtain ⟨o, dt, hT, hK⟩ := h.disk
  have hJ := h.ok hg hm
  have hlast := h.last
  have hcs := commit_safe h.clean hT hK hl hn hg (by omega)
  have hw : (runD (writeOps J.gen J.last J.order J.data ks ds) D).Wf := runD_wf _ _ h.wf (wOk h hl hd h246 hg hm)
  have hops := runD_ops (writeOps J.gen J.last J.order J.data ks ds) D
  rw [writeOps_length _ _ _ _ _ _ hJ.len] at hops
  have hf := hJ.few
  have hf2 := hl.few
  have hf3 := hl.len
  have hge := h.gen
  rw [hge] at hw hops ⊢
  refine ⟨⟨hw, (runD_n _ _).trans h.dn, by omega, hcs.1.mono fun C hC => ?_⟩, fun h0 => ?_⟩
  · rcases hC with hC | hC
    · exact .inl ⟨_, o, dt, by omega, hC⟩
    · exact .inr ⟨_, ks, ds, by omega, hC⟩
  · obtain ⟨c1, c2⟩ := hcs.2 h0
    exact ⟨hw, (runD_n _ _).trans h.dn, c1, hge, Nat.succ_le_succ hlast, rfl, ks, ds, c2, .inl ⟨rfl, rfl⟩⟩

theorem oOk {n g last : Nat} {o : List Nat} {dt : List Blk} {D : DSt} (hw : D.Wf) (hn : D.n = n) (h : JDisk n g D.base last o dt) : ∀ op ∈ openOps o dt, op.ok D.n := by
  intro op hop
  unfold openOps at hop
  cases op with
  | fl => trivial
  | wr k b =>
    rcases List.mem_append.1 hop with hop | hop
    · obtain ⟨i, h1, h2⟩ := settleOps_mem _ _ _ _ hop
      exact ⟨by rw [hn]; exact (h.homes k (List.mem_of_getElem? h1)).2, h.dt512 (fun k => hw.base k) b (List.mem_of_getElem? h2)⟩
    · simp at hop

/-- What opening a clean device leaves. -/
theorem Tells.opens {n g m : Nat} {D : DSt} {s : Nat → Blk} (hw : D.Wf) (hn : D.n = n) (hp : ∀ k, D.pend k = []) (h : Tells n g m s D.base) : ∃ last o dt, last ≤ m ∧ JDisk D.n g D.last last o dt ∧
    (runD (openOps o dt) D).Wf ∧ (runD (openOps o dt) D).n = n ∧ (runD (openOps o dt) D).ops ≤ D.ops + 61 ∧ Safe (runD (openOps o dt) D) (Tells n g m s) ∧
    (endD (openOps o dt) D = 0 → Live n g m ⟨g, last, false, [], []⟩ (runD (openOps o dt) D) s) := by
  obtain ⟨last, o, dt, hl, hd, hs⟩ := h
  have hT : TellsAt n g last o dt s D.base := ⟨hd, hs⟩
  have hS : Safe D (TellsAt n g last o dt s) := Safe.clean hp hT
  have hwf := runD_wf _ _ hw (oOk hw hn hd)
  have hops := runD_ops (openOps o dt) D
  have hlen : (openOps o dt).length = o.length + 1 := by unfold openOps; rw [List.length_append, settleOps_length _ _ hd.len]; rfl
  have hfew := hd.few
  refine ⟨last, o, dt, hl, by rw [hn, last_fun_clean hp]; exact hd, hwf, (runD_n _ _).trans hn, by omega, (openOps_safe hS).mono fun C hC => ⟨last, o, dt, hl, hC⟩, fun h0 => ?_⟩
  obtain ⟨c1, c2, c3⟩ := openOps_done (by rw [last_fun_clean hp]; exact hT) hS h0
  exact ⟨hwf, (runD_n _ _).trans hn, c1, rfl, hl, rfl, o, dt, c2, .inr ⟨rfl, rfl, c3⟩⟩

/-- What Format leaves on a new device. -/
theorem fmt_tells (n : Nat) (hn : 246 ≤ n) (hn2 : n ≤ 65536) : Tells n 1 0 (fun _ => zeros) (fmtD (DSt.new n) 0 7).base ∧ (∀ k, (fmtD (DSt.new n) 0 7).pend k = []) ∧ (fmtD (DSt.new n) 0 7).Wf := by
  have hlast : ∀ i k, k ≠ 0 → (fmtD (DSt.new n) 0 i).last k = zeros := by
    intro i
    induction i with
    | zero => intro k _; rfl
    | succ i ih =>
      intro k hk
      show (fmtStep 0 i (fmtD (DSt.new n) 0 i)).last k = zeros
      unfold fmtStep
      split
      · by_cases e : k = 1 + 61 * i
        · subst e; exact last_put_same _ _ _
        · rw [last_put_other _ _ e]; exact ih k hk
      · split
        · rw [last_put_other _ _ hk]; exact ih k hk
        · exact ih k hk
  have hwf : ∀ i, (fmtD (DSt.new n) 0 i).Wf := by
    intro i
    induction i with
    | zero => exact DSt.new_wf (by omega) hn2
    | succ i ih =>
      have hno := (fmtD_ok (DSt.new n) 0 rfl i).1
      have hnn : (fmtD (DSt.new n) 0 i).n = n := hno
      show (fmtStep 0 i (fmtD (DSt.new n) 0 i)).Wf
      unfold fmtStep
      split
      · exact did_wf (o := .wr (1 + 61 * i) zeros) ih ⟨by rw [hnn]; omega, zeros_length⟩
      · split
        · exact did_wf (o := .wr 0 (laidB magicL [0 + 1])) ih ⟨by rw [hnn]; omega, laidFrom_length _ _ _ (textBlk_length _ (by decide)) (by simp)⟩
        · exact did_wf (o := .fl) ih trivial
  have hpend : ∀ k, (fmtD (DSt.new n) 0 7).pend k = [] := fun k => fmtD_pend _ _ k
  have hb : (fmtD (DSt.new n) 0 7).base = (fmtD (DSt.new n) 0 7).last := (last_fun_clean hpend).symm
  have hz : hdrOk 1 zeros = false := by unfold hdrOk; rfl
  refine ⟨⟨0, [], [], Nat.zero_le _, ⟨?_, ?_, fun i hi hok => ?_, .inl ⟨rfl, rfl, rfl⟩, fun k hk => by (cases hk), List.nodup_nil⟩, fun k h1 h2 => ?_⟩, hpend, hwf 7⟩
  · rw [hb, fmtD_last0]; exact laid_magic 0
  · rw [hb, fmtD_last0]; exact laid_gen 0 (by omega)
  · rw [hb, hlast 7 (slotB i) (by unfold slotB; omega), hz] at hok; cases hok
  · unfold over
    rw [hb]; exact hlast 7 k (by omega)
end Go.Proofs.Ytkanfpmmgaipnaa
