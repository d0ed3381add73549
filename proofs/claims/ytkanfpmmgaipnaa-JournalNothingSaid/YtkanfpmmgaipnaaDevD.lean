/-
  slices.Clone of bytes; a new device; the device's Blocks, Ops, Cut; modulo.
-/
import Derived.Test.YtkanfpmmgaipnaaDevC
import Derived.WalkSpells
namespace Go.Proofs.Ytkanfpmmgaipnaa
open Go.ChangeMaps Go.MapKept Go.RowKit

/-- No block at all. -/
def NoB : Nat → Prop := fun _ => False
/-- The blocks that are not there yet. -/
def Fresh (w : World) : Nat → Prop := fun x => w.heap.size ≤ x

theorem BytesAt_of_owns {w : World} {base : Nat} {v : Value} {bs : List UInt8} (h : w.ownsRow base 5 1 v bs.length (bs.map B8)) (hv : v ≠ .slice none 0 0) : BytesAt w v bs (fun x => base ≤ x) := by
  obtain ⟨_, h | ⟨g, cap, cur, rfl, hb, hh, hn, _, hsz, ht⟩⟩ := h
  · exact absurd h.1 hv
  · refine ⟨g, 0, cap, cur, rfl, hn, hh, fun i hi => ?_, hb⟩
    have h1 : (cur.toList.take (bs.length * 1))[i]? = (bs.map B8)[i]? := by rw [ht]
    rw [List.getElem?_take, if_pos (by omega), List.getElem?_map, List.getElem?_eq_getElem hi] at h1
    rw [Nat.zero_add, List.getD_eq_getElem?_getD, List.getElem?_eq_getElem hi, ← Array.getElem?_toList, h1]
    rfl

theorem Clone_any (w : World) (v : Value) (bs : List UInt8) (R : Nat → Prop) (hv : BytesAt w v bs R) (hl : bs.length ≤ 140737488355328) :
    Calls Try.prog 70 #[v] w fun e w' => Frm NoB w w' ∧ ∃ v', e = .returned v' ∧ BytesAt w' v' bs (Fresh w) := by
  obtain ⟨i0, hi0, hz0, hz1, hz2⟩ := info_parts infoU8
  obtain ⟨blk, off, cap, rfl, hcap, hcell, _⟩ := hv.cells
  have hnil := Lib.run_eql_slice_nil (P := Try.prog)
  have hlt : blk < w.heap.size := by
    obtain ⟨blk', off', cap', c', e1, _, h3, _⟩ := hv
    cases e1
    exact lt_of_block h3
  have hown : (w.alloc (.cells #[] 5 (0, 0))).ownsRow w.heap.size 5 1 (.slice (some ⟨w.heap.size, 0, none⟩) 0 0) 0 [] :=
    ⟨rfl, .inr ⟨w.heap.size, 0, #[], rfl, Nat.le_refl _, block_alloc_new _ _, Nat.le_refl _, Nat.zero_le _, rfl, rfl⟩⟩
  have hcell' : ∀ j u, (bs.map B8)[j]? = some u → (w.alloc (.cells #[] 5 (0, 0))).cell? ((⟨blk, off, none⟩ : Addr).add j) = some u := fun j u hj => by
    rw [← hcell j u hj]
    refine World.cell?_of_block (w := w) (Below.heap_alloc w _ _ ?_)
    unfold Addr.add
    split <;> exact hlt
  have HC := Lib.hid hcell'
  have HO := Lib.hid hown
  have HV := Lib.hid hv
  have h1 : ∀ u ∈ bs.map B8, u.oneCell' = true := by intro u hu; obtain ⟨x, _, rfl⟩ := List.mem_map.1 hu; rfl
  clear hcell hcell' hown hv
  go_enter Try.func70, Try.ntmps70
  go_wp2_with (at_builtin; refine wpList_append_own _ rfl _ _ 31 rfl w.heap.size 5 i0 (.int .u8 0) 1 1 Try.underlying31 hi0 hz0 hz1 hz2 rfl (by decide) _ _ _ rfl HO.out ⟨blk, off, none⟩ bs.length cap (bs.map B8) rfl ?c0 HC.out h1 ?c1 ?c2 ?c3 ?_)
  case c0 => simp
  case c1 => simp only [maxLen]; omega
  case c2 => omega
  case c3 => simp
  intro v' w' ho hg hn
  have hne : v' ≠ .slice none 0 0 := hn
  have hb := BytesAt_of_owns ho hne
  have HB := Lib.hid hb
  have hf : Frm NoB w w' := ((Frm.refl NoB w).alloc _).trans (Frm.ofGrown hg) (fun x hx e => by simp [Value.ownBlock] at e; omega)
  have HF := Lib.hid hf
  clear hb ho hg hn hne hf
  go_wp2
  go_ret
  exact ⟨HF.out, v', rfl, HB.out⟩

theorem size_alloc (w : World) (o : Obj) : (w.alloc o).heap.size = w.heap.size + 1 := by simp

theorem made_any (w : World) (n : Nat) (h1 : 1 ≤ n) (h2 : n ≤ 65536) :
    Calls Try.prog 68 #[.int .i64 n] w fun e w' => Frm NoB w w' ∧ w'.heap.size = w.heap.size + 4 ∧ ∃ h : Hdl, e = .returned (.pointer (some ⟨h.b, 0, none⟩)) ∧ DevAt w' h (DSt.new n) NoB ∧
      (∀ x, h.M x → w.heap.size ≤ x) := by
  have hmm := @run_makeMap Try.prog
  go_enter Try.func68, Try.ntmps68
  go_wp2
  go_ret
  refine ⟨((((Frm.refl _ _).alloc _).alloc _).alloc _).alloc _, by simp, ⟨w.heap.size + 3, w.heap.size, w.heap.size + 1, w.heap.size + 2⟩, rfl, ?_, ?_⟩
  · have M1 : MapAt IntK okI (w.alloc (.map #[] 0)) w.heap.size 0 (fun _ => none) := MapAt.made w
    have M2 : MapAt PairK okP ((w.alloc (.map #[] 0)).alloc (.map #[] 0)) (w.heap.size + 1) 0 (fun _ => none) := by
      have := MapAt.made (mk := PairK) (ok := okP) (w.alloc (.map #[] 0)); simpa using this
    have M3 : MapAt IntK okI (((w.alloc (.map #[] 0)).alloc (.map #[] 0)).alloc (.map #[] 0)) (w.heap.size + 2) 0 (fun _ => none) := by
      have := MapAt.made (mk := IntK) (ok := okI) ((w.alloc (.map #[] 0)).alloc (.map #[] 0)); simpa using this
    refine ⟨DSt.new_wf h1 h2, ⟨0, ?_, ⟨by simp [DSt.new], Int.le_refl _⟩, (okI_iff 0).2 (by omega)⟩, ⟨0, _, M1.of_block ?_, fun _ _ _ _ _ => rfl, fun _ _ _ hc => by cases hc⟩,
      ⟨0, _, M2.of_block ?_, fun _ _ hi => by simp [DSt.new] at hi, fun _ _ _ _ => rfl⟩, ⟨0, _, M3.of_block ?_, fun _ _ => by simp [DSt.new], fun _ _ _ => rfl⟩, by simp⟩
    · have := block_alloc_new (((w.alloc (.map #[] 0)).alloc (.map #[] 0)).alloc (.map #[] 0)) (devObj ⟨w.heap.size + 3, w.heap.size, w.heap.size + 1, w.heap.size + 2⟩ n 0 false 0)
      simpa [devObj, DSt.new] using this
    · rw [Below.heap_alloc _ _ _ (by simp only [size_alloc]; omega), Below.heap_alloc _ _ _ (by simp only [size_alloc]; omega), Below.heap_alloc _ _ _ (by simp only [size_alloc]; omega)]
    · rw [Below.heap_alloc _ _ _ (by simp only [size_alloc]; omega), Below.heap_alloc _ _ _ (by simp only [size_alloc]; omega)]
    · rw [Below.heap_alloc _ _ _ (by simp only [size_alloc]; omega)]
  · rintro x (rfl | rfl | rfl | rfl) <;> simp

theorem New_no (w : World) (n : Int) (h : n < 1 ∨ 65536 < n) :
    Calls Try.prog 29 #[.int .i64 n] w fun e w' => w = w' ∧ e = .returned (.tuple #[.pointer none, .int .i64 1]) := by
  rcases h with h | h
  · go_enter Try.func29, Try.ntmps29
    go_wp2
    go_ret2
    exact ⟨rfl, rfl⟩
  · have h' : ¬ n < 1 := by omega
    go_enter Try.func29, Try.ntmps29
    go_wp2
    go_ret2
    exact ⟨rfl, rfl⟩

/-- A device that was made: where it lies, and what it is. -/
def Made (w : World) (D : DSt) (R : Nat → Prop) (v : Value) (w' : World) : Prop :=
  Frm NoB w w' ∧ ∃ h : Hdl, v = .pointer (some ⟨h.b, 0, none⟩) ∧ DevAt w' h D R ∧ (∀ x, h.M x → w.heap.size ≤ x)

theorem New_any (w : World) (n : Int) (h1 : 1 ≤ n) (h2 : n ≤ 65536) :
    Calls Try.prog 29 #[.int .i64 n] w fun e w' => ∃ v, e = .returned (.tuple #[v, .int .i64 0]) ∧ Made w (DSt.new n.toNat) NoB v w' := by
  obtain ⟨m, rfl⟩ := Int.eq_ofNat_of_zero_le (by omega : 0 ≤ n)
  have h3 : 1 ≤ m := by omega
  have h4 : m ≤ 65536 := by omega
  have HC := Lib.hid (made_any w m h3 h4)
  have h5 : ¬ (m : Int) < 1 := by omega
  go_enter Try.func29, Try.ntmps29
  go_wp2_with fail
  refine HC.out.mono ?_
  rintro e w' ⟨hf, _, h, rfl, hd, hm⟩
  have HM := Lib.hid (show Made w (DSt.new (m : Int).toNat) NoB (.pointer (some ⟨h.b, 0, none⟩)) w' from ⟨hf, h, rfl, hd, hm⟩)
  clear hf hd hm HC
  go_wp2
  go_ret2
  exact ⟨_, rfl, HM.out⟩

theorem Blocks_any (w : World) (h : Hdl) (D : DSt) (R : Nat → Prop) (H : DevAt w h D R) :
    Calls Try.prog 37 #[.pointer (some ⟨h.b, 0, none⟩)] w fun e w' => w = w' ∧ e = .returned (.int .i64 D.n) := by
  obtain ⟨left, hb, _, _⟩ := H.blk
  obtain ⟨c0, _, _, _, _, _, _, _⟩ := devObj_cells h _ _ _ _ hb
  clear hb
  go_enter Try.func37, Try.ntmps37
  go_wp2
  go_ret
  exact ⟨rfl, rfl⟩

theorem Blocks_nil (w : World) :
    Calls Try.prog 37 #[.pointer none] w fun e w' => w = w' ∧ e = .returned (.int .i64 0) := by
  go_enter Try.func37, Try.ntmps37
  go_wp2
  go_ret
  exact ⟨rfl, rfl⟩

theorem Ops_any (w : World) (h : Hdl) (D : DSt) (R : Nat → Prop) (H : DevAt w h D R) :
    Calls Try.prog 39 #[.pointer (some ⟨h.b, 0, none⟩)] w fun e w' => w = w' ∧ e = .returned (.int .i64 D.ops) := by
  obtain ⟨left, hb, _, _⟩ := H.blk
  obtain ⟨_, _, _, _, c4, _, _, _⟩ := devObj_cells h _ _ _ _ hb
  clear hb
  go_enter Try.func39, Try.ntmps39
  go_wp2
  go_ret
  exact ⟨rfl, rfl⟩

theorem Ops_nil (w : World) :
    Calls Try.prog 39 #[.pointer none] w fun e w' => w = w' ∧ e = .returned (.int .i64 0) := by
  go_enter Try.func39, Try.ntmps39
  go_wp2
  go_ret
  exact ⟨rfl, rfl⟩

theorem tmod_neg (p n : Int) (hp : p < 0) (hn : 1 ≤ n) : (p.tmod n < 0 ∧ p.tmod n + n = p % n ∧ -n < p.tmod n) ∨ (p.tmod n = 0 ∧ p % n = 0) := by
  have h1 : p.tmod n = -((-p) % n) := by
    have : p.tmod n = -((-p).tmod n) := by rw [Int.neg_tmod]; simp
    rw [this, Int.tmod_eq_emod_of_nonneg (by omega)]
  have h2 := Int.emod_nonneg (-p) (by omega : n ≠ 0)
  have h3 := Int.emod_lt_of_pos (-p) (by omega : 0 < n)
  have h4 := Int.emod_nonneg p (by omega : n ≠ 0)
  have h5 := Int.emod_lt_of_pos p (by omega : 0 < n)
  have h6 := Int.emod_add_mul_ediv p n
  have h7 := Int.emod_add_mul_ediv (-p) n
  rw [h1]
  generalize (-p) % n = r at *
  generalize p % n = s at *
  generalize p / n = q at *
  generalize (-p) / n = q' at *
  have h8 : n * (q + q') = -(r + s) := by rw [Int.mul_add]; omega
  have h9 : -2 * n < n * (q + q') := by omega
  have h10 : n * (q + q') ≤ 0 := by omega
  have h11 : q + q' = 0 ∨ q + q' = -1 := by
    have a1 : -2 < q + q' := by
      apply Int.lt_of_mul_lt_mul_left (a := n) _ (by omega)
      rw [Int.mul_comm n (-2)]; exact h9
    have a2 : q + q' ≤ 0 := by
      rcases Int.lt_or_le 0 (q + q') with hx | hx
      · exfalso
        have := Int.mul_pos (by omega : 0 < n) hx
        omega
      · exact hx
    omega
  rcases h11 with h | h
  · rw [h] at h8; simp at h8
    right; omega
  · rw [h] at h8
    left; omega

theorem modulo_any (w : World) (p n : Int) (hp : okI p) (hn : 1 ≤ n) (hn' : n ≤ 4611686018427387904) :
    Calls Try.prog 75 #[.int .i64 p, .int .i64 n] w fun e w' => w = w' ∧ e = .returned (.int .i64 (p % n)) := by
  rw [okI_iff] at hp
  obtain ⟨hp1, hp2⟩ := hp
  by_cases h0 : 0 ≤ p
  · have h4 := Int.emod_nonneg p (by omega : n ≠ 0)
    go_enter Try.func75, Try.ntmps75
    go_wp2
    go_ret
    exact ⟨rfl, rfl⟩
  · have h0' : p < 0 := by omega
    have h5 := Int.emod_lt_of_pos p (by omega : 0 < n)
    have h6 := Int.emod_nonneg p (by omega : n ≠ 0)
    rcases tmod_neg p n h0' hn with ⟨h1, h2, h7⟩ | ⟨h1, h2⟩
    · have H2 := Lib.hid h2
      clear h2 h5 h6 h0
      go_enter Try.func75, Try.ntmps75
      go_wp2
      go_ret
      exact ⟨rfl, by rw [← H2.out]; rfl⟩
    · have H1 := Lib.hid h1
      have H2 := Lib.hid h2
      have h7 : ¬ p.tmod n < 0 := by omega
      have h8 : p.tmod n ≤ 0 := by omega
      clear h1 h2 h5 h6 h0
      go_enter Try.func75, Try.ntmps75
      go_wp2
      go_ret
      exact ⟨rfl, by rw [H2.out, ← H1.out]; rfl⟩
end Go.Proofs.Ytkanfpmmgaipnaa
