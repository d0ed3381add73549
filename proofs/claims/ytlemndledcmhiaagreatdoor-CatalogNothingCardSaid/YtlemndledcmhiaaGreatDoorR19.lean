/-
  CatalogNothing: Create, Delete, the law.
-/
import Derived.Test.YtlemndledcmhiaaGreatDoorQ18
import Derived.Maps.Keyed
import Derived.Maps.Own
import Derived.Maps.Range
import Derived.Below
import Derived.WalkKit
import Derived.Deep.Quiet
import Derived.WideKeyPair
import Derived.DeepKeys4
import Derived.Lib.Hide
import Derived.Laws.CopyOwn
import Derived.WalkSpells
import Derived.Deep.RegionHeld3
import Derived.WalkLawsBesides
import Derived.Maps.RangeWalk
import Derived.Test.YtlemndledcmhiaaGreatDoorShelf
import Derived.Deep.QuietTactic
import Derived.BigQuiet
import Derived.Lib.BufferWrite
import Derived.Maps.AppendAt
import Derived.StillTailTactics
import Derived.IntWalk
import Derived.Laws.OwnMore
import Derived.Deep.CutRange
import Derived.Deep.RegionLaw
import Derived.Great.Walk
import Derived.Deep.MidRow
import Derived.Laws.Tables
import Derived.Laws.Rows
import Derived.RegionTactic
import Derived.Deep.AppendLies
import Derived.Lib.SplitLaws
import Derived.Lib.IndexBytes
import Derived.Test.YtlemndledcmhiaaGreatDoorShelf2
import Derived.WalkMore
import Derived.Defers
import Derived.Laws.IdiomStrings
import Derived.Lib.AppendZerosOnto
import Derived.Shelf.SlIterI.Collect
import Derived.RangeFuncNested
import Derived.Shelf.SlSortCmp.NoneTotal
namespace Go.Proofs.YtlemndledcmhiaaGreatDoor
set_option linter.unusedVariables false
set_option linter.unusedSimpArgs false
section
open Go.ChangeMaps Go.MapKept Go.RowKit
theorem nodup_lt_length : ∀ (N : Nat) (L : List Nat), L.Nodup → (∀ x ∈ L, x < N) → L.length ≤ N
  | 0, L, _, h => by
    cases L with
    | nil => exact Nat.le_refl _
    | cons a l => exact absurd (h a (by simp)) (by omega)
  | N + 1, L, hn, h => by
    have h1 := nodup_lt_length N (L.erase N) (hn.erase N) (fun x hx => by
      have hx' := (hn.mem_erase_iff).1 hx
      have := h x hx'.2
      have := hx'.1
      omega)
    have h2 := List.length_erase (a := N) (l := L)
    split at h2 <;> omega
end
section
theorem pickTo_le {n g last : Nat} {C : Nat → Blk} {o : List Nat} {dt : List Blk} (h : JDisk n g C last o dt) : ∀ i, i ≤ 4 → (pickTo g C i).1 ≤ last
  | 0, _ => Nat.zero_le _
  | i + 1, hi => by
    unfold pickTo
    split
    · rename_i hc; exact (h.slots i (by omega) hc.1).2.2
    · exact pickTo_le h i (by omega)
theorem dataFrom_fl (t : Nat) : ∀ (l : List Blk) (i : Nat), DOp.fl ∉ dataFrom t i l
  | [], _ => by simp [dataFrom]
  | c :: r, i => by unfold dataFrom; simp [dataFrom_fl t r]
end
section
open Go.ChangeMaps Go.MapKept Go.RowKit
variable {w0 : Gnd} {w : World} {rs : List Res} {X : Sys} {F : FH} {A : Path → Option Nd} {ι : Path → Nat}
set_option maxHeartbeats 1000000 in
set_option maxRecDepth 100000 in
theorem f_change_out (h : Fs w0 w F X A ι rs) (hb : F.begun = false) (hd : F.dead = false) (hop : X.op = false) (hlim : X.D.lim = none) (hm : X.m < 1000000) (fn : FuncId) (caps : Array Value) (hE : EntersF Tryz.prog fn) {K : Sys → (Path → Option Nd) → (Path → Nat) → Prop}
    (HD : ∀ y, Fs w0 y F X.open' A ι rs → Calls Tryz.prog fn caps y fun e w' => e = .returned (.int .i64 0) ∧ ∃ X' A' ι', FsW w0 w' F X' A' ι' rs ∧ X' = X.open'.wr X'.l ∧ K X' A' ι') :
    Calls Tryz.prog 115 #[.pointer (some ⟨F.fb, 0, none⟩), .func (.func fn) #[] caps] w fun e w' => e = .returned (.int .i64 0) ∧ ∃ X' A' ι' Y, Fs w0 w' F Y A' ι' rs ∧ Comm X' Y ∧ X' = X.open'.wr X'.l ∧ K X' A' ι' := by
  have HG := Lib.hid (f_gone h.weak)
  rw [hd] at HG
  have HF := Lib.hid (f_forget h.weak)
  have HDD := Lib.hid HD
  have HEN := Lib.hid hE
  have KB : Hid (∀ y, Fs w0 y F X A ι rs → Calls Tryz.prog 90 #[.pointer (some ⟨X.cb, 0, none⟩)] y fun e w' => e = .returned (.int .i64 0) ∧ Fs w0 w' F X.open' A ι rs) := Lib.hid fun y hy => k_Begin hy hop
  have KE : Hid (∀ y X' A' ι', FsW w0 y F X' A' ι' rs → X' = X.open'.wr X'.l → Calls Tryz.prog 205 #[.pointer (some ⟨F.fb, 0, none⟩)] y fun e w' => e = .returned (.int .i64 0) ∧ ∃ Y, Fs w0 w' F Y A' ι' rs ∧ Comm X' Y) := Lib.hid fun y X' A' ι' hy he => f_end hy (by rw [he]; rfl) (by rw [he]; exact hlim) (by rw [he]; exact hm)
  have HBO := Lib.hid hb
  clear h hb hd hop hlim hm HD hE
  go_enter_defers Tryz.func115, Tryz.ntmps115
  go_wp2_with fail
  refine HG.out.mono ?_
  rintro e w1 ⟨rfl, rfl⟩
  go_wp2_with fail
  refine HF.out.mono ?_
  rintro e w2 ⟨rfl, h2⟩
  have c3 : w2.cell? ⟨F.fb, 3, none⟩ = some (.bool false) := (h2.cells 3).trans (by show some (Value.bool F.begun) = _; rw [HBO.out])
  have c0 : w2.cell? ⟨F.fb, 0, none⟩ = some (.pointer (some ⟨X.cb, 0, none⟩)) := (h2.cells 0).trans rfl
  have HB := Lib.hid (KB.out w2 h2)
  clear h2 KB HF HG
  go_wp2_with fail
  refine HB.out.mono ?_
  clear HB
  rintro e w3 ⟨rfl, h3⟩
  have HCL := Lib.hid (HDD.out w3 h3)
  clear h3 HDD c3 c0
  go_wp2_with fail
  refine upon_callF HEN.out HCL.out ?_
  rintro e w4 ⟨rfl, X', A', ι', h4, he, hk⟩
  refine ⟨_, rfl, ?_⟩
  have HE := Lib.hid (KE.out w4 X' A' ι' h4 he)
  have HK := Lib.hid (And.intro he hk)
  clear h4 he hk KE HCL
  go_wp2_with fail
  refine HE.out.mono ?_
  clear HE
  rintro e w5 ⟨rfl, Y, h5, hc⟩
  have H5 := Lib.hid h5
  have HCC := Lib.hid hc
  clear h5 hc
  go_wp2_with fail
  refine leaves_cons (f := 165) (args := #[.pointer (some ⟨F.fb, 0, none⟩)]) (by simp) (by simp [go_sem]) ?_
  refine (f_forgetD H5.out.weak .returning).mono ?_
  rintro e u' w6 ⟨rfl, rfl, h6⟩
  exact ⟨_, results_tmp rfl _ _ _, rfl, X', A', ι', Y, h6, HCC.out, HK.out.1, HK.out.2⟩
end
section
open Go.ChangeMaps Go.MapKept Go.RowKit
set_option maxRecDepth 100000 in
theorem n_ready (w : World) : Calls Tryz.prog 39 #[.pointer none] w fun e w' => e = .returned (.bool false) ∧ w' = w := by
  go_enter Tryz.func39, Tryz.ntmps39
  go_wp2_with fail
  go_ret
  exact ⟨rfl, rfl⟩
set_option maxRecDepth 100000 in
theorem n_Delete (w : World) (s : ByteArray) : Calls Tryz.prog 15 #[.pointer none, .string s] w fun e w' => e = .returned (.int .i64 9) ∧ w' = w := by
  go_enter Tryz.func15, Tryz.ntmps15
  go_wp2_with fail
  refine (n_ready w).mono ?_
  rintro e w2 ⟨rfl, rfl⟩
  go_wp2_with fail
  go_ret
  exact ⟨rfl, rfl⟩
set_option maxRecDepth 100000 in
theorem n_List (w : World) : Calls Tryz.prog 14 #[.pointer none] w fun e w' => e = .returned (.slice none 0 0) ∧ w' = w := by
  go_enter Tryz.func14, Tryz.ntmps14
  go_wp2_with fail
  go_ret
  exact ⟨rfl, rfl⟩
set_option maxRecDepth 100000 in
theorem n_Sweep (w : World) : Calls Tryz.prog 22 #[.pointer none] w fun e w' => e = .returned (.tuple #[.bool false, .int .i64 9]) ∧ w' = w := by
  go_enter Tryz.func22, Tryz.ntmps22
  go_wp2_with fail
  refine (n_ready w).mono ?_
  rintro e w2 ⟨rfl, rfl⟩
  go_wp2_with fail
  go_ret2
  exact ⟨rfl, rfl⟩
set_option maxRecDepth 100000 in
theorem n_Dir (w : World) (c : Array Value) (k : Int) : Calls Tryz.prog 24 #[.pointer none, .agg c, .int .i64 k] w fun e w' => e = .returned (.string ⟨#[]⟩) ∧ Frm NoB w w' := by
  go_enter Tryz.func24, Tryz.ntmps24
  go_wp2_with fail
  refine (n_ready _).mono ?_
  rintro e w2 ⟨rfl, rfl⟩
  go_wp2_with fail
  go_ret
  exact ⟨rfl, (Frm.refl NoB w).alloc _⟩
set_option maxRecDepth 100000 in
theorem n_Find (w : World) (s : ByteArray) : Calls Tryz.prog 23 #[.pointer none, .string s] w fun e w' => e = .returned (.tuple #[.agg (tpz ByteArray.empty 0 0 0 0 0 false 0), .bool false]) ∧ Frm NoB w w' := by
  have HK0 := Lib.hid (block_alloc_new w (.cells (tpz ByteArray.empty 0 0 0 0 0 false 0) 31 (0, 0)))
  go_enter Tryz.func23, Tryz.ntmps23
  go_upto_region 1 with (refine allocRow rfl _ _ zeroTp rfl ?_)
  go_wp2_with (refine storeTp rfl _ _ rfl w.heap.size ByteArray.empty 0 0 0 0 0 false 0 rfl rfl _ rfl HK0.out ?_)
  have hb2 := setRow_heap _ _ _ (tpz ByteArray.empty 0 0 0 0 0 false 0) _ _ HK0.out
  have hld := run_loadVar_row (P := Tryz.prog) _ w.heap.size 31 31 (tpz ByteArray.empty 0 0 0 0 0 false 0) (0, 0) _ hb2 Tryz.underlying31 rfl (infoTp _ _ _ _ _ _ _ _)
  (try simp only [Exit.inBlock, Exit.then])
  exact bodyPost_ret (v := .tuple #[.agg (tpz ByteArray.empty 0 0 0 0 0 false 0), .bool false]) (results_ct Tryz.results23 _ _ ⟨w.heap.size, 0, none⟩ rfl _ hld) rfl ⟨rfl, ((Frm.refl NoB w).alloc _).setRowNew (Nat.le_refl _) _⟩
set_option maxRecDepth 100000 in
theorem n_Create (w : World) (s : ByteArray) (P : Int) (p3 p4 p5 : Int) (p6 : Bool) (p7 : Int) : Calls Tryz.prog 11 #[.pointer none, .string s, .int .i64 P, .agg (stz p3 p4 p5 p6 p7)] w fun e w' => e = .returned (.tuple #[.agg (tpz ByteArray.empty 0 0 0 0 0 false 0), .int .i64 9]) ∧ Frm NoB w w' := by
  obtain ⟨y, hy⟩ : ∃ y, ((w.alloc (.cells #[.pointer none] 25 (0, 0))).alloc (.cells (stz p3 p4 p5 p6 p7) 29 (0, 0))).alloc (.cells (tpz ByteArray.empty 0 0 0 0 0 false 0) 31 (0, 0)) = y := ⟨_, rfl⟩
  have hfy : Frm NoB w y := by rw [← hy]; exact (((Frm.refl NoB w).alloc _).alloc _).alloc _
  have hcy : y.cell? ⟨w.heap.size, 0, none⟩ = some (.pointer none) := by
    rw [← hy]
    exact (cell_of_block (block_alloc_old _ (block_alloc_old _ (block_alloc_new w _)))).trans rfl
  have hK : y.heap[w.heap.size + 1 + 1]? = some (.cells (tpz ByteArray.empty 0 0 0 0 0 false 0) 31 (0, 0)) := by
    have := block_alloc_new ((w.alloc (.cells #[.pointer none] 25 (0, 0))).alloc (.cells (stz p3 p4 p5 p6 p7) 29 (0, 0))) (.cells (tpz ByteArray.empty 0 0 0 0 0 false 0) 31 (0, 0))
    rw [hy] at this
    simpa only [size_alloc] using this
  obtain ⟨b1, hb1⟩ : ∃ b1, w.heap.size = b1 := ⟨_, rfl⟩
  obtain ⟨b2, hb2⟩ : ∃ b2, b1 + 1 = b2 := ⟨_, rfl⟩
  obtain ⟨b3, hb3⟩ : ∃ b3, b2 + 1 = b3 := ⟨_, rfl⟩
  rw [hb1] at hcy
  rw [hb1, hb2, hb3] at hK
  have HK0 := Lib.hid hK
  have HF := Lib.hid (And.intro hfy (show w.heap.size ≤ b3 by omega))
  have HY := Lib.hid (And.intro hy (And.intro hb1 (And.intro hb2 hb3)))
  clear hfy hy hb1 hb2 hb3 hK
  go_enter Tryz.func11, Tryz.ntmps11
  go_upto_region 1 with (refine allocRow rfl _ _ zeroTp rfl ?_)
  rw [HY.out.1, HY.out.2.1, HY.out.2.2.1, HY.out.2.2.2]
  clear HY
  go_wp2_with fail
  refine (n_ready _).mono ?_
  rintro e w2 ⟨rfl, rfl⟩
  go_wp2_with (refine storeTp rfl _ _ rfl b3 ByteArray.empty 0 0 0 0 0 false 0 rfl rfl _ rfl HK0.out ?_)
  have hb2 := setRow_heap _ _ _ (tpz ByteArray.empty 0 0 0 0 0 false 0) _ _ HK0.out
  have hld := run_loadVar_row (P := Tryz.prog) _ b3 31 31 (tpz ByteArray.empty 0 0 0 0 0 false 0) (0, 0) _ hb2 Tryz.underlying31 rfl (infoTp _ _ _ _ _ _ _ _)
  (try simp only [Exit.inBlock, Exit.then])
  exact bodyPost_ret (v := .tuple #[.agg (tpz ByteArray.empty 0 0 0 0 0 false 0), .int .i64 9]) (results_ct Tryz.results11 _ _ ⟨b3, 0, none⟩ rfl _ hld) rfl ⟨rfl, HF.out.1.setRowNew HF.out.2 _⟩
end
section
open Go.ChangeMaps Go.MapKept Go.RowKit
variable {w0 : Gnd} {w : World} {rs : List Res} {X : Sys} {F : FH} {A : Path → Option Nd} {ι : Path → Nat}
set_option maxHeartbeats 1000000 in
set_option maxRecDepth 100000 in
theorem f_MkdirOut (h : Fs w0 w F X A ι rs) (hc : Calm F X) (hm : X.m < 1000000) {n : Nat} (hr : A [] = some (.dir n)) (hn : n + 64 ≤ 5120) {s : ByteArray} (hs : NameOk s) (hno : A [s] = none) (hfi : 0 < X.fi) (hfb : dat (n + 64) - dat n ≤ X.fb) :
    Calls Tryz.prog 20 #[.pointer (some ⟨F.fb, 0, none⟩), .string (pathB [s])] w fun e w' => e = .returned (.int .i64 0) ∧ ∃ A' ι' Y S, Fs w0 w' F Y A' ι' rs ∧ A' = addT A [] s (.dir 0) S := by
  have h1 := ((h.newArr #[.pointer (some ⟨F.fb, 0, none⟩)] 24 neFSp).newArr #[.string (pathB [s])] 9 neStr).newArr #[.int .i64 2] 3 neI8
  have hn0 : X.nd 0 1 = n := by have := (h.2.live [] _ hr).2.2; rw [h.2.zero] at this; exact this
  have hdn : dat n ≤ 10 := dat_le (by omega)
  have hdn2 : dat (n + 64) ≤ 10 := dat_le (by omega)
  have hk0 : X.open'.keys = [] := by show X.l.map (·.1) = []; rw [hc.l]; rfl
  have HC := Lib.hid (f_change_out h1 hc.b hc.d hc.op hc.lim hm 116 #[.pointer (some ⟨_, 0, none⟩), .pointer (some ⟨_, 0, none⟩), .pointer (some ⟨_, 0, none⟩)] entMake (K := fun X' A' ι' => ∃ S, A' = addT A [] s (.dir 0) S) (fun y hy =>
    (b_make hy (C := X.P.im :: X.P.bm :: heldL X 0) rfl hr s (by simpa using hs) (by simp) hno (.inl ⟨rfl, rfl⟩) hn hfi hfb (fun k hk' => by rw [hk0] at hk'; cases hk') (List.mem_cons_self ..) (List.mem_cons_of_mem _ (List.mem_cons_self ..)) (by rw [h.2.zero]; exact heldL_held (X := X.open') fun c hc => List.mem_cons_of_mem _ (List.mem_cons_of_mem _ hc)) (by rw [List.length_cons, List.length_cons, heldL_length, hn0]; omega) (i1 := 1) (i2 := 2) (i3 := 0) rfl rfl rfl).mono fun e w' ⟨he, X', A', ι', C', q1, q2⟩ => ⟨he, X', A', ι', q1.weak, q2.goes.wr, by obtain ⟨S, i, e1, -⟩ := q2.tree; exact ⟨S, e1⟩⟩))
  have c0 := (h1.arrCell (i := 2) rfl 0).trans (show (#[Value.pointer (some ⟨F.fb, 0, none⟩)] : Array Value)[0]? = some (.pointer (some ⟨F.fb, 0, none⟩)) from rfl)
  simp only [size_alloc] at HC c0
  clear h hc hm hr hn hs hno hfi hfb h1 hn0 hdn hdn2 hk0
  have KM : Hid (Calls Tryz.prog 53 #[.pointer (some ⟨F.fb, 0, none⟩), .string (pathB [s]), .int .i64 2] w fun e w' => e = .returned (.int .i64 0) ∧ ∃ A' ι' Y S, Fs w0 w' F Y A' ι' rs ∧ A' = addT A [] s (.dir 0) S) := Lib.hid (by
    generalize pathB [s] = path at *
    go_enter Tryz.func53, Tryz.ntmps53
    go_wp2_with fail
    refine HC.out.mono ?_
    rintro e w2 ⟨rfl, X', A', ι', Y, h2, hcm, hx, S, q1⟩
    have H2 := Lib.hid (h2.drop 3)
    have HQ := Lib.hid q1
    clear h2 hcm hx q1
    go_wp2
    go_ret
    exact ⟨rfl, A', ι', Y, S, H2.out, HQ.out⟩)
  clear HC c0
  generalize pathB [s] = path at *
  go_enter Tryz.func20, Tryz.ntmps20
  go_wp2_with fail
  refine KM.out.mono ?_
  rintro e w2 ⟨rfl, h2⟩
  have H2 := Lib.hid h2
  clear h2
  go_wp2
  go_ret
  exact ⟨rfl, H2.out⟩
set_option maxHeartbeats 1000000 in
set_option maxRecDepth 100000 in
theorem f_ReadNone (h : Fs w0 w F X A ι rs) (ns : Path) (h0 : ns ≠ []) (hns : ∀ x ∈ ns, NameOk x) (h8 : ns.length ≤ 8) (hd : ∀ k, k < ns.length → A (ns.take k) ≠ none → ∃ m, A (ns.take k) = some (.dir m)) (hp : A ns = none) (n : Int) :
    Calls Tryz.prog 54 #[.pointer (some ⟨F.fb, 0, none⟩), .string (pathB ns), .int .i64 0, .int .i64 n] w fun e w' => e = .returned (.tuple #[.slice none 0 0, .int .i64 4]) ∧ Fs w0 w' F X A ι rs := by
  have HL := Lib.hid (f_fileAt h ns h0 hns h8 hd (fun m e => by rw [hp] at e; cases e))
  have hlr : leadR A ι ns = .tuple #[.int .i64 0, .agg #[.int .i64 0, .int .i64 0], .int .i64 4] := by unfold leadR; rw [hp]
  rw [hlr] at HL
  clear h h0 hns h8 hd hp hlr
  generalize pathB ns = path at *
  go_enter Tryz.func54, Tryz.ntmps54
  go_wp2_with fail
  refine HL.out.mono ?_
  clear HL
  rintro e w1 ⟨rfl, h1⟩
  have H1 := Lib.hid (h1.newArr #[.int .i64 0, .int .i64 0] 82 neStt)
  clear h1
  go_upto_region 2 with (refine allocRow rfl _ _ zeroStt rfl ?_)
  obtain ⟨y1, hy1, h1⟩ := H1.out.name
  rw [hy1]
  have H2 := Lib.hid (h1.drop 1)
  clear hy1 H1 h1
  go_wp2_with fail
  go_ret2
  exact ⟨rfl, H2.out⟩
set_option maxHeartbeats 1000000 in
set_option maxRecDepth 100000 in
theorem c_OpenNone (h : Fs w0 w F X A ι rs) {s : ByteArray} (hs : NameOk s) (hno : A [s] = none) :
    Calls Tryz.prog 21 #[.pointer (some ⟨F.fb, 0, none⟩), .string (pathB [s])] w fun e w' => e = .returned (.tuple #[.pointer none, .int .i64 4]) ∧ Fs w0 w' F X A ι rs := by
  have HS := Lib.hid (f_StatP h [s] (by simp) (by simpa using hs) (by simp) (fun k hk _ => by
    obtain rfl : k = 0 := by simpa using hk
    exact h.2.root))
  have hst : statR A [s] = .tuple #[.agg #[.int .i64 0, .int .i64 0], .int .i64 4] := by unfold statR; rw [hno]
  rw [hst] at HS
  clear h hs hno hst
  generalize pathB [s] = path at *
  go_enter Tryz.func21, Tryz.ntmps21
  go_wp2_with fail
  refine HS.out.mono ?_
  clear HS
  rintro e w1 ⟨rfl, h1⟩
  have H2 := Lib.hid ((h1.newArr #[.int .i64 0, .int .i64 0] 82 neStt).drop 1)
  clear h1
  go_wp2_with fail
  go_ret2
  exact ⟨rfl, H2.out⟩
set_option maxHeartbeats 1000000 in
set_option maxRecDepth 100000 in
theorem c_OpenBad (h : Fs w0 w F X A ι rs) {s : ByteArray} (hs : NameOk s) {m : Nat} (hd : A [s] = some (.dir m)) (hno : A [s, lsN] = none) :
    Calls Tryz.prog 21 #[.pointer (some ⟨F.fb, 0, none⟩), .string (pathB [s])] w fun e w' => e = .returned (.tuple #[.pointer none, .int .i64 10]) ∧ Fs w0 w' F X A ι rs := by
  have HS := Lib.hid (f_StatP h [s] (by simp) (by simpa using hs) (by simp) (fun k hk _ => by
    obtain rfl : k = 0 := by simpa using hk
    exact h.2.root))
  have hst : statR A [s] = .tuple #[.agg #[.int .i64 2, .int .i64 m], .int .i64 0] := by unfold statR; rw [hd]; rfl
  rw [hst] at HS
  have KR : Hid (∀ y rs', Fs w0 y F X A ι rs' → Calls Tryz.prog 54 #[.pointer (some ⟨F.fb, 0, none⟩), .string (pathB [s, lsN]), .int .i64 0, .int .i64 70656] y fun e w' => e = .returned (.tuple #[.slice none 0 0, .int .i64 4]) ∧ Fs w0 w' F X A ι rs') := Lib.hid fun y rs' hy =>
    f_ReadNone hy [s, lsN] (by simp) (by simp [hs, lsN_ok]) (by simp) (fun k hk _ => by
      have hk : k < 2 := hk
      match k, hk with
      | 0, _ => exact hy.2.root
      | 1, _ => exact ⟨_, hd⟩) hno 70656
  have hp2 := path_add [s] lsN ⟨#[47, 99, 97, 116, 97, 108, 111, 103]⟩ rfl
  have hp3 : pathB ([s] ++ [lsN]) = pathB [s, lsN] := rfl
  rw [hp3] at hp2
  have hz : (pathB [s]).size ≤ 60 := by
    have h3 : (pathB ([] ++ [s])).data.toList.length = _ := congrArg List.length (pathB_snoc [] s)
    have hsz := hs.size
    rw [List.length_append, List.length_cons] at h3
    have h4 : (pathB []).data.toList.length ≤ 1 := by decide
    have h5 : (pathB ([] ++ [s])).data.toList.length = (pathB [s]).size := by rw [Array.length_toList]; rfl
    have h6 : s.data.toList.length = s.size := by rw [Array.length_toList]; rfl
    omega
  obtain ⟨dir, hdir⟩ : ∃ dir, pathB [s] = dir := ⟨_, rfl⟩
  obtain ⟨sz, hsz⟩ : ∃ sz, dir.size = sz := ⟨_, rfl⟩
  rw [hdir] at HS hp2 hz ⊢
  have z0 : (0 : Int) ≤ (sz : Int) := Int.natCast_nonneg _
  have z1 : (sz : Int) ≤ 60 := by omega
  have hlp : (⟨#[47, 99, 97, 116, 97, 108, 111, 103]⟩ : ByteArray).size = 8 := rfl
  clear h hs hd hno hst hp3 hdir hz
  go_enter Tryz.func21, Tryz.ntmps21
  go_wp2_with fail
  refine HS.out.mono ?_
  clear HS
  rintro e w1 ⟨rfl, h1⟩
  have h2 := h1.newArr #[.int .i64 2, .int .i64 m] 82 neStt
  have c0 : (w1.alloc (.cells #[.int .i64 2, .int .i64 m] 82 (0, 0))).cell? ⟨w1.heap.size, 0, none⟩ = some (.int .i64 2) := (h2.arrCell (i := 0) rfl 0).trans rfl
  have H2 := Lib.hid h2
  clear h1 h2
  go_wp2_with fail
  refine (KR.out _ _ H2.out).mono ?_
  clear KR c0
  rintro e w3 ⟨rfl, h3⟩
  have H3 := Lib.hid (h3.drop 1)
  clear h3 H2
  go_wp2_with fail
  go_ret2
  exact ⟨rfl, H3.out⟩
attribute [local go_sem] run_mf in
set_option maxHeartbeats 1000000 in
set_option maxRecDepth 100000 in
theorem c_Create {cb mb n P next : Nat} {L : List Tp} {D : List ByteArray} (h : Fs w0 w F X A ι (catS cb F.fb next mb :: catM mb L :: rs)) (hb : F.begun = false) (hd : F.dead = false) (hop : X.op = false) (hlim : X.D.lim = none) (hm : X.m < 1000000) (hl : X.l = []) (hc : MayCr X A next L n D P) {nm : ByteArray} (hn50 : nm.size ≤ 50) (hnm : Named nm true) (hno : ∀ x ∈ L, x.nm ≠ nm) (p3 p4 p5 : Int) (p6 : Bool) (p7 : Int)
    (h1 : 512 ≤ p3 ∧ p3 ≤ 8192) (h2 : -1 ≤ p4 ∧ p4 ≤ 1099511627776) (h3 : -1 ≤ p5 ∧ p5 ≤ 1125899906842624) (h4 : 0 ≤ p7 ∧ p7 ≤ 1125899906842624) :
    Calls Tryz.prog 11 #[.pointer (some ⟨cb, 0, none⟩), .string nm, .int .i64 P, .agg (stz p3 p4 p5 p6 p7)] w fun e w' => e = .returned (.tuple #[.agg (tpz nm next P p3 p4 p5 p6 p7), .int .i64 0]) ∧ ∃ Y A' ι' n' mb', Fs w0 w' { F with begun := false, over := false } Y A' ι' (catS cb F.fb ((next : Int) + 1) mb' :: catM mb' (insT ⟨nm, next, P, p3, p4, p5, p6, p7⟩ L) :: rs) ∧ CrMade X Y A A' (encC next L) (encC ((next : Int) + 1) (insT ⟨nm, next, P, p3, p4, p5, p6, p7⟩ L)) next n n' P := by
  have hh := (((h.newArr #[.pointer (some ⟨cb, 0, none⟩)] 25 neCatp).newArr (stz p3 p4 p5 p6 p7) 29 neStg).newArr (tpz ByteArray.empty 0 0 0 0 0 false 0) 31 neTp)
  simp only [size_alloc] at hh
  obtain ⟨y, hy⟩ : ∃ y, ((w.alloc (.cells #[.pointer (some ⟨cb, 0, none⟩)] 25 (0, 0))).alloc (.cells (stz p3 p4 p5 p6 p7) 29 (0, 0))).alloc (.cells (tpz ByteArray.empty 0 0 0 0 0 false 0) 31 (0, 0)) = y := ⟨_, rfl⟩
  obtain ⟨b1, hb1⟩ : ∃ b1, w.heap.size = b1 := ⟨_, rfl⟩
  rw [hy, hb1] at hh
  obtain ⟨b2, hb2⟩ : ∃ b2, b1 + 1 = b2 := ⟨_, rfl⟩
  rw [hb2] at hh
  obtain ⟨b3, hb3⟩ : ∃ b3, b2 + 1 = b3 := ⟨_, rfl⟩
  rw [hb3] at hh
  have hP := hc.Pl
  have P1 : (1 : Int) ≤ (P : Int) := by omega
  have P8 : (P : Int) ≤ 8 := by omega
  have c0 : y.cell? ⟨b1, 0, none⟩ = some (.pointer (some ⟨cb, 0, none⟩)) := (hh.arrCell (i := 2) rfl 0).trans rfl
  have hnm50 : Hid (nm.size ≤ 50) := Lib.hid hn50
  have HR := Lib.hid (c_ready hh (i := 3) rfl)
  have HN := Lib.hid (hnm y)
  have KS : Hid (∀ W, Calls Tryz.prog 41 #[.agg (stz p3 p4 p5 p6 p7)] W fun r w' => r = .returned (.bool true) ∧ Frm NoB W w') := Lib.hid fun W => p_Settings W p3 p4 p5 p6 p7 h1 h2 h3 h4
  have HY := Lib.hid (And.intro hy (And.intro hb1 (And.intro hb2 hb3)))
  have HH := Lib.hid hh
  have HC := Lib.hid hc
  have HP := Lib.hid (And.intro hno (And.intro hb (And.intro hd (And.intro hop (And.intro hlim (And.intro hm hl))))))
  have HSz := Lib.hid (And.intro h1 (And.intro h2 (And.intro h3 h4)))
  clear h hb hd hop hlim hm hl hc hnm hn50 hno h1 h2 h3 h4 hh hy hb1 hb2 hb3 hP
  go_enter Tryz.func11, Tryz.ntmps11
  go_upto_region 1 with (refine allocRow rfl _ _ zeroTp rfl ?_)
  rw [HY.out.1, HY.out.2.1, HY.out.2.2.1, HY.out.2.2.2]
  clear HY
  go_wp2_with fail
  refine HR.out.mono ?_
  clear HR
  rintro e w2 ⟨rfl, rfl⟩
  go_wp2_with fail
  refine HN.out.mono ?_
  clear HN
  rintro e w2 ⟨rfl, hf⟩
  have HH2 := Lib.hid (HH.out.frm hf)
  have s0 : w2.cell? ⟨b2, 0, none⟩ = some (.int .i64 p3) := (HH2.out.arrCell (i := 1) rfl 0).trans rfl
  have s1 : w2.cell? ⟨b2, 1, none⟩ = some (.int .i64 p4) := (HH2.out.arrCell (i := 1) rfl 1).trans rfl
  have s2 : w2.cell? ⟨b2, 2, none⟩ = some (.int .i64 p5) := (HH2.out.arrCell (i := 1) rfl 2).trans rfl
  have s3 : w2.cell? ⟨b2, 3, none⟩ = some (.bool p6) := (HH2.out.arrCell (i := 1) rfl 3).trans rfl
  have s4 : w2.cell? ⟨b2, 4, none⟩ = some (.int .i64 p7) := (HH2.out.arrCell (i := 1) rfl 4).trans rfl
  have c0' : w2.cell? ⟨b1, 0, none⟩ = some (.pointer (some ⟨cb, 0, none⟩)) := (HH2.out.arrCell (i := 2) rfl 0).trans rfl
  clear HH hf c0
  go_wp2_with fail
  refine (KS.out _).mono ?_
  clear KS s0 s1 s2 s3 s4
  rintro e w3 ⟨rfl, hf⟩
  have HH3 := Lib.hid (HH2.out.frm hf)
  have d0 : w3.cell? ⟨b1, 0, none⟩ = some (.pointer (some ⟨cb, 0, none⟩)) := (HH3.out.arrCell (i := 2) rfl 0).trans rfl
  have d3 : w3.cell? ⟨cb, 3, none⟩ = some (.map (some mb)) := (HH3.out.arrCell (i := 3) rfl 3).trans rfl
  clear HH2 hf c0'
  go_upto_region 5 with fail
  have KL : Hid (∀ W, Fs w0 W F X A ι (arr b3 (tpz ByteArray.empty 0 0 0 0 0 false 0) 31 neTp :: arr b2 (stz p3 p4 p5 p6 p7) 29 neStg :: arr b1 #[.pointer (some ⟨cb, 0, none⟩)] 25 neCatp :: catS cb F.fb next mb :: catM mb L :: rs) → W.cell? ⟨b1, 0, none⟩ = some (.pointer (some ⟨cb, 0, none⟩)) ∧ W.cell? ⟨cb, 3, none⟩ = some (.map (some mb)) ∧ (Instr.lookup 91 (.map (some mb)) (.agg ((keyB nm).map B8).toArray) true).run Tryz.prog W = .ok (.tuple #[.agg #[.string ⟨#[]⟩, .int .i64 0, .int .i64 0, .int .i64 0, .int .i64 0, .int .i64 0, .bool false, .int .i64 0], .bool false]) W) := Lib.hid fun W hW => by
    refine ⟨(hW.arrCell (i := 2) rfl 0).trans rfl, (hW.arrCell (i := 3) rfl 3).trans rfl, ?_⟩
    have this := (hW.catAt (i := 4) rfl).lookup_ok kindCKey Tryz.underlying91 (a := keyB nm) (keyB_length nm hnm50.out) zeroTp W rfl
    rw [tpV_none HC.out.cat hnm50.out HP.out.1] at this
    exact this
  have KO : Hid (∀ W, Calls Tryz.prog 42 #[.string nm] W fun e w' => e = .returned (.agg ((keyB nm).map B8).toArray) ∧ Frm NoB W w') := Lib.hid fun W => c_of W nm hnm50.out
  have HHd := Lib.hid (HH3.out.frm (Frm.refl NoB w3).drew)
  obtain ⟨k1, k2, k3⟩ := KL.out _ HH3.out
  clear d0 d3
  go_cut [10, 11] from 36 (fun t10 t11 wx => t11 = .bool false ∧ Fs w0 wx F X A ι (arr b3 (tpz ByteArray.empty 0 0 0 0 0 false 0) 31 neTp :: arr b2 (stz p3 p4 p5 p6 p7) 29 neStg :: arr b1 #[.pointer (some ⟨cb, 0, none⟩)] 25 neCatp :: catS cb F.fb next mb :: catM mb L :: rs))
  case first =>
    refine wp_region_held_drew (S := (fun y => y.cell? ⟨b1, 0, none⟩ = some (.pointer (some ⟨cb, 0, none⟩)) ∧ y.cell? ⟨cb, 3, none⟩ = some (.map (some mb)) ∧ (Instr.lookup 91 (.map (some mb)) (.agg ((keyB nm).map B8).toArray) true).run Tryz.prog y = .ok (.tuple #[.agg #[.string ⟨#[]⟩, .int .i64 0, .int .i64 0, .int .i64 0, .int .i64 0, .int .i64 0, .bool false, .int .i64 0], .bool false]) y)) (by kernel_rfl) (KL.out _ HHd.out) (fun hHeld => ?_)
    refine wpAnyH_take (i := 0) (v := ?v0_1) rfl (by kernel_rfl) (by kernel_rfl) (by kernel_rfl) (fun _ _ _ h => h) (Or.inl ⟨by rfl, ?hy0_1⟩) (by assumption) ?rest0_1
    case hy0_1 => (intro w hSw; (try dsimp only at hSw); go_simp; (try with_reducible rfl))
    try simp only [Act.put, List.setIfInBounds_toArray, List.set_cons_zero, List.set_cons_succ]
    refine wpAnyH_take (i := 1) (v := ?v1_2) rfl (by kernel_rfl) (by kernel_rfl) (by kernel_rfl) (fun _ _ _ h => h) (Or.inl ⟨by rfl, ?hy1_2⟩) (by assumption) ?rest1_2
    case hy1_2 => (intro w hSw; (try dsimp only at hSw); go_simp; (try with_reducible rfl))
    try simp only [Act.put, List.setIfInBounds_toArray, List.set_cons_zero, List.set_cons_succ]
    refine wpAnyH_take (i := 2) (v := ?v2_3) rfl (by kernel_rfl) (by kernel_rfl) (by kernel_rfl) (fun _ _ _ h => h) (Or.inl ⟨by rfl, ?hy2_3⟩) (by assumption) ?rest2_3
    case hy2_3 => (intro w hSw; (try dsimp only at hSw); go_simp; (try with_reducible rfl))
    try simp only [Act.put, List.setIfInBounds_toArray, List.set_cons_zero, List.set_cons_succ]
    refine wpAnyH_take (i := 3) (v := ?v3_4) rfl (by kernel_rfl) (by kernel_rfl) (by kernel_rfl) (fun _ _ _ h => h) (Or.inl ⟨by rfl, ?hy3_4⟩) (by assumption) ?rest3_4
    case hy3_4 => (intro w hSw; (try dsimp only at hSw); go_simp; (try with_reducible rfl))
    try simp only [Act.put, List.setIfInBounds_toArray, List.set_cons_zero, List.set_cons_succ]
    refine wpAnyH_take (i := 4) (v := ?v4_5) rfl (by kernel_rfl) (by kernel_rfl) (by kernel_rfl) (fun _ _ _ h => h) (Or.inl ⟨by rfl, ?hy4_5⟩) (by assumption) ?rest4_5
    case hy4_5 => (intro w hSw; (try dsimp only at hSw); go_simp; (try with_reducible rfl))
    try simp only [Act.put, List.setIfInBounds_toArray, List.set_cons_zero, List.set_cons_succ]
    refine wpAnyH_ready (rs := [5, 10]) (by kernel_rfl) (by simp) ?_
    refine AllReadyH.cons rfl (fun K hK => ?_) ?_
    · go_simp
      refine (KO.out _).mono ?_
      rintro e w4 ⟨rfl, hf4⟩
      go_wp2_with fail
      have HH4 := Lib.hid (HHd.out.frm hf4)
      clear hf4
      refine hK.out _ _ (KL.out _ HH4.out) (fun hHeld => ?_)
      clear hK K
      try simp only [Act.put, List.setIfInBounds_toArray, List.set_cons_zero, List.set_cons_succ]
      refine wpAnyH_take (i := 6) (v := ?v6_6) rfl (by kernel_rfl) (by kernel_rfl) (by kernel_rfl) (fun _ _ _ h => h) (Or.inl ⟨by rfl, ?hy6_6⟩) (by assumption) ?rest6_6
      case hy6_6 => (intro w hSw; (try dsimp only at hSw); go_simp; (try with_reducible rfl))
      try simp only [Act.put, List.setIfInBounds_toArray, List.set_cons_zero, List.set_cons_succ]
      refine wpAnyH_take (i := 7) (v := ?v7_7) rfl (by kernel_rfl) (by kernel_rfl) (by kernel_rfl) (fun _ _ _ h => h) (Or.inl ⟨by rfl, ?hy7_7⟩) (by assumption) ?rest7_7
      case hy7_7 => (intro w hSw; (try dsimp only at hSw); go_simp; (try with_reducible rfl))
      try simp only [Act.put, List.setIfInBounds_toArray, List.set_cons_zero, List.set_cons_succ]
      refine wpAnyH_take (i := 8) (v := ?v8_8) rfl (by kernel_rfl) (by kernel_rfl) (by kernel_rfl) (fun _ _ _ h => h) (Or.inl ⟨by rfl, ?hy8_8⟩) (by assumption) ?rest8_8
      case hy8_8 => (intro w hSw; (try dsimp only at hSw); go_simp; (try with_reducible rfl))
      try simp only [Act.put, List.setIfInBounds_toArray, List.set_cons_zero, List.set_cons_succ]
      refine wpAnyH_take (i := 9) (v := ?v9_9) rfl (by kernel_rfl) (by kernel_rfl) (by kernel_rfl) (fun _ _ _ h => h) (Or.inl ⟨by rfl, ?hy9_9⟩) (by assumption) ?rest9_9
      case hy9_9 => (intro w hSw; (try dsimp only at hSw); go_simp; (try with_reducible rfl))
      change wpAnyH _ _ _ _ _ _ _ (Act.put _ (some 45) _) _
      try simp only [Act.put, List.setIfInBounds_toArray, List.set_cons_zero, List.set_cons_succ]
      refine wpAnyH_ready (rs := [10]) (by kernel_rfl) (by simp) ?_
      refine AllReadyH.cons rfl (fun K hK => ?_) AllReadyH.nil
      go_simp
      have HA := Lib.hid (HH4.out.newArr (tpz ByteArray.empty 0 0 0 0 0 false 0) 31 neTp)
      refine hK.out _ _ (KL.out _ (HA.out.drop 1)) (fun hHeld => ?_)
      clear hK K
      try simp only [Act.put, List.setIfInBounds_toArray, List.set_cons_zero, List.set_cons_succ]
      refine wpAnyH_ready (rs := [11]) (by kernel_rfl) (by simp) ?_
      refine AllReadyH.cons rfl (fun K hK => ?_) AllReadyH.nil
      rw [if_pos (by rfl)]
      refine wp_store_row 31 _ _ rfl w4.heap.size (tpz ByteArray.empty 0 0 0 0 0 false 0) rfl rfl _ _ (HA.out.block (i := 0) rfl) (infoTp _ _ _ _ _ _ _ _) rfl (oneTp _ _ _ _ _ _ _ _) ?_
      have HB := Lib.hid (HA.out.setRow 0 (c' := (tpz ByteArray.empty 0 0 0 0 0 false 0)) rfl)
      refine hK.out _ _ (KL.out _ (HB.out.drop 1)) (fun hHeld => ?_)
      clear hK K
      try simp only [Act.put, List.setIfInBounds_toArray, List.set_cons_zero, List.set_cons_succ]
      refine wpAnyH_take (i := 12) (v := ?v12_10) rfl (by kernel_rfl) (by kernel_rfl) (by kernel_rfl) (fun _ _ _ h => h) (Or.inl ⟨by rfl, ?hy12_10⟩) (by assumption) ?rest12_10
      case hy12_10 => (intro w hSw; (try dsimp only at hSw); go_simp; (try with_reducible rfl))
      change wpAnyH _ _ _ _ _ _ _ (Act.put _ (some 11) _) _
      try simp only [Act.put, List.setIfInBounds_toArray, List.set_cons_zero, List.set_cons_succ]
      refine wpAnyH_done (by kernel_rfl) ?_ _
      go_wp2_with fail
      go_meet
      exact ⟨rfl, HB.out.drop 1⟩
    · refine AllReadyH.cons rfl (fun K hK => ?_) AllReadyH.nil
      go_simp
      have HA := Lib.hid ((HH3.out.newArr (tpz ByteArray.empty 0 0 0 0 0 false 0) 31 neTp).frm (Frm.refl NoB _).drew)
      refine hK.out _ _ (KL.out _ (HA.out.drop 1)) (fun hHeld => ?_)
      clear hK K
      try simp only [Act.put, List.setIfInBounds_toArray, List.set_cons_zero, List.set_cons_succ]
      obtain ⟨wa, hwa⟩ : ∃ wa, (w3.alloc (.cells (tpz ByteArray.empty 0 0 0 0 0 false 0) 31 (0, 0))).drew = wa := ⟨_, rfl⟩
      obtain ⟨ga, hga⟩ : ∃ ga, w3.heap.size = ga := ⟨_, rfl⟩
      change wpAnyH _ _ _ _ _ _ _ _ ((w3.alloc (.cells (tpz ByteArray.empty 0 0 0 0 0 false 0) 31 (0, 0))).drew)
      have hHeld2 := hHeld
      clear hHeld
      have hHeld := KL.out _ (HA.out.drop 1)
      clear hHeld2
      rw [hwa, hga] at HA
      rw [hwa] at hHeld
      rw [hwa, hga]
      clear hwa hga
      refine wpAnyH_ready (rs := [5]) (by kernel_rfl) (by simp) ?_
      refine AllReadyH.cons rfl (fun K hK => ?_) AllReadyH.nil
      go_simp
      refine (KO.out _).mono ?_
      rintro e w4 ⟨rfl, hf4⟩
      go_wp2_with fail
      have HH4 := Lib.hid (HA.out.frm hf4)
      clear hf4 HA
      refine hK.out _ _ (KL.out _ (HH4.out.drop 1)) (fun hHeld => ?_)
      clear hK K
      try simp only [Act.put, List.setIfInBounds_toArray, List.set_cons_zero, List.set_cons_succ]
      refine wpAnyH_take (i := 6) (v := ?v6_11) rfl (by kernel_rfl) (by kernel_rfl) (by kernel_rfl) (fun _ _ _ h => h) (Or.inl ⟨by rfl, ?hy6_11⟩) (by assumption) ?rest6_11
      case hy6_11 => (intro w hSw; (try dsimp only at hSw); go_simp; (try with_reducible rfl))
      try simp only [Act.put, List.setIfInBounds_toArray, List.set_cons_zero, List.set_cons_succ]
      refine wpAnyH_take (i := 7) (v := ?v7_12) rfl (by kernel_rfl) (by kernel_rfl) (by kernel_rfl) (fun _ _ _ h => h) (Or.inl ⟨by rfl, ?hy7_12⟩) (by assumption) ?rest7_12
      case hy7_12 => (intro w hSw; (try dsimp only at hSw); go_simp; (try with_reducible rfl))
      try simp only [Act.put, List.setIfInBounds_toArray, List.set_cons_zero, List.set_cons_succ]
      refine wpAnyH_take (i := 8) (v := ?v8_13) rfl (by kernel_rfl) (by kernel_rfl) (by kernel_rfl) (fun _ _ _ h => h) (Or.inl ⟨by rfl, ?hy8_13⟩) (by assumption) ?rest8_13
      case hy8_13 => (intro w hSw; (try dsimp only at hSw); go_simp; (try with_reducible rfl))
      try simp only [Act.put, List.setIfInBounds_toArray, List.set_cons_zero, List.set_cons_succ]
      refine wpAnyH_take (i := 9) (v := ?v9_14) rfl (by kernel_rfl) (by kernel_rfl) (by kernel_rfl) (fun _ _ _ h => h) (Or.inl ⟨by rfl, ?hy9_14⟩) (by assumption) ?rest9_14
      case hy9_14 => (intro w hSw; (try dsimp only at hSw); go_simp; (try with_reducible rfl))
      change wpAnyH _ _ _ _ _ _ _ (Act.put _ (some 45) _) _
      try simp only [Act.put, List.setIfInBounds_toArray, List.set_cons_zero, List.set_cons_succ]
      refine wpAnyH_ready (rs := [11]) (by kernel_rfl) (by simp) ?_
      refine AllReadyH.cons rfl (fun K hK => ?_) AllReadyH.nil
      rw [if_pos (by rfl)]
      refine wp_store_row 31 _ _ rfl ga (tpz ByteArray.empty 0 0 0 0 0 false 0) rfl rfl _ _ (HH4.out.block (i := 0) rfl) (infoTp _ _ _ _ _ _ _ _) rfl (oneTp _ _ _ _ _ _ _ _) ?_
      have HB := Lib.hid (HH4.out.setRow 0 (c' := (tpz ByteArray.empty 0 0 0 0 0 false 0)) rfl)
      refine hK.out _ _ (KL.out _ (HB.out.drop 1)) (fun hHeld => ?_)
      clear hK K
      try simp only [Act.put, List.setIfInBounds_toArray, List.set_cons_zero, List.set_cons_succ]
      refine wpAnyH_take (i := 12) (v := ?v12_15) rfl (by kernel_rfl) (by kernel_rfl) (by kernel_rfl) (fun _ _ _ h => h) (Or.inl ⟨by rfl, ?hy12_15⟩) (by assumption) ?rest12_15
      case hy12_15 => (intro w hSw; (try dsimp only at hSw); go_simp; (try with_reducible rfl))
      change wpAnyH _ _ _ _ _ _ _ (Act.put _ (some 11) _) _
      try simp only [Act.put, List.setIfInBounds_toArray, List.set_cons_zero, List.set_cons_succ]
      refine wpAnyH_done (by kernel_rfl) ?_ _
      go_wp2_with fail
      go_meet
      exact ⟨rfl, HB.out.drop 1⟩
  case rest =>
  obtain ⟨rfl, hcut⟩ := hcut
  have hlen : ∀ ty, (Builtin.len_ #[91] ty #[.map (some mb)]).run Tryz.prog wc = .ok (goInt L.length) wc := fun ty => (hcut.catAt (i := 4) rfl).len Tryz.underlying91 ty wc rfl
  have hl0 : (0 : Int) ≤ (L.length : Int) := Int.natCast_nonneg _
  have hl20 : (L.length : Int) < 20 := by have := HC.out.few; omega
  have n0 : (0 : Int) ≤ (next : Int) := Int.natCast_nonneg _
  have n1 : (next : Int) < 100 := by have := HC.out.id; omega
  have hwr : IntKind.i64.wrap ((next : Int) + 1) = (next : Int) + 1 := IntWalk.i64_in _ (by omega)
  have c5 : wc.cell? ⟨b1, 0, none⟩ = some (.pointer (some ⟨cb, 0, none⟩)) := (hcut.arrCell (i := 2) rfl 0).trans rfl
  have d5 : wc.cell? ⟨cb, 3, none⟩ = some (.map (some mb)) := (hcut.arrCell (i := 3) rfl 3).trans rfl
  have HH5 := Lib.hid hcut
  clear hcut KL HH3 HHd k1 k2 k3
  go_upto_region 10 with fail
  clear hlen c5 d5
  have KC : Hid (∀ W A' ι' X' F' L1, Fs w0 W F' X' A' ι' (L1 ++ (arr b3 (tpz ByteArray.empty 0 0 0 0 0 false 0) 31 neTp :: arr b2 (stz p3 p4 p5 p6 p7) 29 neStg :: arr b1 #[.pointer (some ⟨cb, 0, none⟩)] 25 neCatp :: catS cb F.fb next mb :: catM mb L :: rs)) → (W.cell? ⟨b1, 0, none⟩ = some (.pointer (some ⟨cb, 0, none⟩)) ∧ W.cell? ⟨cb, 2, none⟩ = some (.int .i64 next) ∧ W.cell? ⟨cb, 3, none⟩ = some (.map (some mb))) ∧ W.cell? ⟨b2, 0, none⟩ = some (.int .i64 p3) ∧ W.cell? ⟨b2, 1, none⟩ = some (.int .i64 p4) ∧ W.cell? ⟨b2, 2, none⟩ = some (.int .i64 p5) ∧ W.cell? ⟨b2, 3, none⟩ = some (.bool p6) ∧ W.cell? ⟨b2, 4, none⟩ = some (.int .i64 p7)) := Lib.hid fun W A' ι' X' F' L1 hW => by
    have hW := hW.sub (List.sublist_append_right L1 _)
    exact ⟨⟨(hW.arrCell (i := 2) rfl 0).trans rfl, (hW.arrCell (i := 3) rfl 2).trans rfl, (hW.arrCell (i := 3) rfl 3).trans rfl⟩, (hW.arrCell (i := 1) rfl 0).trans rfl, (hW.arrCell (i := 1) rfl 1).trans rfl, (hW.arrCell (i := 1) rfl 2).trans rfl, (hW.arrCell (i := 1) rfl 3).trans rfl, (hW.arrCell (i := 1) rfl 4).trans rfl⟩
  have HH5d := Lib.hid (HH5.out.frm (Frm.refl NoB wc).drew)
  refine wp_region_held_drew (S := (fun y => (y.cell? ⟨b1, 0, none⟩ = some (.pointer (some ⟨cb, 0, none⟩)) ∧ y.cell? ⟨cb, 2, none⟩ = some (.int .i64 next) ∧ y.cell? ⟨cb, 3, none⟩ = some (.map (some mb))) ∧ y.cell? ⟨b2, 0, none⟩ = some (.int .i64 p3) ∧ y.cell? ⟨b2, 1, none⟩ = some (.int .i64 p4) ∧ y.cell? ⟨b2, 2, none⟩ = some (.int .i64 p5) ∧ y.cell? ⟨b2, 3, none⟩ = some (.bool p6) ∧ y.cell? ⟨b2, 4, none⟩ = some (.int .i64 p7))) (by kernel_rfl) (KC.out _ _ _ _ _ [] HH5d.out) (fun hHeld => ?_)
  refine wpAnyH_take (i := 0) (v := ?v0_16) rfl (by kernel_rfl) (by kernel_rfl) (by kernel_rfl) (fun _ _ _ h => h) (Or.inl ⟨by rfl, ?hy0_16⟩) (by assumption) ?rest0_16
  case hy0_16 => (intro w hSw; (try dsimp only at hSw); go_simp; (try with_reducible rfl))
  try simp only [Act.put, List.setIfInBounds_toArray, List.set_cons_zero, List.set_cons_succ]
  refine wpAnyH_take (i := 1) (v := ?v1_17) rfl (by kernel_rfl) (by kernel_rfl) (by kernel_rfl) (fun _ _ _ h => h) (Or.inl ⟨by rfl, ?hy1_17⟩) (by assumption) ?rest1_17
  case hy1_17 => (intro w hSw; (try dsimp only at hSw); go_simp; (try with_reducible rfl))
  try simp only [Act.put, List.setIfInBounds_toArray, List.set_cons_zero, List.set_cons_succ]
  refine wpAnyH_take (i := 2) (v := ?v2_18) rfl (by kernel_rfl) (by kernel_rfl) (by kernel_rfl) (fun _ _ _ h => h) (Or.inl ⟨by rfl, ?hy2_18⟩) (by assumption) ?rest2_18
  case hy2_18 => (intro w hSw; (try dsimp only at hSw); go_simp; (try with_reducible rfl))
  try simp only [Act.put, List.setIfInBounds_toArray, List.set_cons_zero, List.set_cons_succ]
  refine wpAnyH_take (i := 3) (v := ?v3_19) rfl (by kernel_rfl) (by kernel_rfl) (by kernel_rfl) (fun _ _ _ h => h) (Or.inl ⟨by rfl, ?hy3_19⟩) (by assumption) ?rest3_19
  case hy3_19 => (intro w hSw; (try dsimp only at hSw); go_simp; (try with_reducible rfl))
  try simp only [Act.put, List.setIfInBounds_toArray, List.set_cons_zero, List.set_cons_succ]
  refine wpAnyH_take (i := 4) (v := ?v4_20) rfl (by kernel_rfl) (by kernel_rfl) (by kernel_rfl) (fun _ _ _ h => h) (Or.inl ⟨by rfl, ?hy4_20⟩) (by assumption) ?rest4_20
  case hy4_20 => (intro w hSw; (try dsimp only at hSw); go_simp; (try with_reducible rfl))
  try simp only [Act.put, List.setIfInBounds_toArray, List.set_cons_zero, List.set_cons_succ]
  refine wpAnyH_take (i := 5) (v := ?v5_21) rfl (by kernel_rfl) (by kernel_rfl) (by kernel_rfl) (fun _ _ _ h => h) (Or.inl ⟨by rfl, ?hy5_21⟩) (by assumption) ?rest5_21
  case hy5_21 => (intro w hSw; (try dsimp only at hSw); go_simp; (try with_reducible rfl))
  try simp only [Act.put, List.setIfInBounds_toArray, List.set_cons_zero, List.set_cons_succ]
  refine wpAnyH_take (i := 6) (v := ?v6_22) rfl (by kernel_rfl) (by kernel_rfl) (by kernel_rfl) (fun _ _ _ h => h) (Or.inl ⟨by rfl, ?hy6_22⟩) (by assumption) ?rest6_22
  case hy6_22 => (intro w hSw; (try dsimp only at hSw); go_simp; (try with_reducible rfl))
  try simp only [Act.put, List.setIfInBounds_toArray, List.set_cons_zero, List.set_cons_succ]
  refine wpAnyH_take (i := 7) (v := ?v7_23) rfl (by kernel_rfl) (by kernel_rfl) (by kernel_rfl) (fun _ _ _ h => h) (Or.inl ⟨by rfl, ?hy7_23⟩) (by assumption) ?rest7_23
  case hy7_23 => (intro w hSw; (try dsimp only at hSw); go_simp; (try with_reducible rfl))
  change wpAnyH _ _ _ _ _ _ _ (Act.put _ (some 62) _) _
  try simp only [Act.put, List.setIfInBounds_toArray, List.set_cons_zero, List.set_cons_succ]
  refine wpAnyH_ready (rs := [8]) (by kernel_rfl) (by simp) ?_
  refine AllReadyH.cons rfl (fun K hK => ?_) AllReadyH.nil
  go_simp
  have HA := Lib.hid ((HH5.out.newArr (tpz ByteArray.empty 0 0 0 0 0 false 0) 31 neTp).frm (Frm.refl NoB _).drew)
  refine hK.out _ _ (KC.out _ _ _ _ _ [_] HA.out) (fun hHeld => ?_)
  clear hK K
  try simp only [Act.put, List.setIfInBounds_toArray, List.set_cons_zero, List.set_cons_succ]
  obtain ⟨wa, hwa⟩ : ∃ wa, (wc.alloc (.cells (tpz ByteArray.empty 0 0 0 0 0 false 0) 31 (0, 0))).drew = wa := ⟨_, rfl⟩
  obtain ⟨b4, hga⟩ : ∃ b4, wc.heap.size = b4 := ⟨_, rfl⟩
  change wpAnyH _ _ _ _ _ _ _ _ ((wc.alloc (.cells (tpz ByteArray.empty 0 0 0 0 0 false 0) 31 (0, 0))).drew)
  clear hHeld
  have hHeld := KC.out _ _ _ _ _ [_] HA.out
  rw [hwa, hga] at HA
  rw [hwa] at hHeld
  rw [hwa, hga]
  clear hwa hga
  refine wpAnyH_ready (rs := [9]) (by kernel_rfl) (by simp) ?_
  refine AllReadyH.cons rfl (fun K hK => ?_) AllReadyH.nil
  rw [if_pos (by rfl)]
  refine wp_store_row 31 _ _ rfl b4 (tpz nm next P p3 p4 p5 p6 p7) rfl rfl _ _ (HA.out.block (i := 0) rfl) (infoTp _ _ _ _ _ _ _ _) rfl (oneTp _ _ _ _ _ _ _ _) ?_
  have HB := Lib.hid (HA.out.setRow 0 (c' := (tpz nm next P p3 p4 p5 p6 p7)) rfl)
  refine hK.out _ _ (KC.out _ _ _ _ _ [_] HB.out) (fun hHeld => ?_)
  clear hK K
  try simp only [Act.put, List.setIfInBounds_toArray, List.set_cons_zero, List.set_cons_succ]
  refine wpAnyH_done (by kernel_rfl) ?_ _
  obtain ⟨w6, hw6⟩ : ∃ w6, wa.setRow b4 (tpz nm next P p3 p4 p5 p6 p7) = w6 := ⟨_, rfl⟩
  rw [hw6] at HB ⊢
  clear hw6 HA HH5 HH5d hHeld
  have HCl := Lib.hid (c_clone HB.out (j := 5) rfl)
  obtain ⟨⟨c6, -, d6⟩, -⟩ := KC.out _ _ _ _ _ [_] HB.out
  go_wp2_with fail
  refine HCl.out.mono ?_
  clear HCl c6 d6 HB
  rintro e w7 ⟨mb', rfl, h7⟩
  have HH7 := Lib.hid h7
  have HH7d := Lib.hid (h7.frm (Frm.refl NoB w7).drew)
  clear h7
  go_upto_region 12 with fail
  have KT : Hid (∀ W A' ι' X' F' L1, Fs w0 W F' X' A' ι' (L1 ++ (arr b4 (tpz nm next P p3 p4 p5 p6 p7) 31 neTp :: arr b3 (tpz ByteArray.empty 0 0 0 0 0 false 0) 31 neTp :: arr b2 (stz p3 p4 p5 p6 p7) 29 neStg :: arr b1 #[.pointer (some ⟨cb, 0, none⟩)] 25 neCatp :: catS cb F.fb next mb :: catM mb L :: rs)) → W.cell? ⟨b4, 0, none⟩ = some (.string nm) ∧ W.cell? ⟨b4, 1, none⟩ = some (.int .i64 next) ∧ W.cell? ⟨b4, 2, none⟩ = some (.int .i64 P) ∧ W.cell? ⟨b4, 3, none⟩ = some (.int .i64 p3) ∧ W.cell? ⟨b4, 4, none⟩ = some (.int .i64 p4) ∧ W.cell? ⟨b4, 5, none⟩ = some (.int .i64 p5) ∧ W.cell? ⟨b4, 6, none⟩ = some (.bool p6) ∧ W.cell? ⟨b4, 7, none⟩ = some (.int .i64 p7)) := Lib.hid fun W A' ι' X' F' L1 hW => by
    have hW := hW.sub (List.sublist_append_right L1 _)
    exact ⟨(hW.arrCell (i := 0) rfl 0).trans rfl, (hW.arrCell (i := 0) rfl 1).trans rfl, (hW.arrCell (i := 0) rfl 2).trans rfl, (hW.arrCell (i := 0) rfl 3).trans rfl, (hW.arrCell (i := 0) rfl 4).trans rfl, (hW.arrCell (i := 0) rfl 5).trans rfl, (hW.arrCell (i := 0) rfl 6).trans rfl, (hW.arrCell (i := 0) rfl 7).trans rfl⟩
  refine wp_region_held_drew (S := (fun y => y.cell? ⟨b4, 0, none⟩ = some (.string nm) ∧ y.cell? ⟨b4, 1, none⟩ = some (.int .i64 next) ∧ y.cell? ⟨b4, 2, none⟩ = some (.int .i64 P) ∧ y.cell? ⟨b4, 3, none⟩ = some (.int .i64 p3) ∧ y.cell? ⟨b4, 4, none⟩ = some (.int .i64 p4) ∧ y.cell? ⟨b4, 5, none⟩ = some (.int .i64 p5) ∧ y.cell? ⟨b4, 6, none⟩ = some (.bool p6) ∧ y.cell? ⟨b4, 7, none⟩ = some (.int .i64 p7))) (by kernel_rfl) (KT.out _ _ _ _ _ [_] HH7d.out) (fun hHeld => ?_)
  refine wpAnyH_take (i := 0) (v := ?v0_24) rfl (by kernel_rfl) (by kernel_rfl) (by kernel_rfl) (fun _ _ _ h => h) (Or.inl ⟨by rfl, ?hy0_24⟩) (by assumption) ?rest0_24
  case hy0_24 => (intro w hSw; (try dsimp only at hSw); go_simp; (try with_reducible rfl))
  try simp only [Act.put, List.setIfInBounds_toArray, List.set_cons_zero, List.set_cons_succ]
  refine wpAnyH_take (i := 1) (v := ?v1_25) rfl (by kernel_rfl) (by kernel_rfl) (by kernel_rfl) (fun _ _ _ h => h) (Or.inl ⟨by rfl, ?hy1_25⟩) (by assumption) ?rest1_25
  case hy1_25 => (intro w hSw; (try dsimp only at hSw); go_simp; (try with_reducible rfl))
  try simp only [Act.put, List.setIfInBounds_toArray, List.set_cons_zero, List.set_cons_succ]
  refine wpAnyH_take (i := 3) (v := ?v3_26) rfl (by kernel_rfl) (by kernel_rfl) (by kernel_rfl) (fun _ _ _ h => h) (Or.inl ⟨by rfl, ?hy3_26⟩) (by assumption) ?rest3_26
  case hy3_26 => (intro w hSw; (try dsimp only at hSw); go_simp; (try with_reducible rfl))
  change wpAnyH _ _ _ _ _ _ _ (Act.put _ (some 71) _) _
  try simp only [Act.put, List.setIfInBounds_toArray, List.set_cons_zero, List.set_cons_succ]
  refine wpAnyH_ready (rs := [2]) (by kernel_rfl) (by simp) ?_
  refine AllReadyH.cons rfl (fun K hK => ?_) AllReadyH.nil
  go_simp
  refine (KO.out _).mono ?_
  rintro e w8 ⟨rfl, hf8⟩
  go_wp2_with fail
  have HH8 := Lib.hid (HH7d.out.frm hf8)
  clear hf8
  refine hK.out _ _ (KT.out _ _ _ _ _ [_] HH8.out) (fun hHeld => ?_)
  clear hK K
  try simp only [Act.put, List.setIfInBounds_toArray, List.set_cons_zero, List.set_cons_succ]
  obtain ⟨o, hup, h9⟩ := HH8.out.catPut 0 rfl HC.out.cat (⟨nm, next, P, p3, p4, p5, p6, p7⟩ : Tp) hnm50.out HP.out.1
  have hup : (Instr.mapUpdate 91 (.map (some mb')) (.agg ((keyB nm).map B8).toArray) (.agg #[.string nm, .int .i64 next, .int .i64 P, .int .i64 p3, .int .i64 p4, .int .i64 p5, .bool p6, .int .i64 p7])).run Tryz.prog w8 = .ok () (setBlock w8 mb' o) := hup
  have HH9 := Lib.hid h9
  clear h9
  refine wpAnyH_ready (rs := [4]) (by kernel_rfl) (by simp) ?_
  refine AllReadyH.cons rfl (fun K hK => ?_) AllReadyH.nil
  go_simp
  refine hK.out _ _ (KT.out _ _ _ _ _ [_] HH9.out) (fun hHeld => ?_)
  clear hK K
  try simp only [Act.put, List.setIfInBounds_toArray, List.set_cons_zero, List.set_cons_succ]
  refine wpAnyH_done (by kernel_rfl) ?_ _
  clear hup hHeld HH7 HH7d HH8
  obtain ⟨w9, hw9⟩ : ∃ w9, setBlock w8 mb' o = w9 := ⟨_, rfl⟩
  rw [hw9] at HH9 ⊢
  clear hw9
  have HH9d := Lib.hid (HH9.out.frm (Frm.refl NoB w9).drew)
  have KCh : Hid (∀ W, Fs w0 W F X A ι (catM mb' (insT (⟨nm, next, P, p3, p4, p5, p6, p7⟩ : Tp) L) :: arr b4 (tpz nm next P p3 p4 p5 p6 p7) 31 neTp :: arr b3 (tpz ByteArray.empty 0 0 0 0 0 false 0) 31 neTp :: arr b2 (stz p3 p4 p5 p6 p7) 29 neStg :: arr b1 #[.pointer (some ⟨cb, 0, none⟩)] 25 neCatp :: catS cb F.fb next mb :: catM mb L :: rs) → Calls Tryz.prog 44 #[.pointer (some ⟨cb, 0, none⟩), .int .i64 ((next : Int) + 1), .map (some mb'), .func (.func 45) #[] #[.pointer (some ⟨b1, 0, none⟩), .pointer (some ⟨b4, 0, none⟩)]] W fun e w' => e = .returned (.int .i64 0) ∧ ∃ Y A' ι' n', Fs w0 w' { F with begun := false, over := false } Y A' ι' (catM mb' (insT (⟨nm, next, P, p3, p4, p5, p6, p7⟩ : Tp) L) :: arr b4 (tpz nm next P p3 p4 p5 p6 p7) 31 neTp :: arr b3 (tpz ByteArray.empty 0 0 0 0 0 false 0) 31 neTp :: arr b2 (stz p3 p4 p5 p6 p7) 29 neStg :: arr b1 #[.pointer (some ⟨cb, 0, none⟩)] 25 neCatp :: catS cb F.fb ((next : Int) + 1) mb' :: catM mb L :: rs) ∧ CrMade X Y A A' (encC next L) (encC ((next : Int) + 1) (insT (⟨nm, next, P, p3, p4, p5, p6, p7⟩ : Tp) L)) next n n' P) := Lib.hid fun W hW => by
    have hsv0 := HC.out.save hW.2 HP.out.2.2.2.2.2.2 (⟨nm, next, P, p3, p4, p5, p6, p7⟩ : Tp) hnm50.out ((next : Int) + 1)
    refine (c_change hW HP.out.2.1 HP.out.2.2.1 HP.out.2.2.2.1 HP.out.2.2.2.2.1 HP.out.2.2.2.2.2.1 (i := 5) (j := 0) rfl rfl (HC.out.cat.ins (⟨nm, next, P, p3, p4, p5, p6, p7⟩ : Tp) hnm50.out HP.out.1) (by rw [insT_length]; have := HC.out.few; omega) hsv0.1 entCreate1 (K := fun X' A' ι' => ∃ X1 C1 C' n', Saved X.open' X1 (heldM X ι) C1 (encC next L) (encC ((next : Int) + 1) (insT (⟨nm, next, P, p3, p4, p5, p6, p7⟩ : Tp) L)) ∧ Fold X1 X' (setT A [cN, lsN] (some (.file (encC ((next : Int) + 1) (insT (⟨nm, next, P, p3, p4, p5, p6, p7⟩ : Tp) L))))) ι A' ι' C1 C' next n n' P) (fun y X1 C1 rs' hy hsv => ?_)).mono ?_
    · have hx1 := hsv.goes.wr
      refine (c_Create1 hy (Tx.wr (X := X.open') ⟨rfl, rfl, HP.out.2.2.1, rfl, rfl⟩ hx1) (i0 := rs'.length + 5) (i1 := rs'.length + 4) (i2 := rs'.length + 1) ((app_get rs' _ 5).trans rfl) (HC.out.fold hW.2 HP.out.2.2.2.2.2.2 (⟨nm, next, P, p3, p4, p5, p6, p7⟩ : Tp) hnm50.out ((next : Int) + 1) hsv) nm p3 p4 p5 p6 p7 ((app_get rs' _ 4).trans rfl) ((app_get rs' _ 1).trans rfl) HSz.out.1 HSz.out.2.1 HSz.out.2.2.1 HSz.out.2.2.2).mono ?_
      rintro e w' ⟨rfl, X', A', ι', C', n', h', hf⟩
      exact ⟨rfl, X', A', ι', h', by rw [hf.goes.wr, hx1]; rfl, X1, C1, C', n', hsv, hf⟩
    · rintro e w' ⟨rfl, X', A', ι', Y, h2, hcm, hx, X1, C1, C', n', hsv, hf⟩
      exact ⟨rfl, Y, A', ι', n', h2, crMade HC.out.tree hsv hf hx hcm⟩
  clear KO HSz HP HC
  obtain ⟨⟨k1, k2, -⟩, -⟩ := KC.out _ _ _ _ _ [_, _] HH9.out
  go_upto_region 13 with fail
  have hnx : (w9.drew).cell? ⟨cb, 2, none⟩ = some (.int .i64 next) := (KC.out _ _ _ _ _ [_, _] HH9d.out).1.2.1
  refine wp_region_held_drew (S := (fun y => y.cell? ⟨b1, 0, none⟩ = some (.pointer (some ⟨cb, 0, none⟩)))) (by kernel_rfl) (KC.out _ _ _ _ _ [_, _] HH9d.out).1.1 (fun hHeld => ?_)
  refine wpAnyH_take (i := 0) (v := ?v0_27) rfl (by kernel_rfl) (by kernel_rfl) (by kernel_rfl) (fun _ _ _ h => h) (Or.inl ⟨by rfl, ?hy0_27⟩) (by assumption) ?rest0_27
  case hy0_27 => (intro w hSw; (try dsimp only at hSw); go_simp; (try with_reducible rfl))
  try simp only [Act.put, List.setIfInBounds_toArray, List.set_cons_zero, List.set_cons_succ]
  refine wpAnyH_take (i := 1) (v := ?v1_28) rfl (by kernel_rfl) (by kernel_rfl) (by kernel_rfl) (fun _ _ _ h => h) (Or.inl ⟨by rfl, ?hy1_28⟩) (by assumption) ?rest1_28
  case hy1_28 => (intro w hSw; (try dsimp only at hSw); go_simp; (try with_reducible rfl))
  try simp only [Act.put, List.setIfInBounds_toArray, List.set_cons_zero, List.set_cons_succ]
  refine wpAnyH_take (i := 2) (v := ?v2_29) rfl (by kernel_rfl) (by kernel_rfl) (by kernel_rfl) (fun _ _ _ h => h) (Or.inl ⟨by rfl, ?hy2_29⟩) (by assumption) ?rest2_29
  case hy2_29 => (intro w hSw; (try dsimp only at hSw); go_simp; (try with_reducible rfl))
  try simp only [Act.put, List.setIfInBounds_toArray, List.set_cons_zero, List.set_cons_succ]
  refine wpAnyH_take (i := 3) (v := ?v3_30) rfl (by kernel_rfl) (by kernel_rfl) (by kernel_rfl) (fun _ _ _ h => h) (Or.inl ⟨by rfl, ?hy3_30⟩) (by assumption) ?rest3_30
  case hy3_30 => (intro w hSw; (try dsimp only at hSw); go_simp; (try with_reducible rfl))
  try simp only [Act.put, List.setIfInBounds_toArray, List.set_cons_zero, List.set_cons_succ]
  refine wpAnyH_take (i := 6) (v := ?v6_31) rfl (by kernel_rfl) (by kernel_rfl) (by kernel_rfl) (fun _ _ _ h => h) (Or.inl ⟨by rfl, ?hy6_31⟩) (by assumption) ?rest6_31
  case hy6_31 => (intro w hSw; (try dsimp only at hSw); go_simp; (try with_reducible rfl))
  try simp only [Act.put, List.setIfInBounds_toArray, List.set_cons_zero, List.set_cons_succ]
  refine wpAnyH_take (i := 7) (v := ?v7_32) rfl (by kernel_rfl) (by kernel_rfl) (by kernel_rfl) (fun _ _ _ h => h) (Or.inl ⟨by rfl, ?hy7_32⟩) (by assumption) ?rest7_32
  case hy7_32 => (intro w hSw; (try dsimp only at hSw); go_simp; (try with_reducible rfl))
  change wpAnyH _ _ _ _ _ _ _ (Act.put _ (some 79) _) _
  try simp only [Act.put, List.setIfInBounds_toArray, List.set_cons_zero, List.set_cons_succ]
  refine wpAnyH_ready (rs := [4]) (by kernel_rfl) (by simp) ?_
  refine AllReadyH.cons rfl (fun K hK => ?_) AllReadyH.nil
  go_simp
  refine hK.out _ _ ((KC.out _ _ _ _ _ [_, _] HH9d.out).1.1) (fun hHeld => ?_)
  clear hK K
  try simp only [Act.put, List.setIfInBounds_toArray, List.set_cons_zero, List.set_cons_succ]
  refine wpAnyH_take (i := 5) (v := ?v5_33) rfl (by kernel_rfl) (by kernel_rfl) (by kernel_rfl) (fun _ _ _ h => h) (Or.inl ⟨by rfl, ?hy5_33⟩) (by assumption) ?rest5_33
  case hy5_33 => (intro w hSw; (try dsimp only at hSw); go_simp; (try with_reducible rfl))
  change wpAnyH _ _ _ _ _ _ _ (Act.put _ (some 77) _) _
  try simp only [Act.put, List.setIfInBounds_toArray, List.set_cons_zero, List.set_cons_succ]
  refine wpAnyH_ready (rs := [8]) (by kernel_rfl) (by simp) ?_
  refine AllReadyH.cons rfl (fun K hK => ?_) AllReadyH.nil
  go_simp
  refine (KCh.out _ HH9d.out).mono ?_
  rintro e w10 ⟨rfl, Y, A', ι', n', h10, hmd⟩
  go_wp2_with fail
  have HL := Lib.hid (h10.block (i := 1) rfl)
  have HS := Lib.hid (h10.block (i := 2) rfl)
  have HX := Lib.hid (h10.setRow 2 (c' := (tpz nm next P p3 p4 p5 p6 p7)) rfl)
  have HMD := Lib.hid hmd
  have hb1c : w10.cell? ⟨b1, 0, none⟩ = some (.pointer (some ⟨cb, 0, none⟩)) := (h10.arrCell (i := 4) rfl 0).trans rfl
  clear h10 hmd
  refine hK.out _ _ (hb1c) (fun hHeld => ?_)
  clear hK K
  try simp only [Act.put, List.setIfInBounds_toArray, List.set_cons_zero, List.set_cons_succ]
  refine wpAnyH_take (i := 9) (v := ?v9_34) rfl (by kernel_rfl) (by kernel_rfl) (by kernel_rfl) (fun _ _ _ h => h) (Or.inl ⟨by rfl, ?hy9_34⟩) (by assumption) ?rest9_34
  case hy9_34 => (intro w hSw; (try dsimp only at hSw); go_simp; (try with_reducible rfl))
  change wpAnyH _ _ _ _ _ _ _ (Act.put _ (some 14) _) _
  try simp only [Act.put, List.setIfInBounds_toArray, List.set_cons_zero, List.set_cons_succ]
  refine wpAnyH_done (by kernel_rfl) ?_ _
  clear hHeld hb1c KC KT KCh HH9 HH9d hnx k1 k2
  go_wp2_with (first | (refine loadTp rfl _ rfl b4 rfl nm next P p3 p4 p5 p6 p7 HL.out ?_) | (refine storeTp rfl _ _ rfl b3 nm next P p3 p4 p5 p6 p7 rfl rfl _ rfl HS.out ?_))
  have hld := run_loadVar_row (P := Tryz.prog) _ b3 31 31 (tpz nm next P p3 p4 p5 p6 p7) (0, 0) _ (HX.out.block (i := 2) rfl) Tryz.underlying31 rfl (infoTp _ _ _ _ _ _ _ _)
  (try simp only [Exit.inBlock, Exit.then])
  refine bodyPost_ret (v := .tuple #[.agg (tpz nm next P p3 p4 p5 p6 p7), .int .i64 0]) (results_ct Tryz.results11 _ _ ⟨b3, 0, none⟩ rfl _ hld) rfl ⟨rfl, Y, A', ι', n', mb', ?_, HMD.out⟩
  have hx := HX.out
  refine (hx.sub (rs' := catM mb' (insT (⟨nm, next, P, p3, p4, p5, p6, p7⟩ : Tp) L) :: catS cb F.fb ((next : Int) + 1) mb' :: rs) ?_).perm2 (List.Perm.swap _ _ _)
  exact List.Sublist.cons_cons _ (List.Sublist.cons _ (List.Sublist.cons _ (List.Sublist.cons _ (List.Sublist.cons _ (List.Sublist.cons_cons _ (List.Sublist.cons _ (List.Sublist.refl _)))))))
theorem Fs.perm (h : Fs w0 w F X A ι rs) {rs' : List Res} (hp : rs.Perm rs') : Fs w0 w F X A ι rs' := by
  obtain ⟨⟨k, l, ha, hl⟩, hr⟩ := h
  exact ⟨⟨k, l, ha.perm ((hp.cons _).cons _), hl⟩, hr⟩
theorem entDelete1 : EntersF Tryz.prog 48 := entersF_of Tryz.func48 (by kernel_rfl) rfl
theorem c_Delete1 (w : World) : Calls Tryz.prog 48 #[] w fun e w' => e = .returned (.int .i64 0) ∧ w' = w := by
  go_enter Tryz.func48, Tryz.ntmps48
  go_wp2
  go_ret
  exact ⟨rfl, rfl⟩
set_option maxHeartbeats 1000000 in
set_option maxRecDepth 100000 in
theorem c_DeleteNo (h : Fs w0 w F X A ι rs) {cb mb i j : Nat} {next : Int} {L : List Tp} (hr : rs[i]? = some (catS cb F.fb next mb)) (hr2 : rs[j]? = some (catM mb L)) (hL : CatL L) {nm : ByteArray} (hn : nm.size ≤ 50) (hN : Named nm true) (hno : ∀ x ∈ L, x.nm ≠ nm) :
    Calls Tryz.prog 15 #[.pointer (some ⟨cb, 0, none⟩), .string nm] w fun e w' => e = .returned (.int .i64 4) ∧ Fs w0 w' F X A ι rs := by
  have HR := Lib.hid (c_ready h hr)
  have hq : mapL L (keyB nm) = none := by
    cases hq : mapL L (keyB nm) with
    | none => rfl
    | some t =>
      have h1 := (hL.map_iff _ _).1 hq
      exact absurd (keyB_inj _ _ hn (hL.nm t h1.1) h1.2).symm (hno t h1.1)
  have HF := Lib.hid (c_Find h hr hr2 hn hN hq)
  clear h hr hr2 hL hN hno hq
  go_enter Tryz.func15, Tryz.ntmps15
  go_wp2_with fail
  refine HR.out.mono ?_
  clear HR
  rintro e w2 ⟨rfl, rfl⟩
  go_wp2_with fail
  refine HF.out.mono ?_
  clear HF
  rintro e w3 ⟨rfl, h3⟩
  have HK0 := Lib.hid (block_alloc_new w3 (.cells (tpz ByteArray.empty 0 0 0 0 0 false 0) 31 (0, 0)))
  have H3 := Lib.hid (h3.frm (((Frm.refl NoB w3).alloc (.cells (tpz ByteArray.empty 0 0 0 0 0 false 0) 31 (0, 0))).setRowNew (Nat.le_refl _) (tpz ByteArray.empty 0 0 0 0 0 false 0)))
  clear h3
  unfold findT
  go_upto_region 4 with (first | (refine allocRow rfl _ _ zeroTp rfl ?_) | (refine storeTp rfl _ _ rfl w3.heap.size ByteArray.empty 0 0 0 0 0 false 0 rfl rfl _ rfl HK0.out ?_))
  clear HK0
  go_wp2_with fail
  go_ret
  exact ⟨rfl, H3.out⟩
set_option maxHeartbeats 1000000 in
set_option maxRecDepth 100000 in
theorem c_Delete {cb mb n next used ops : Nat} {L : List Tp} {D : List ByteArray} (h : Fs w0 w F X A ι (catS cb F.fb next mb :: catM mb L :: rs)) (hc : Calm F X) (hR : Roomy X A next used ops n L D) (hm : X.m < 1000000) {t : Tp} (ht : t ∈ L) (hN : Named t.nm true) :
    Calls Tryz.prog 15 #[.pointer (some ⟨cb, 0, none⟩), .string t.nm] w fun e w' => e = .returned (.int .i64 0) ∧ ∃ Y A' mb', Fs w0 w' { F with begun := false, over := false } Y A' ι (catS cb F.fb next mb' :: catM mb' (delT t.nm L) :: rs) ∧ Gone X Y A A' (encC next L) (encC next (delT t.nm L)) := by
  have HR := Lib.hid (c_ready h (i := 0) rfl)
  have hn : t.nm.size ≤ 50 := hR.cat.nm t ht
  have HF := Lib.hid (c_Find h (i := 0) (j := 1) rfl rfl hn hN ((hR.cat.map_iff _ _).2 ⟨ht, rfl⟩))
  have KDel : Hid (∀ z mb', Fs w0 z F X A ι (catM mb' L :: catS cb F.fb next mb :: catM mb L :: rs) → ∃ o, (∀ ty, (Builtin.delete_ #[91, 95] ty #[.map (some mb'), .agg ((keyB t.nm).map B8).toArray]).run Tryz.prog z = .ok (.tuple #[]) (setBlock z mb' o)) ∧ Fs w0 (setBlock z mb' o) F X A ι (catM mb' (delT t.nm L) :: catS cb F.fb next mb :: catM mb L :: rs)) := Lib.hid fun z mb' hz => hz.catDel 0 rfl hR.cat ht
  have KCh : Hid (∀ z mb', Fs w0 z F X A ι (catM mb' (delT t.nm L) :: catS cb F.fb next mb :: catM mb L :: rs) → Calls Tryz.prog 44 #[.pointer (some ⟨cb, 0, none⟩), .int .i64 next, .map (some mb'), .func (.func 48) #[] #[]] z fun e w' => e = .returned (.int .i64 0) ∧ ∃ Y A', Fs w0 w' { F with begun := false, over := false } Y A' ι (catS cb F.fb next mb' :: catM mb' (delT t.nm L) :: rs) ∧ Gone X Y A A' (encC next L) (encC next (delT t.nm L))) := Lib.hid fun z mb' hz => by
    have hlen : (delT t.nm L).length ≤ 20 := Nat.le_trans (List.length_filter_le _ _) hR.few
    refine (c_change hz hc.b hc.d hc.op hc.lim hm (i := 1) (j := 0) rfl rfl (hR.cat.del t.nm) hlen (hR.saveDel hz.2 hc.l t.nm) entDelete1 (K := fun X' A' ι' => (∃ C1, Saved X.open' X' (X.P.bm :: heldL X (ι [cN, lsN])) C1 (encC next L) (encC next (delT t.nm L))) ∧ A' = setT A [cN, lsN] (some (.file (encC next (delT t.nm L)))) ∧ ι' = ι) (fun y X1 C1 rs' hy hsv => ?_)).mono ?_
    · refine (c_Delete1 y).mono ?_
      rintro e w' ⟨rfl, rfl⟩
      exact ⟨rfl, X1, _, ι, hy, hsv.goes.wr, ⟨C1, hsv⟩, rfl, rfl⟩
    · rintro e w' ⟨rfl, X', A', ι', Y, h2, hcm, hx, ⟨C1, hsv⟩, hA, rfl⟩
      refine ⟨rfl, Y, A', ?_, gone hsv hA hx hcm⟩
      have h3 : Fs w0 w' { F with begun := false, over := false } Y A' ι' (catM mb' (delT t.nm L) :: catS cb F.fb next mb' :: catM mb L :: rs) := h2
      exact (h3.perm (List.Perm.swap _ _ _)).sub (((List.Sublist.refl rs).cons (catM mb L)).cons_cons _ |>.cons_cons _)
  have HH := Lib.hid h
  have hnn := Lib.hid hn
  clear h hc hR hm ht hN hn
  obtain ⟨nm, q1, q2, q3, q4, q5, q6, q7⟩ := t
  go_enter Tryz.func15, Tryz.ntmps15
  go_wp2_with fail
  refine HR.out.mono ?_
  clear HR
  rintro e w2 ⟨rfl, rfl⟩
  go_wp2_with fail
  refine HF.out.mono ?_
  clear HF
  rintro e w3 ⟨rfl, h3⟩
  have HK0 := Lib.hid (block_alloc_new w3 (.cells (tpz ByteArray.empty 0 0 0 0 0 false 0) 31 (0, 0)))
  have H3 := Lib.hid (h3.frm (((Frm.refl NoB w3).alloc (.cells (tpz ByteArray.empty 0 0 0 0 0 false 0) 31 (0, 0))).setRowNew (Nat.le_refl _) (tpz nm q1 q2 q3 q4 q5 q6 q7)))
  clear h3 HH
  dsimp only [findT, Tp.cells]
  go_upto_region 4 with (first | (refine allocRow rfl _ _ zeroTp rfl ?_) | (refine storeTp rfl _ _ rfl w3.heap.size nm q1 q2 q3 q4 q5 q6 q7 rfl rfl _ rfl HK0.out ?_))
  clear HK0
  obtain ⟨w4, hw4⟩ : ∃ w4, (w3.alloc (.cells (tpz ByteArray.empty 0 0 0 0 0 false 0) 31 (0, 0))).setRow w3.heap.size (tpz nm q1 q2 q3 q4 q5 q6 q7) = w4 := ⟨_, rfl⟩
  show Code.wp Tryz.prog _ _ _ ((w3.alloc (.cells (tpz ByteArray.empty 0 0 0 0 0 false 0) 31 (0, 0))).setRow w3.heap.size (tpz nm q1 q2 q3 q4 q5 q6 q7))
  rw [hw4] at H3 ⊢
  have c3 : w4.cell? ⟨cb, 3, none⟩ = some (.map (some mb)) := (H3.out.arrCell (i := 0) rfl 3).trans rfl
  have HCl := Lib.hid (c_clone H3.out (j := 1) rfl)
  clear hw4 H3
  go_wp2_with fail
  refine HCl.out.mono ?_
  clear HCl c3
  rintro e w5 ⟨mb', rfl, h5⟩
  have KO := Lib.hid (c_of w5 nm hnn.out)
  have H5 := Lib.hid h5
  clear h5
  go_wp2_with fail
  refine KO.out.mono ?_
  clear KO
  rintro e w6 ⟨rfl, hf6⟩
  obtain ⟨o, hdel0, h7⟩ := KDel.out w6 mb' (H5.out.frm hf6)
  have hdel : ∀ ty, (Builtin.delete_ #[91, 95] ty #[.map (some mb'), .agg (keyC nm)]).run Tryz.prog w6 = .ok (.tuple #[]) (setBlock w6 mb' o) := hdel0
  clear hdel0
  have d2 : (setBlock w6 mb' o).cell? ⟨cb, 2, none⟩ = some (.int .i64 next) := (h7.arrCell (i := 1) rfl 2).trans rfl
  have HCh := Lib.hid (KCh.out _ _ h7)
  clear h7 hf6 H5 KDel KCh
  go_wp2_with fail
  refine HCh.out.mono ?_
  clear HCh hdel d2
  rintro e w8 ⟨rfl, Y, A', h8, hg⟩
  have H8 := Lib.hid (And.intro h8 hg)
  clear h8 hg
  go_wp2
  go_ret
  exact ⟨rfl, Y, A', mb', H8.out.1, H8.out.2⟩
end
section
open Go.ChangeMaps Go.MapKept Go.RowKit
theorem zeroStz (W : World) : (zeroValue 29).run Tryz.prog W = .ok (.agg (stz 0 0 0 false 0)) W := by kernel_rfl
theorem infoStz (a b c : Int) (d : Bool) (e : Int) : (Tryz.prog.info? 29).map (·.size) = some (stz a b c d e).size := by kernel_rfl
theorem oneStz (a b c : Int) (d : Bool) (e : Int) : ((stz a b c d e).all fun x => x.oneCell') = true := by simp [stz, Value.oneCell']
theorem storeStz {ops : Array Oper} {rest : List Oper} {o : Oper} {a : Act} {w : World} {Q : Exit → Act → World → Prop} (hgd : o.guard = none) (x y : Operand) (ho : o.op = .store 29 x y) (g : Nat) (p1 p2 p3 : Int) (p4 : Bool) (p5 : Int) (hx : a.eval x = .pointer (some ⟨g, 0, none⟩)) (hy : a.eval y = .agg (stz p1 p2 p3 p4 p5)) (old : Array Value) (hold : old.size = 5)
    (hg : w.heap[g]? = some (.cells old 29 (0, 0))) (h : wpList Tryz.prog ops Q rest (a.put o.dst undef) (w.setRow g (stz p1 p2 p3 p4 p5))) : wpList Tryz.prog ops Q (o :: rest) a w :=
  wpList_store_row hgd _ x y ho g (stz p1 p2 p3 p4 p5) hx hy _ old hg (infoStz _ _ _ _ _) (by rw [hold]; rfl) (oneStz _ _ _ _ _) h
set_option maxRecDepth 100000 in
theorem p_plain (w : World) : Calls Tryz.prog 13 #[] w fun e w' => e = .returned (.agg (stz 600 (-1) (-1) false 0)) ∧ Frm NoB w w' := by
  have HK0 := Lib.hid (block_alloc_new w (.cells (stz 0 0 0 false 0) 29 (0, 0)))
  go_enter Tryz.func13, Tryz.ntmps13
  go_upto_region 1 with (refine allocRow rfl _ _ zeroStz rfl ?_)
  go_wp2_with (refine storeStz rfl _ _ rfl w.heap.size 600 (-1) (-1) false 0 rfl rfl _ rfl HK0.out ?_)
  have hb2 := setRow_heap _ _ _ (stz 600 (-1) (-1) false 0) _ _ HK0.out
  have hld := run_loadVar_row (P := Tryz.prog) _ w.heap.size 29 29 (stz 600 (-1) (-1) false 0) (0, 0) _ hb2 Tryz.underlying29 rfl (infoStz _ _ _ _ _)
  (try simp only [Exit.inBlock, Exit.then])
  exact bodyPost_ret (v := .agg (stz 600 (-1) (-1) false 0)) (results_c1 Tryz.results13 _ _ ⟨w.heap.size, 0, none⟩ rfl _ hld) rfl ⟨rfl, ((Frm.refl NoB w).alloc _).setRowNew (Nat.le_refl _) _⟩
end
section
open Go.ChangeMaps Go.MapKept Go.RowKit
variable {w0 : Gnd} {w : World} {rs : List Res} {fb cb next used ops : Nat} {L : List Tp}
theorem CatI.st (h : CatI w0 w fb cb next used ops L rs) : St w0 w rs := by
  obtain ⟨F, X, A, ι, mb, n, D, h1, ⟨⟨k, l, ha, -⟩, -⟩, h3, h4⟩ := h
  exact ha.1.drop 5
structure SetOk (p3 p4 p5 p7 : Int) : Prop where
  h1 : 512 ≤ p3 ∧ p3 ≤ 8192
  h2 : -1 ≤ p4 ∧ p4 ≤ 1099511627776
  h3 : -1 ≤ p5 ∧ p5 ≤ 1125899906842624
  h4 : 0 ≤ p7 ∧ p7 ≤ 1125899906842624
theorem ci_Create (h : CatI w0 w fb cb next used ops L rs) (hL : L.length < 20) (hn : next < 100) {P : Nat} (hP : 1 ≤ P ∧ P ≤ 8) (hu : used + P ≤ 70) (ho : ops < 900000) {nm : ByteArray} (hn50 : nm.size ≤ 50) (hN : Named nm true) (hno : ∀ x ∈ L, x.nm ≠ nm) {p3 p4 p5 : Int} {p6 : Bool} {p7 : Int} (hs : SetOk p3 p4 p5 p7) :
    Calls Tryz.prog 11 #[.pointer (some ⟨cb, 0, none⟩), .string nm, .int .i64 P, .agg (stz p3 p4 p5 p6 p7)] w fun e w' => e = .returned (.tuple #[.agg (tpz nm next P p3 p4 p5 p6 p7), .int .i64 0]) ∧ CatI w0 w' fb cb (next + 1) (used + P) (ops + 1) (insT ⟨nm, next, P, p3, p4, p5, p6, p7⟩ L) rs := by
  obtain ⟨F, X, A, ι, mb, n, D, rfl, hf, hc, hr⟩ := h
  refine (c_Create hf hc.b hc.d hc.op hc.lim (by have := hr.m; omega) hc.l (hr.may hL hn hP hu) hn50 hN hno p3 p4 p5 p6 p7 hs.h1 hs.h2 hs.h3 hs.h4).mono ?_
  rintro e w' ⟨he, Y, A', ι', n', mb', hf', hm⟩
  refine ⟨he, { F with begun := false, over := false }, Y, A', ι', mb', n', D ++ partNs next P, rfl, ?_, ⟨rfl, hc.d, hm.op, hm.l, hm.same.lim.trans hc.lim⟩, hr.made hL hn hP (t := ⟨nm, next, P, p3, p4, p5, p6, p7⟩) rfl rfl hn50 hno ?_ hm⟩
  · have : ((next : Int) + 1) = ((next + 1 : Nat) : Int) := by omega
    rw [this] at hf'
    exact hf'
  · have h1 := hs.h1; have h2 := hs.h2; have h3 := hs.h3; have h4 := hs.h4
    intro x hx
    simp only [Tp.nums, List.mem_cons, List.not_mem_nil, or_false] at hx
    rcases hx with rfl | rfl | rfl | rfl | rfl | rfl | rfl
    · exact i64_small (by omega)
    · exact i64_small (by omega)
    · constructor <;> omega
    · constructor <;> omega
    · constructor <;> omega
    · cases p6 <;> (constructor <;> simp [bit01])
    · constructor <;> omega
theorem ci_Delete (h : CatI w0 w fb cb next used ops L rs) (ho : ops < 900000) {t : Tp} (ht : t ∈ L) (hN : Named t.nm true) :
    Calls Tryz.prog 15 #[.pointer (some ⟨cb, 0, none⟩), .string t.nm] w fun e w' => e = .returned (.int .i64 0) ∧ CatI w0 w' fb cb next used (ops + 1) (delT t.nm L) rs := by
  obtain ⟨F, X, A, ι, mb, n, D, rfl, hf, hc, hr⟩ := h
  refine (c_Delete hf hc hr (by have := hr.m; omega) ht hN).mono ?_
  rintro e w' ⟨he, Y, A', mb', hf', hg⟩
  exact ⟨he, { F with begun := false, over := false }, Y, A', ι, mb', n, D, rfl, hf', ⟨rfl, hc.d, hg.op, hg.l, hg.same.lim.trans hc.lim⟩, hr.gone ht hg⟩
theorem ci_DeleteNo (h : CatI w0 w fb cb next used ops L rs) {nm : ByteArray} (hn : nm.size ≤ 50) (hN : Named nm true) (hno : ∀ x ∈ L, x.nm ≠ nm) :
    Calls Tryz.prog 15 #[.pointer (some ⟨cb, 0, none⟩), .string nm] w fun e w' => e = .returned (.int .i64 4) ∧ CatI w0 w' fb cb next used ops L rs := by
  obtain ⟨F, X, A, ι, mb, n, D, rfl, hf, hc, hr⟩ := h
  refine (c_DeleteNo hf (i := 0) (j := 1) rfl rfl hr.cat hn hN hno).mono ?_
  rintro e w' ⟨he, hf'⟩
  exact ⟨he, F, X, A, ι, mb, n, D, rfl, hf', hc, hr⟩
theorem ci_Dir (h : CatI w0 w fb cb next used ops L rs) (id p : Nat) (hid : id < 100) (hp : p < 10) (nm : ByteArray) (p2 p3 p4 p5 : Int) (p6 : Bool) (p7 : Int) :
    Calls Tryz.prog 24 #[.pointer (some ⟨cb, 0, none⟩), .agg (tpz nm id p2 p3 p4 p5 p6 p7), .int .i64 p] w fun e w' => e = .returned (.string (pathB [cN, partN id p])) ∧ CatI w0 w' fb cb next used ops L rs := by
  obtain ⟨F, X, A, ι, mb, n, D, rfl, hf, hc, hr⟩ := h
  refine (c_Dir hf (i := 0) rfl id p hid hp nm p2 p3 p4 p5 p6 p7).mono ?_
  rintro e w' ⟨he, hf'⟩
  exact ⟨he, F, X, A, ι, mb, n, D, rfl, hf', hc, hr⟩
theorem ci_StatProd (h : CatI w0 w fb cb next used ops L rs) {t : Tp} (ht : t ∈ L) (hn : next ≤ 100) (id p : Nat) (hid : t.id = id) (hp : (p : Int) < t.parts) (hp10 : p < 10) :
    Calls Tryz.prog 35 #[.pointer (some ⟨fb, 0, none⟩), .string (pathB [cN, partN id p, prodN])] w fun e w' => e = .returned (.tuple #[.agg #[.int .i64 1, .int .i64 0], .int .i64 0]) ∧ CatI w0 w' fb cb next used ops L rs := by
  obtain ⟨F, X, A, ι, mb, n, D, rfl, hf, hc, hr⟩ := h
  obtain ⟨id', P, q1, q2, q3, q4⟩ := hr.top t ht
  obtain rfl : id = id' := by omega
  obtain ⟨⟨m, a1⟩, a2, a3⟩ := hr.new _ (q4 p (by omega))
  have hst : statR A [cN, partN id p, prodN] = .tuple #[.agg #[.int .i64 1, .int .i64 0], .int .i64 0] := by unfold statR; rw [a3]; rfl
  have hs := f_StatP hf [cN, partN id p, prodN] (by simp) (by
    intro x hx
    simp only [List.mem_cons, List.not_mem_nil, or_false] at hx
    rcases hx with rfl | rfl | rfl
    · exact cN_ok
    · exact partN_ok (by omega) hp10
    · exact prodN_ok) (by simp) (fun k hk _ => by
      have hk : k < 3 := hk
      match k, hk with
      | 0, _ => exact hf.2.root
      | 1, _ => exact ⟨_, hr.tree.c⟩
      | 2, _ => exact ⟨_, a1⟩)
  rw [hst] at hs
  refine hs.mono ?_
  rintro e w' ⟨he, hf'⟩
  exact ⟨he, F, X, A, ι, mb, n, D, rfl, hf', hc, hr⟩
theorem nm1_ok (c : UInt8) (h : c.toNat < 128 ∧ c ≠ 47 ∧ c ≠ 0 ∧ c ≠ 46) : NameOk ⟨#[c]⟩ :=
  nameOk_of _ ⟨Nat.le_refl 1, (by omega : 1 ≤ 50)⟩ (by simp [h.1, h.2.1, h.2.2.1]) (by simp [h.2.2.2])
theorem setPlain : SetOk 600 (-1) (-1) 0 := ⟨by decide, by decide, by decide, by decide⟩
def topA : Tp := ⟨⟨#[97]⟩, 1, 2, 600, -1, -1, false, 0⟩
theorem path_a1 : pathB [cN, partN 1 1] = ⟨#[47, 99, 47, 116, 49, 45, 49]⟩ := by decide +kernel
theorem path_a2 : pathB [cN, partN 1 1, prodN] = ⟨#[47, 99, 47, 116, 49, 45, 49, 47, 112, 114, 111, 100, 117, 99, 101, 114, 115]⟩ := by decide +kernel
set_option maxHeartbeats 1000000 in
set_option maxRecDepth 100000 in
theorem awake17_any (h : St w0 w rs) : Calls Tryz.prog 9 #[] w fun e w' => e = .returned (.bool true) ∧ St w0 w' rs := by
  have HF := Lib.hid (ci_fresh h)
  have KC : Hid (∀ W fb cb, CatI w0 W fb cb 1 0 0 [] rs → Calls Tryz.prog 11 #[.pointer (some ⟨cb, 0, none⟩), .string ⟨#[97]⟩, .int .i64 2, .agg (stz 600 (-1) (-1) false 0)] W fun e w' => e = .returned (.tuple #[.agg (tpz ⟨#[97]⟩ 1 2 600 (-1) (-1) false 0), .int .i64 0]) ∧ CatI w0 w' fb cb 2 2 1 [topA] rs) := Lib.hid fun W fb cb hW => ci_Create hW (by decide) (by decide) (P := 2) (by decide) (by decide) (by decide) (nm := ⟨#[97]⟩) (by decide) (named (nm1_ok 97 (by decide))) (by simp) (p6 := false) setPlain
  have KD : Hid (∀ W fb cb, CatI w0 W fb cb 2 2 1 [topA] rs → Calls Tryz.prog 24 #[.pointer (some ⟨cb, 0, none⟩), .agg (tpz ⟨#[97]⟩ 1 2 600 (-1) (-1) false 0), .int .i64 1] W fun e w' => e = .returned (.string ⟨#[47, 99, 47, 116, 49, 45, 49]⟩) ∧ CatI w0 w' fb cb 2 2 1 [topA] rs) := Lib.hid fun W fb cb hW => by
    have := ci_Dir hW 1 1 (by decide) (by decide) ⟨#[97]⟩ 2 600 (-1) (-1) false 0
    rw [path_a1] at this
    exact this
  have KS : Hid (∀ W fb cb, CatI w0 W fb cb 2 2 1 [topA] rs → Calls Tryz.prog 35 #[.pointer (some ⟨fb, 0, none⟩), .string ⟨#[47, 99, 47, 116, 49, 45, 49, 47, 112, 114, 111, 100, 117, 99, 101, 114, 115]⟩] W fun e w' => e = .returned (.tuple #[.agg #[.int .i64 1, .int .i64 0], .int .i64 0]) ∧ CatI w0 w' fb cb 2 2 1 [topA] rs) := Lib.hid fun W fb cb hW => by
    have := ci_StatProd hW (t := topA) (List.mem_cons_self ..) (by decide) 1 1 rfl (by decide) (by decide)
    rw [path_a2] at this
    exact this
  have KE : Hid (∀ W fb cb, CatI w0 W fb cb 2 2 1 [topA] rs → Calls Tryz.prog 15 #[.pointer (some ⟨cb, 0, none⟩), .string ⟨#[97]⟩] W fun e w' => e = .returned (.int .i64 0) ∧ CatI w0 w' fb cb 2 2 2 [] rs) := Lib.hid fun W fb cb hW => by
    have := ci_Delete hW (by decide) (t := topA) (List.mem_cons_self ..) (named (nm1_ok 97 (by decide)))
    rw [show delT topA.nm [topA] = [] by simp [delT]] at this
    exact this
  have KN : Hid (∀ W fb cb, CatI w0 W fb cb 2 2 2 [] rs → Calls Tryz.prog 15 #[.pointer (some ⟨cb, 0, none⟩), .string ⟨#[97]⟩] W fun e w' => e = .returned (.int .i64 4) ∧ CatI w0 w' fb cb 2 2 2 [] rs) := Lib.hid fun W fb cb hW => ci_DeleteNo hW (by decide) (named (nm1_ok 97 (by decide))) (by simp)
  clear h
  go_enter Tryz.func9, Tryz.ntmps9
  go_wp2_with fail
  refine HF.out.mono ?_
  clear HF
  rintro e w1 ⟨hb, fb, cb, rfl, h1⟩
  have H1 := Lib.hid h1
  clear h1
  go_wp2_with fail
  refine (p_plain w1).mono ?_
  rintro e w2 ⟨rfl, hf⟩
  have HC := Lib.hid (KC.out _ _ _ (H1.out.frm hf))
  clear hf H1 KC
  go_wp2_with fail
  refine HC.out.mono ?_
  clear HC
  rintro e w3 ⟨rfl, h3⟩
  have HK0 := Lib.hid (block_alloc_new w3 (.cells (tpz ByteArray.empty 0 0 0 0 0 false 0) 31 (0, 0)))
  have H4 := Lib.hid (h3.frm (((Frm.refl NoB w3).alloc (.cells (tpz ByteArray.empty 0 0 0 0 0 false 0) 31 (0, 0))).setRowNew (Nat.le_refl _) (tpz ⟨#[97]⟩ 1 2 600 (-1) (-1) false 0)))
  have HB4 := Lib.hid (setRow_heap _ _ _ (tpz ⟨#[97]⟩ 1 2 600 (-1) (-1) false 0) _ _ HK0.out)
  clear h3
  go_upto_region 5 with (first | (refine allocRow rfl _ _ zeroTp rfl ?_) | (refine storeTp rfl _ _ rfl w3.heap.size ⟨#[97]⟩ 1 2 600 (-1) (-1) false 0 rfl rfl _ rfl HK0.out ?_))
  clear HK0
  obtain ⟨w4, hw4⟩ : ∃ w4, (w3.alloc (.cells (tpz ByteArray.empty 0 0 0 0 0 false 0) 31 (0, 0))).setRow w3.heap.size (tpz ⟨#[97]⟩ 1 2 600 (-1) (-1) false 0) = w4 := ⟨_, rfl⟩
  obtain ⟨g4, hg4⟩ : ∃ g4, w3.heap.size = g4 := ⟨_, rfl⟩
  show Code.wp Tryz.prog _ _ _ ((w3.alloc (.cells (tpz ByteArray.empty 0 0 0 0 0 false 0) 31 (0, 0))).setRow w3.heap.size (tpz ⟨#[97]⟩ 1 2 600 (-1) (-1) false 0))
  rw [hw4] at H4 HB4 ⊢
  rw [hg4] at HB4 ⊢
  clear hw4 hg4
  have e1 : w4.cell? ⟨g4, 1, none⟩ = some (.int .i64 1) := (cell_of_block HB4.out).trans rfl
  have HD := Lib.hid (KD.out _ _ _ H4.out)
  clear KD H4
  go_wp2_with (refine loadTp rfl _ rfl g4 rfl ⟨#[97]⟩ 1 2 600 (-1) (-1) false 0 HB4.out ?_)
  refine HD.out.mono ?_
  clear HD HB4 e1
  rintro e w5 ⟨rfl, h5⟩
  have HS := Lib.hid (KS.out _ _ _ h5)
  clear h5 KS
  go_wp2_with fail
  refine HS.out.mono ?_
  clear HS
  rintro e w6 ⟨rfl, h6⟩
  have H6 := Lib.hid (h6.frm ((Frm.refl NoB w6).alloc (.cells #[.int .i64 1, .int .i64 0] 82 (0, 0))))
  have e7 : (w6.alloc (.cells #[.int .i64 1, .int .i64 0] 82 (0, 0))).cell? ⟨w6.heap.size, 0, none⟩ = some (.int .i64 1) := (cell_of_block (block_alloc_new w6 _)).trans rfl
  have HE := Lib.hid (KE.out _ _ _ H6.out)
  clear h6 KE H6
  go_wp2_with fail
  refine HE.out.mono ?_
  clear HE e7
  rintro e w8 ⟨rfl, h8⟩
  have HN := Lib.hid (KN.out _ _ _ h8)
  clear h8 KN
  go_wp2_with fail
  refine HN.out.mono ?_
  clear HN
  rintro e w9 ⟨rfl, h9⟩
  have H9 := Lib.hid h9.st
  clear h9
  go_wp2
  go_ret
  exact ⟨rfl, H9.out⟩
end
section
open Go.ChangeMaps Go.MapKept Go.RowKit
def xN : ByteArray := ⟨#[120]⟩
def noneN : ByteArray := ⟨#[110, 111, 110, 101]⟩
theorem xN_ok : NameOk xN := nm1_ok 120 (by decide)
theorem noneN_ok : NameOk noneN := nameOk_of _ (by decide) (by decide) (by decide)
theorem path_x : pathB [xN] = ⟨#[47, 120]⟩ := by decide +kernel
theorem path_none : pathB [noneN] = ⟨#[47, 110, 111, 110, 101]⟩ := by decide +kernel
theorem Fs.st {w0 : Gnd} {w : World} {rs : List Res} {X : Sys} {F : FH} {A : Path → Option Nd} {ι : Path → Nat} (h : Fs w0 w F X A ι rs) : St w0 w rs := by
  obtain ⟨⟨k, l, ha, -⟩, -⟩ := h
  exact ha.1.drop 3
set_option maxHeartbeats 1000000 in
set_option maxRecDepth 100000 in
theorem catalogNothing_any (w : World) (s : ByteArray) :
    Calls Tryz.prog 5 #[.string s] w fun e w' => e = .returned (.bool true) ∧ Frm NoB w w' := by
  obtain ⟨w1, hw1⟩ : ∃ w1, w = w1 := ⟨_, rfl⟩
  rw [hw1]
  clear hw1
  have HF := Lib.hid (c_fresh (St.start w1))
  have s0 : (0 : Int) ≤ (s.size : Int) := Int.natCast_nonneg _
  by_cases hs : (300 : Int) < (s.size : Int)
  · go_enter Tryz.func5, Tryz.ntmps5
    go_wp2_with fail
    refine HF.out.mono ?_
    clear HF
    rintro e w2 ⟨hb, F, X, A, ι, cb, mb, n, rfl, h2, -⟩
    have H2 := Lib.hid h2.st
    clear h2
    go_wp2_with fail
    refine (awake17_any H2.out).mono ?_
    rintro e w8 ⟨rfl, h8⟩
    have H8 := Lib.hid (h8.drop 2).base
    clear h8
    go_wp2
    go_ret
    exact ⟨rfl, H8.out⟩
  · go_enter Tryz.func5, Tryz.ntmps5
    go_wp2_with fail
    refine HF.out.mono ?_
    clear HF
    rintro e w2 ⟨hb, F, X, A, ι, cb, mb, n, rfl, h2, hc, ht, hrt, hm, hfi, hfb⟩
    have hx : A [xN] = none := by
      cases hq : A [xN] with
      | none => rfl
      | some y => exact absurd (hrt.2 xN (by rw [hq]; simp)) (by decide)
    have hno : A [noneN] = none := by
      cases hq : A [noneN] with
      | none => rfl
      | some y => exact absurd (hrt.2 noneN (by rw [hq]; simp)) (by decide)
    have hx2 : A [xN, lsN] = none := by
      cases hq : A [xN, lsN] with
      | none => rfl
      | some y =>
        obtain ⟨-, m, hm⟩ := h2.2.up [xN] lsN (by show A [xN, lsN] ≠ none; rw [hq]; simp)
        rw [hx] at hm
        cases hm
    have hdz : dat (64 + 64) - dat 64 ≤ X.fb := by
      have : dat (64 + 64) - dat 64 = 0 := by decide
      omega
    have hmk := f_MkdirOut h2 hc (by omega) hrt.1 (by decide) xN_ok hx (by omega) hdz
    rw [path_x] at hmk
    have HMK := Lib.hid hmk
    have HA := Lib.hid (And.intro hx2 hno)
    clear h2 hc ht hrt hm hfi hfb hx hno hx2 hmk hdz
    go_wp2_with fail
    refine HMK.out.mono ?_
    clear HMK
    rintro e w3 ⟨rfl, A', ι', Y, S, h3, hA'⟩
    have a1 : A' [xN] = some (.dir 0) := by rw [hA']; exact if_pos rfl
    have a2 : A' [xN, lsN] = none := by rw [hA']; unfold addT; rw [if_neg (by simp), if_neg (by simp)]; exact HA.out.1
    have a3 : A' [noneN] = none := by rw [hA']; unfold addT; rw [if_neg (by decide), if_neg (by simp)]; exact HA.out.2
    have KB : Hid (∀ W, Fs w1 W F Y A' ι' (catS cb F.fb 1 mb :: catM mb [] :: []) → Calls Tryz.prog 21 #[.pointer (some ⟨F.fb, 0, none⟩), .string ⟨#[47, 120]⟩] W fun e w' => e = .returned (.tuple #[.pointer none, .int .i64 10]) ∧ Fs w1 w' F Y A' ι' (catS cb F.fb 1 mb :: catM mb [] :: [])) := Lib.hid fun W hW => by
      have := c_OpenBad hW xN_ok a1 a2
      rw [path_x] at this
      exact this
    have KN : Hid (∀ W, Fs w1 W F Y A' ι' (catS cb F.fb 1 mb :: catM mb [] :: []) → Calls Tryz.prog 21 #[.pointer (some ⟨F.fb, 0, none⟩), .string ⟨#[47, 110, 111, 110, 101]⟩] W fun e w' => e = .returned (.tuple #[.pointer none, .int .i64 4]) ∧ Fs w1 w' F Y A' ι' (catS cb F.fb 1 mb :: catM mb [] :: [])) := Lib.hid fun W hW => by
      have := c_OpenNone hW noneN_ok a3
      rw [path_none] at this
      exact this
    have H3 := Lib.hid h3
    clear h3 hA' a1 a2 a3 HA
    go_wp2_with fail
    refine (KB.out _ H3.out).mono ?_
    clear KB
    rintro e w4 ⟨rfl, h4⟩
    have H4 := Lib.hid h4
    clear h4 H3
    go_wp2_with fail
    refine (KN.out _ H4.out).mono ?_
    clear KN
    rintro e w5 ⟨rfl, h5⟩
    have H5 := Lib.hid h5
    clear h5 H4
    go_wp2_with fail
    refine (p_plain w5).mono ?_
    rintro e w6 ⟨rfl, hf6⟩
    have H6 := Lib.hid (H5.out.frm hf6)
    clear hf6 H5
    go_wp2_with fail
    refine (n_Create w6 _ _ _ _ _ _ _).mono ?_
    rintro e w7 ⟨rfl, hf7⟩
    have HK0 := Lib.hid (block_alloc_new w7 (.cells (tpz ByteArray.empty 0 0 0 0 0 false 0) 31 (0, 0)))
    have H7 := Lib.hid ((H6.out.frm hf7).frm (((Frm.refl NoB w7).alloc (.cells (tpz ByteArray.empty 0 0 0 0 0 false 0) 31 (0, 0))).setRowNew (Nat.le_refl _) (tpz ByteArray.empty 0 0 0 0 0 false 0)))
    clear hf7 H6
    go_upto_region 8 with (first | (refine allocRow rfl _ _ zeroTp rfl ?_) | (refine storeTp rfl _ _ rfl w7.heap.size ByteArray.empty 0 0 0 0 0 false 0 rfl rfl _ rfl HK0.out ?_))
    clear HK0
    obtain ⟨w8, hw8⟩ : ∃ w8, (w7.alloc (.cells (tpz ByteArray.empty 0 0 0 0 0 false 0) 31 (0, 0))).setRow w7.heap.size (tpz ByteArray.empty 0 0 0 0 0 false 0) = w8 := ⟨_, rfl⟩
    show Code.wp Tryz.prog _ _ _ ((w7.alloc (.cells (tpz ByteArray.empty 0 0 0 0 0 false 0) 31 (0, 0))).setRow w7.heap.size (tpz ByteArray.empty 0 0 0 0 0 false 0))
    rw [hw8] at H7 ⊢
    clear hw8
    go_wp2_with fail
    refine (n_Sweep w8).mono ?_
    rintro e w9 ⟨rfl, rfl⟩
    go_wp2_with fail
    refine (n_Find w9 s).mono ?_
    rintro e w10 ⟨rfl, hf10⟩
    have HK0 := Lib.hid (block_alloc_new w10 (.cells (tpz ByteArray.empty 0 0 0 0 0 false 0) 31 (0, 0)))
    have H10 := Lib.hid ((H7.out.frm hf10).frm (((Frm.refl NoB w10).alloc (.cells (tpz ByteArray.empty 0 0 0 0 0 false 0) 31 (0, 0))).setRowNew (Nat.le_refl _) (tpz ByteArray.empty 0 0 0 0 0 false 0)))
    clear hf10 H7
    go_upto_region 10 with (first | (refine allocRow rfl _ _ zeroTp rfl ?_) | (refine storeTp rfl _ _ rfl w10.heap.size ByteArray.empty 0 0 0 0 0 false 0 rfl rfl _ rfl HK0.out ?_))
    clear HK0
    obtain ⟨w11, hw11⟩ : ∃ w11, (w10.alloc (.cells (tpz ByteArray.empty 0 0 0 0 0 false 0) 31 (0, 0))).setRow w10.heap.size (tpz ByteArray.empty 0 0 0 0 0 false 0) = w11 := ⟨_, rfl⟩
    show Code.wp Tryz.prog _ _ _ ((w10.alloc (.cells (tpz ByteArray.empty 0 0 0 0 0 false 0) 31 (0, 0))).setRow w10.heap.size (tpz ByteArray.empty 0 0 0 0 0 false 0))
    rw [hw11] at H10 ⊢
    clear hw11
    go_wp2_with fail
    refine (n_Delete w11 _).mono ?_
    rintro e w12 ⟨rfl, rfl⟩
    go_wp2_with fail
    refine (n_List w12).mono ?_
    rintro e w15 ⟨rfl, rfl⟩
    go_wp2_with fail
    refine (n_Dir w15 _ _).mono ?_
    rintro e w13 ⟨rfl, hf13⟩
    have H13 := Lib.hid (H10.out.frm hf13).st
    clear hf13 H10
    go_wp2_with fail
    refine (awake17_any H13.out).mono ?_
    rintro e w14 ⟨rfl, h14⟩
    have H14 := Lib.hid (h14.drop 2).base
    clear h14
    go_wp2
    go_ret
    exact ⟨rfl, H14.out⟩
end
end Go.Proofs.YtlemndledcmhiaaGreatDoor
