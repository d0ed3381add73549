/-
  The catalog, from the device up, part 17.
-/
import Derived.Test.YtlemndledcmhiaaGreatDoorQ16
namespace Go.Proofs.YtlemndledcmhiaaGreatDoor
set_option linter.unusedVariables false
set_option linter.unusedSimpArgs false
section
open Go.ChangeMaps Go.MapKept Go.RowKit
variable {w0 : Gnd} {w : World} {rs : List Res} {X : Sys} {F : FH} {A : Path → Option Nd} {ι : Path → Nat}
set_option maxHeartbeats 1000000 in
set_option maxRecDepth 100000 in
theorem c_Make (h : Fs w0 w F X rootT rootI rs) (hb : F.begun = false) (hd : F.dead = false) (hop : X.op = false) (hl : X.l = []) (hlim : X.D.lim = none) (hm : X.m < 1000000) (hfi : 2 ≤ X.fi) (hfb : 3 ≤ X.fb) :
    Calls Tryz.prog 38 #[.pointer (some ⟨F.fb, 0, none⟩), .string (pathB [cN])] w fun e w' => e = .returned (.int .i64 0) ∧ ∃ A' ι' Y n, Fs w0 w' { F with begun := false, over := false } Y A' ι' rs ∧ CatT A' (encC 1 []) n [] ∧ RootT A' ∧ Y.op = false ∧ Y.l = [] ∧ Y.D.lim = none ∧ Y.m = X.m + 1 ∧ Y.P = X.P ∧ Y.n = X.n ∧ Y.fi + 2 = X.fi ∧ Y.fb + 3 = X.fb := by
  have hn0 : X.nd 0 1 = 0 := (h.2.live [] (.dir 0) rfl).2.2
  have h1 := (h.newArr #[.pointer (some ⟨F.fb, 0, none⟩)] 24 neFSp).newArr #[.string (pathB [cN])] 9 neStr
  have hmf : ∀ (fn : Fn) (first cap : Array Value) (W : World), (Instr.makeFunc fn first cap).run Tryz.prog W = .ok (.func fn first cap) W := fun _ _ _ _ => rfl
  have HT := Lib.hid (f_Together_out h1 hb hd hop hlim hm 97 #[.pointer (some ⟨w.heap.size, 0, none⟩), .pointer (some ⟨(w.alloc (.cells #[.pointer (some ⟨F.fb, 0, none⟩)] 24 (0, 0))).heap.size, 0, none⟩)] entMake1 (K := fun X' A' ι' => (∃ n, CatT A' (encC 1 []) n []) ∧ RootT A' ∧ X'.fi + 2 = X.fi ∧ X'.fb + 3 = X.fb) (fun y hy => by
    refine (c_Make1 hy rfl rfl hd rfl rfl (i := 1) (j := 0) rfl rfl (C := X.P.im :: X.P.bm :: heldL X 0) (fun k hk => ?_) (List.mem_cons_self ..) (List.mem_cons_of_mem _ (List.mem_cons_self ..)) (heldL_held (X := X.open') fun c hc => List.mem_cons_of_mem _ (List.mem_cons_of_mem _ hc)) ?_ hfi hfb).mono ?_
    · have : X.open'.keys = [] := by show X.l.map (·.1) = []; rw [hl]; rfl
      rw [this] at hk; cases hk
    · rw [List.length_cons, List.length_cons, heldL_length, hn0]
      decide
    · rintro e w' ⟨he, X', A', ι', C', n, q1, q2, q3, q6, q4, q5⟩
      exact ⟨he, X', A', ι', q1, q2.wr, ⟨n, q3⟩, q6, q4, q5⟩))
  simp only [size_alloc] at HT
  have c0 := (h1.arrCell (i := 1) rfl 0).trans (show (#[Value.pointer (some ⟨F.fb, 0, none⟩)] : Array Value)[0]? = some (.pointer (some ⟨F.fb, 0, none⟩)) from rfl)
  have HL := Lib.hid (And.intro hlim (show X.D.lim = none from hlim))
  obtain ⟨dir, hdir⟩ : ∃ dir, pathB [cN] = dir := ⟨_, rfl⟩
  rw [hdir] at HT c0 ⊢
  clear h hb hd hop hl hlim hm hfi hfb hn0 h1 hdir
  go_enter Tryz.func38, Tryz.ntmps38
  go_wp2_with fail
  refine HT.out.mono ?_
  rintro e w2 ⟨rfl, X', A', ι', Y, h2, hc, hx, ⟨n, hct⟩, hrt, hfi, hfb⟩
  have H2 := Lib.hid (And.intro h2 (And.intro hc (And.intro hx (And.intro hct (And.intro hrt (And.intro hfi hfb))))))
  clear h2 hc hx hct hrt hfi hfb HT c0
  go_wp2
  go_ret
  have hc := H2.out.2.1
  have hx := H2.out.2.2.1
  refine ⟨rfl, A', ι', Y, n, H2.out.1.drop 2, H2.out.2.2.2.1, H2.out.2.2.2.2.1, hc.op, hc.l, hc.same.lim.trans (by rw [hx]; exact HL.out.1), hc.m.trans (by rw [hx]; rfl), hc.same.P.trans (by rw [hx]; rfl), hc.same.n.trans (by rw [hx]; rfl), ?_, ?_⟩
  · have : Y.fi = X'.fi := by unfold Sys.fi; rw [hc.v, hc.same.P]
    rw [this]; exact H2.out.2.2.2.2.2.1
  · have : Y.fb = X'.fb := by unfold Sys.fb; rw [hc.v, hc.same.P]
    rw [this]; exact H2.out.2.2.2.2.2.2
end
section
open Go.ChangeMaps Go.MapKept Go.RowKit
theorem neCat : ¬ U8T (93 : TypeId) := by decide
def catC (fb : Nat) (dir : ByteArray) (next : Int) (mb : Nat) : Array Value := #[.pointer (some ⟨fb, 0, none⟩), .string dir, .int .i64 next, .map (some mb)]
def catS (cb fb : Nat) (next : Int) (mb : Nat) : Res := arr cb (catC fb (pathB [cN]) next mb) 93 neCat
def catM (mb : Nat) (L : List Tp) : Res := mapR KeyK okK mb L.length (tpV (mapL L))
end
section
open Go.ChangeMaps Go.MapKept Go.RowKit
variable {w0 : Gnd} {w : World} {rs : List Res} {X : Sys} {F : FH} {A : Path → Option Nd} {ι : Path → Nat}
theorem Fs.mkMap (h : Fs w0 w F X A ι rs) {w' : World} (hf : Frm NoB w w') {mb n : Nat} {f : Blk → Option Value} (hm : MapAt KeyK okK w' mb n f) (hn : w.heap.size ≤ mb) : Fs w0 w' F X A ι (mapR KeyK okK mb n f :: rs) := by
  obtain ⟨⟨k, l, ha, hl⟩, hr⟩ := h
  have h1 : At w0 w' X (mapR KeyK okK mb n f :: fsS F X :: fsL F k l :: rs) := ⟨(ha.1.make hf (mapR KeyK okK mb n f) hm fun x hx => by obtain rfl : x = mb := hx; exact hn).swap, ha.2⟩
  exact ⟨⟨k, l, h1.perm ((List.Perm.swap _ _ _).trans ((List.Perm.swap _ _ _).cons _)), hl⟩, hr⟩
set_option maxHeartbeats 1000000 in
set_option maxRecDepth 100000 in
theorem c_Open (h : Fs w0 w F X A ι rs) {next : Int} {L : List Tp} {n : Nat} {D : List ByteArray} (hT : CatT A (encC next L) n D) (hroot : ∃ m, A [] = some (.dir m)) (hL : CatL L) (hlen : L.length ≤ 20) (hr : CatR next L) :
    Calls Tryz.prog 21 #[.pointer (some ⟨F.fb, 0, none⟩), .string (pathB [cN])] w fun e w' => ∃ cb mb, e = .returned (.tuple #[.pointer (some ⟨cb, 0, none⟩), .int .i64 0]) ∧ Fs w0 w' F X A ι (catS cb F.fb next mb :: catM mb L :: rs) := by
  have hbl := encC_length next L hL.nm
  have hdirs : ∀ k, k < [cN].length → A ([cN].take k) ≠ none → ∃ m, A ([cN].take k) = some (.dir m) := fun k hk _ => by
    obtain rfl : k = 0 := by simpa using hk
    exact hroot
  have HS := Lib.hid (f_StatP h [cN] (by simp) (by simp [cN_ok]) (by simp) hdirs)
  have hst : statR A [cN] = .tuple #[.agg #[.int .i64 2, .int .i64 n], .int .i64 0] := by unfold statR; rw [hT.c]; rfl
  rw [hst] at HS
  have KR : Hid (∀ y rs', Fs w0 y F X A ι rs' → Calls Tryz.prog 54 #[.pointer (some ⟨F.fb, 0, none⟩), .string (pathB [cN, lsN]), .int .i64 0, .int .i64 70656] y fun e w' => ∃ v, e = .returned (.tuple #[v, .int .i64 0]) ∧ Fs w0 w' F X A ι (byt v (encC next L) :: rs')) := Lib.hid fun y rs' hy => by
    refine (f_ReadP hy [cN, lsN] (by simp) (by simp [cN_ok, lsN_ok]) (by simp) hT.ls 70656 (by omega) (by omega)).mono ?_
    rintro e w' ⟨v, he, hg⟩
    rcases hg with ⟨-, e0, -⟩ | hg
    · rw [e0] at hbl; have : 0 = 8 + 107 * L.length := hbl; omega
    · exact ⟨v, he, hg⟩
  have KD : Hid (∀ y v rs', Fs w0 y F X A ι (byt v (encC next L) :: rs') → Calls Tryz.prog 55 #[v] y fun e w' => ∃ mb, e = .returned (.tuple #[.int .i64 next, .map (some mb), .bool true]) ∧ Fs w0 w' F X A ι (catM mb L :: byt v (encC next L) :: rs')) := Lib.hid fun y v rs' hy => by
    refine (c_decode y v hL hlen hr (hy.byt (i := 0) rfl)).mono ?_
    rintro e w' ⟨mb, he, hm, hn, hf⟩
    exact ⟨mb, he, hy.mkMap hf hm hn⟩
  have hcat : ∀ W, (binOp .add 9 (.string (pathB [cN])) (.string ⟨#[47, 99, 97, 116, 97, 108, 111, 103]⟩)).run Tryz.prog W = .ok (.string (pathB [cN] ++ ⟨#[47, 99, 97, 116, 97, 108, 111, 103]⟩)) W := fun W => rfl
  have hp2 := path_add [cN] lsN ⟨#[47, 99, 97, 116, 97, 108, 111, 103]⟩ rfl
  have hp3 : pathB ([cN] ++ [lsN]) = pathB [cN, lsN] := rfl
  rw [hp3] at hp2
  obtain ⟨dir, hdir⟩ : ∃ dir, pathB [cN] = dir := ⟨_, rfl⟩
  have hds : dir.size = 2 := by rw [← hdir]; rfl
  rw [hdir] at HS hp2 ⊢
  have HDIR := Lib.hid hdir
  clear h hT hroot hL hlen hr hbl hdirs hst hcat hp3 hdir
  go_enter Tryz.func21, Tryz.ntmps21
  go_wp2_with fail
  refine HS.out.mono ?_
  clear HS
  rintro e w1 ⟨rfl, h1⟩
  have h2 := h1.newArr #[.int .i64 2, .int .i64 n] 82 neStt
  have c0 : (w1.alloc (.cells #[.int .i64 2, .int .i64 n] 82 (0, 0))).cell? ⟨w1.heap.size, 0, none⟩ = some (.int .i64 2) := (h2.arrCell (i := 0) rfl 0).trans rfl
  have H2 := Lib.hid h2
  clear h1 h2
  go_wp2_with fail
  refine (KR.out _ _ H2.out).mono ?_
  clear KR c0
  rintro e w3 ⟨v, rfl, h3⟩
  have HD := Lib.hid (KD.out _ _ _ h3)
  clear h3 KD H2
  go_wp2_with fail
  refine HD.out.mono ?_
  clear HD
  rintro e w4 ⟨mb, rfl, h4⟩
  have h5 := (h4.newArr (catC F.fb dir next mb) 93 neCat).sub (rs' := arr w4.heap.size (catC F.fb dir next mb) 93 neCat :: catM mb L :: rs) (((List.sublist_append_right [_, _] rs).cons_cons _).cons_cons _)
  have H5 := Lib.hid h5
  clear h4 h5
  go_wp2
  go_ret2
  refine ⟨_, mb, rfl, ?_⟩
  unfold catS
  rw [HDIR.out]
  exact H5.out
end
section
open Go.ChangeMaps Go.MapKept Go.RowKit
def decN (i : Nat) : ByteArray := ⟨(Lib.decDigits i).toArray⟩
def partN (id p : Nat) : ByteArray := ⟨(116 :: (Lib.decDigits id ++ 45 :: Lib.decDigits p)).toArray⟩
theorem itoa (w : World) (i : Nat) (hi : i < 100) : Calls Tryz.prog 60 #[.int .i64 i] w fun e w' => w = w' ∧ e = .returned (.string (decN i)) :=
  (Any.strconv_Itoa_small Tryz.itoaS i hi w).mono fun e w' ⟨h1, h2⟩ => ⟨h2.symm, h1⟩
theorem dec_size : ∀ i, i < 100 → (decN i).size = if i < 10 then 1 else 2 := by decide +kernel
def segN : ByteArray := ⟨(List.replicate 20 48).toArray⟩
def kz (k : Nat) : Array Value := (List.replicate (20 - k) (Value.int .u8 0) ++ List.replicate k (Value.int .u8 48)).toArray
theorem kz_succ (k : Nat) (hk : k < 20) : (kz k).setIfInBounds (19 - k) (.int .u8 48) = kz (k + 1) := by
  have h : k = 0 ∨ k = 1 ∨ k = 2 ∨ k = 3 ∨ k = 4 ∨ k = 5 ∨ k = 6 ∨ k = 7 ∨ k = 8 ∨ k = 9 ∨ k = 10 ∨ k = 11 ∨ k = 12 ∨ k = 13 ∨ k = 14 ∨ k = 15 ∨ k = 16 ∨ k = 17 ∨ k = 18 ∨ k = 19 := by omega
  rcases h with rfl | rfl | rfl | rfl | rfl | rfl | rfl | rfl | rfl | rfl | rfl | rfl | rfl | rfl | rfl | rfl | rfl | rfl | rfl | rfl <;> rfl
theorem zeroK20 (W : World) : (zeroValue 240).run Tryz.prog W = .ok (.agg (kz 0)) W := by kernel_rfl
theorem seg_string (W : World) (g : Nat) (h : W.heap[g]? = some (.cells (kz 20) 240 (0, 0))) :
    (convert 76 9 (.slice (some ⟨g, 0, none⟩) 20 20)).run Tryz.prog W = .ok (.string segN) W := by
  have hc := run_convert_bytes_back (P := Tryz.prog) W 76 9 5 ⟨g, 0, none⟩ 20 (List.replicate 20 (48 : UInt8)) Tryz.underlying76 Tryz.underlying5 Tryz.underlying9 (fun j hj => by
    rw [addr_at]
    refine (cell_of_block h).trans ?_
    unfold kz
    rw [List.getElem?_toArray]
    simp only [Nat.sub_self, List.replicate_zero, List.nil_append]
    rw [List.getElem?_replicate, if_pos (by simpa using hj), List.getElem_replicate]
    rfl)
  exact hc
set_option maxRecDepth 100000 in
theorem p_path (w : World) (dir : ByteArray) (hds : dir.size ≤ 100) : Calls Tryz.prog 76 #[.string dir, .int .i64 0] w fun e w' => e = .returned (.string (dir ++ ⟨#[47]⟩ ++ segN)) ∧ Frm NoB w w' := by
  have hb0 := block_alloc_new w (.cells (kz 0) 240 (0, 0))
  have hf0 := (Frm.refl NoB w).alloc (.cells (kz 0) 240 (0, 0))
  obtain ⟨y, hy⟩ : ∃ y, w.alloc (.cells (kz 0) 240 (0, 0)) = y := ⟨_, rfl⟩
  obtain ⟨g, hg⟩ : ∃ g, w.heap.size = g := ⟨_, rfl⟩
  rw [hy, hg] at hb0
  rw [hy] at hf0
  have HY := Lib.hid (And.intro hy hg)
  have H0 : Hid (y.heap[g]? = some (.cells (kz 0) 240 (0, 0)) ∧ Frm NoB w y) := Lib.hid ⟨hb0, hf0⟩
  have HG : Hid (w.heap.size ≤ g) := Lib.hid (by omega)
  obtain ⟨n, hn⟩ : ∃ n, dir.size = n := ⟨_, rfl⟩
  have n0 : (0 : Int) ≤ (n : Int) := Int.natCast_nonneg _
  have n1 : (n : Int) ≤ 100 := by omega
  have hsz : segN.size = 20 := rfl
  clear hb0 hf0 hy hg hds
  go_enter Tryz.func76, Tryz.ntmps76
  go_upto_region 2 with (refine allocRow rfl _ _ zeroK20 rfl ?_)
  rw [HY.out.1, HY.out.2]
  clear HY
  go_wp2_with fail
  go_loopw [1, 6] (fun t1 t6 wr => t1 = .int .i64 0 ∧ ∃ k : Nat, k ≤ 20 ∧ t6 = .int .i64 (19 - (k : Int)) ∧ Hid (wr.heap[g]? = some (.cells (kz k) 240 (0, 0)) ∧ Frm NoB w wr)) (fun _ t6 _ => (intOf t6 + 1).toNat)
  case atStart => exact ⟨rfl, 0, by omega, rfl, H0⟩
  case round =>
    clear H0
    obtain ⟨rfl, k, hk, rfl, HR⟩ := hrel
    have k0 : (0 : Int) ≤ (k : Int) := Int.natCast_nonneg _
    by_cases hlt : k < 20
    · have k1 : (0 : Int) ≤ 19 - (k : Int) := by omega
      have k3 : (k : Int) ≤ 19 := by omega
      have k2 : 19 - (k : Int) ≤ 19 := by omega
      have k4 : (19 - (k : Int)).toNat = 19 - k := by omega
      have cz : ∃ u, wr.cell? ⟨g, 19 - k, none⟩ = some u := ⟨_, (cell_of_block HR.out.1).trans (by unfold kz; rw [List.getElem?_toArray]; exact List.getElem?_eq_getElem (by simp; omega))⟩
      obtain ⟨u, cz⟩ := cz
      have fz : wr.frozen? ⟨g, 19 - k, none⟩ = false := frozen_of_block HR.out.1
      have HN : Hid ((wr.setCell ⟨g, 19 - k, none⟩ (.int .u8 48)).heap[g]? = some (.cells (kz (k + 1)) 240 (0, 0)) ∧ Frm NoB w (wr.setCell ⟨g, 19 - k, none⟩ (.int .u8 48))) := Lib.hid ⟨by
        have := block_setCell_same (i := 19 - k) (.int .u8 48) HR.out.1
        rw [kz_succ k hlt] at this
        exact this, HR.out.2.setCell (p := ⟨g, 19 - k, none⟩) (.inr HG.out) _⟩
      clear HR
      go_wp2_with fail
      exact ⟨⟨rfl, k + 1, hlt, by go_num, HN⟩, by simp [intOf]; omega⟩
    · obtain rfl : k = 20 := by omega
      have hcv := seg_string wr g HR.out.1
      have HF := Lib.hid HR.out.2
      clear HR
      go_wp2_with fail
      go_ret
      exact ⟨rfl, HF.out⟩
theorem part_path (id p : Nat) : pathB [cN] ++ ⟨#[47, 116]⟩ ++ decN id ++ ⟨#[45]⟩ ++ decN p = pathB [cN, partN id p] := by
  have h := pathB_snoc [cN] (partN id p)
  refine ByteArray.ext (Array.toList_inj.1 ?_)
  show _ = (pathB ([cN] ++ [partN id p])).data.toList
  rw [h]
  simp only [ByteArray.toList_data_append]
  unfold partN decN
  simp [List.append_assoc]
end
section
open Go.ChangeMaps Go.MapKept Go.RowKit
variable {w0 : Gnd} {w : World} {rs : List Res} {X : Sys} {F : FH} {A : Path → Option Nd} {ι : Path → Nat}
theorem c_ready (h : Fs w0 w F X A ι rs) {cb fb mb i : Nat} {next : Int} (hr : rs[i]? = some (catS cb fb next mb)) :
    Calls Tryz.prog 39 #[.pointer (some ⟨cb, 0, none⟩)] w fun e w' => w = w' ∧ e = .returned (.bool true) := by
  have c0 : w.cell? ⟨cb, 0, none⟩ = some (.pointer (some ⟨fb, 0, none⟩)) := (h.arrCell hr 0).trans rfl
  clear h hr
  go_enter Tryz.func39, Tryz.ntmps39
  go_wp2_with fail
  go_ret
  exact ⟨rfl, rfl⟩
set_option maxHeartbeats 1000000 in
set_option maxRecDepth 100000 in
theorem c_Dir (h : Fs w0 w F X A ι rs) {cb fb mb i : Nat} {next : Int} (hr : rs[i]? = some (catS cb fb next mb)) (id p : Nat) (hid : id < 100) (hp : p < 10) (nm : ByteArray) (p2 p3 p4 p5 : Int) (p6 : Bool) (p7 : Int) :
    Calls Tryz.prog 24 #[.pointer (some ⟨cb, 0, none⟩), .agg (tpz nm id p2 p3 p4 p5 p6 p7), .int .i64 p] w fun e w' => e = .returned (.string (pathB [cN, partN id p])) ∧ Fs w0 w' F X A ι rs := by
  have h1 := h.newArr (tpz nm id p2 p3 p4 p5 p6 p7) 31 neTp
  have HR := Lib.hid (c_ready h1 (i := i + 1) hr)
  have KI1 : Hid (∀ W, Calls Tryz.prog 60 #[.int .i64 id] W fun e w' => W = w' ∧ e = .returned (.string (decN id))) := Lib.hid fun W => itoa W id hid
  have KI2 : Hid (∀ W, Calls Tryz.prog 60 #[.int .i64 p] W fun e w' => W = w' ∧ e = .returned (.string (decN p))) := Lib.hid fun W => itoa W p (by omega)
  have hs1 : (decN id).size = 1 ∨ (decN id).size = 2 := by have := dec_size id hid; split at this <;> omega
  have hs2 := dec_size p (by omega)
  rw [if_pos (by omega)] at hs2
  have HP := Lib.hid (part_path id p)
  have hds : (pathB [cN]).size = 2 := rfl
  have happ : ∀ a b : ByteArray, (a ++ b).size = a.size + b.size := fun a b => ByteArray.size_append
  have hl1 : (⟨#[47, 116]⟩ : ByteArray).size = 2 := rfl
  have hl2 : (⟨#[45]⟩ : ByteArray).size = 1 := rfl
  have c1 : (w.alloc (.cells (tpz nm id p2 p3 p4 p5 p6 p7) 31 (0, 0))).cell? ⟨cb, 1, none⟩ = some (.string (pathB [cN])) := (h1.arrCell (i := i + 1) hr 1).trans rfl
  have d1 : (w.alloc (.cells (tpz nm id p2 p3 p4 p5 p6 p7) 31 (0, 0))).cell? ⟨w.heap.size, 1, none⟩ = some (.int .i64 id) := (h1.arrCell (i := 0) rfl 1).trans rfl
  have H1 := Lib.hid h1
  obtain ⟨y, hy⟩ : ∃ y, w.alloc (.cells (tpz nm id p2 p3 p4 p5 p6 p7) 31 (0, 0)) = y := ⟨_, rfl⟩
  obtain ⟨g, hg⟩ : ∃ g, w.heap.size = g := ⟨_, rfl⟩
  rw [hy] at HR c1 d1 H1
  rw [hg] at d1
  have HY := Lib.hid (And.intro hy hg)
  rw [← HP.out]
  generalize pathB [cN] = dir at *
  generalize decN id = x1 at *
  generalize decN p = x2 at *
  clear h hr h1 hy hg
  go_enter Tryz.func24, Tryz.ntmps24
  go_upto_region 1 with fail
  rw [HY.out.1, HY.out.2]
  clear HY
  go_wp2_with fail
  refine HR.out.mono ?_
  clear HR
  rintro e w2 ⟨rfl, rfl⟩
  rcases hs1 with hs1 | hs1
  all_goals
    go_upto_region 3 with fail
    go_region_held3 (fun z => z.cell? ⟨cb, 1, none⟩ = some (.string dir) ∧ z.cell? ⟨g, 1, none⟩ = some (.int .i64 id))
      (exact ⟨c1, d1⟩)
      (first
        | (go_at_call 60; (with_reducible refine (KI1.out _).mono ?_); rintro e w4 ⟨rfl, rfl⟩)
        | (go_at_call 60; (with_reducible refine (KI2.out _).mono ?_); rintro e w4 ⟨rfl, rfl⟩))
    go_wp2
    go_ret
    exact ⟨rfl, (H1.out.frm (Frm.refl NoB y).drew).drop 1⟩
set_option maxHeartbeats 1000000 in
set_option maxRecDepth 100000 in
theorem p_Settings (w : World) (c d e : Int) (f : Bool) (g : Int) (h1 : 512 ≤ c ∧ c ≤ 8192) (h2 : -1 ≤ d ∧ d ≤ 1099511627776) (h3 : -1 ≤ e ∧ e ≤ 1125899906842624) (h4 : 0 ≤ g ∧ g ≤ 1125899906842624) :
    Calls Tryz.prog 41 #[.agg (stz c d e f g)] w fun r w' => r = .returned (.bool true) ∧ Frm NoB w w' := by
  have hb0 := block_alloc_new w (.cells (stz c d e f g) 29 (0, 0))
  have hf0 := (Frm.refl NoB w).alloc (.cells (stz c d e f g) 29 (0, 0))
  obtain ⟨y, hy⟩ : ∃ y, w.alloc (.cells (stz c d e f g) 29 (0, 0)) = y := ⟨_, rfl⟩
  obtain ⟨k, hk⟩ : ∃ k, w.heap.size = k := ⟨_, rfl⟩
  rw [hy, hk] at hb0
  rw [hy] at hf0
  have c0 : y.cell? ⟨k, 0, none⟩ = some (.int .i64 c) := (cell_of_block hb0).trans rfl
  have c1 : y.cell? ⟨k, 1, none⟩ = some (.int .i64 d) := (cell_of_block hb0).trans rfl
  have c2 : y.cell? ⟨k, 2, none⟩ = some (.int .i64 e) := (cell_of_block hb0).trans rfl
  have c4 : y.cell? ⟨k, 4, none⟩ = some (.int .i64 g) := (cell_of_block hb0).trans rfl
  have HF := Lib.hid hf0
  have HY := Lib.hid (And.intro hy hk)
  obtain ⟨a1, a2⟩ := h1
  obtain ⟨b1, b2⟩ := h2
  obtain ⟨e1, e2⟩ := h3
  obtain ⟨g1, g2⟩ := h4
  clear hb0 hf0 hy hk
  go_enter Tryz.func41, Tryz.ntmps41
  go_upto_region 1 with fail
  rw [HY.out.1, HY.out.2]
  go_wp2_with fail
  go_ret
  exact ⟨rfl, HF.out⟩
end
section
open Go.ChangeMaps Go.MapKept Go.RowKit
structure Tx (F : FH) (X : Sys) : Prop where
  b : F.begun = true
  o : F.over = false
  d : F.dead = false
  op : X.op = true
  ov : X.ov = false
theorem Tx.wr {F : FH} {X Y : Sys} (h : Tx F X) (e : Y = X.wr Y.l) : Tx F Y := ⟨h.b, h.o, h.d, by rw [e]; exact h.op, by rw [e]; exact h.ov⟩
end
section
open Go.ChangeMaps Go.MapKept Go.RowKit
variable {w0 : Gnd} {w : World} {rs : List Res} {X : Sys} {F : FH} {A : Path → Option Nd} {ι : Path → Nat}
set_option maxRecDepth 100000 in
theorem s_may0 (w : World) : Calls Tryz.prog 155 #[.int .i64 0] w fun e w' => w = w' ∧ e = .returned (.bool true) := by
  go_enter Tryz.func155, Tryz.ntmps155
  go_wp2_with fail
  go_ret
  exact ⟨rfl, rfl⟩
set_option maxRecDepth 100000 in
theorem s_Make (h : Fs w0 w F X A ι rs) (ht : Tx F X) {p : Path} {n : Nat} {s : ByteArray} {C : List Nat} (hm : MayMake X A ι C p s n) :
    Calls Tryz.prog 85 #[.pointer (some ⟨F.fb, 0, none⟩), .string (pathB (p ++ [s])), .int .i64 0] w fun e w' => ∃ sb, e = .returned (.tuple #[.pointer (some ⟨sb, 0, none⟩), .int .i64 0]) ∧ ∃ X' A' ι' C', Fs w0 w' F X' A' ι' rs ∧ Mk X X' A ι A' ι' C C' p s (.file []) n := by
  have HC := Lib.hid (f_Create_in h ht.b ht.o ht.d ht.op ht.ov hm)
  clear h ht hm
  generalize pathB (p ++ [s]) = path at *
  go_enter Tryz.func85, Tryz.ntmps85
  go_wp2_with fail
  refine (s_may0 _).mono ?_
  rintro e w1 ⟨rfl, rfl⟩
  go_wp2_with fail
  refine HC.out.mono ?_
  clear HC
  rintro e w2 ⟨rfl, X', A', ι', C', h2, hk⟩
  have H2 := Lib.hid (And.intro h2 hk)
  clear h2 hk
  go_wp2
  go_ret2
  exact ⟨_, rfl, X', A', ι', C', H2.out.1.frm ((Frm.refl NoB w2).alloc _), H2.out.2⟩
set_option maxRecDepth 100000 in
theorem pr_Make (h : Fs w0 w F X A ι rs) (ht : Tx F X) {p : Path} {n : Nat} {s : ByteArray} {C : List Nat} (hm : MayMake X A ι C p s n) :
    Calls Tryz.prog 106 #[.pointer (some ⟨F.fb, 0, none⟩), .string (pathB (p ++ [s]))] w fun e w' => e = .returned (.int .i64 0) ∧ ∃ X' A' ι' C', Fs w0 w' F X' A' ι' rs ∧ Mk X X' A ι A' ι' C C' p s (.file []) n := by
  have HC := Lib.hid (f_Create_in h ht.b ht.o ht.d ht.op ht.ov hm)
  clear h ht hm
  generalize pathB (p ++ [s]) = path at *
  go_enter Tryz.func106, Tryz.ntmps106
  go_wp2_with fail
  refine HC.out.mono ?_
  clear HC
  rintro e w2 ⟨rfl, X', A', ι', C', h2, hk⟩
  have H2 := Lib.hid (And.intro h2 hk)
  clear h2 hk
  go_wp2
  go_ret
  exact ⟨rfl, X', A', ι', C', H2.out⟩
theorem segN_ok : NameOk segN := nameOk_of _ (by decide) (by decide) (by decide)
structure PartA (X X' : Sys) (A : Path → Option Nd) (ι : Path → Nat) (A' : Path → Option Nd) (ι' : Path → Nat) (C C' : List Nat) (d : ByteArray) (n : Nat) : Prop where
  tree : ∃ S i1 i2, A' = addT (addT A [cN] d (.dir 0) S) [cN, d] segN (.file []) 64 ∧ ι' = addI (addI ι [cN] d i1) [cN, d] segN i2 ∧ (S = n ∨ S = n + 64) ∧ HeldC X' C' i1 ∧ X'.fb + (dat S - dat n) + 1 = X.fb ∧ C'.length ≤ C.length + 3 + (dat S - dat n)
  goes : Goes X X' C C'
  fi : X'.fi + 2 = X.fi
set_option maxHeartbeats 1000000 in
set_option maxRecDepth 100000 in
theorem p_Make1 (h : Fs w0 w F X A ι rs) (ht : Tx F X) {d : ByteArray} {i j bf bd n : Nat} {C : List Nat} (hf : rs[i]? = some (arr bf #[.pointer (some ⟨F.fb, 0, none⟩)] 24 neFSp)) (hdr : rs[j]? = some (arr bd #[.string (pathB [cN, d])] 9 neStr)) (hds : (pathB [cN, d]).size ≤ 60)
    (hm : MayMake X A ι C [cN] d n) (hno : ∀ s, A [cN, d, s] = none) (hfi : 2 ≤ X.fi) (hfb : dat (n + 64) - dat n + 1 ≤ X.fb) (hroom : C.length + 4 + (dat (n + 64) - dat n) ≤ 60) :
    Calls Tryz.prog 195 #[.pointer (some ⟨bf, 0, none⟩), .pointer (some ⟨bd, 0, none⟩)] w fun e w' => e = .returned (.int .i64 0) ∧ ∃ X' A' ι' C', Fs w0 w' F X' A' ι' rs ∧ PartA X X' A ι A' ι' C C' d n := by
  have HM := Lib.hid (f_Mkdir_in h ht.b ht.o ht.d ht.op ht.ov hm)
  have c0 : w.cell? ⟨bf, 0, none⟩ = some (.pointer (some ⟨F.fb, 0, none⟩)) := (h.arrCell hf 0).trans rfl
  have c1 : w.cell? ⟨bd, 0, none⟩ = some (.string (pathB [cN, d])) := (h.arrCell hdr 0).trans rfl
  have HH := Lib.hid (And.intro hf hdr)
  have HQ := Lib.hid (And.intro ht (And.intro hm (And.intro hno (And.intro hfi (And.intro hfb hroom)))))
  have hp1 : pathB ([cN] ++ [d]) = pathB [cN, d] := rfl
  rw [hp1] at HM
  have KP : Hid (∀ W, Calls Tryz.prog 76 #[.string (pathB [cN, d]), .int .i64 0] W fun e w' => e = .returned (.string (pathB [cN, d, segN])) ∧ Frm NoB W w') := Lib.hid fun W => by
    have := p_path W (pathB [cN, d]) (by omega)
    have e : pathB [cN, d] ++ ⟨#[47]⟩ ++ segN = pathB ([cN, d] ++ [segN]) := by
      have e1 : (pathB [cN, d] ++ ⟨#[47]⟩ ++ segN) = pathB [cN, d] ++ (⟨#[47]⟩ ++ segN) := ByteArray.append_assoc
      rw [e1]
      exact path_add [cN, d] segN _ rfl
    rw [e] at this
    exact this
  obtain ⟨dir, hdir⟩ : ∃ dir, pathB [cN, d] = dir := ⟨_, rfl⟩
  rw [hdir] at HM c1 KP
  have HDIR := Lib.hid hdir
  clear h ht hf hdr hds hm hno hfi hfb hroom hp1 hdir
  go_enter Tryz.func195, Tryz.ntmps195
  go_wp2_with fail
  refine HM.out.mono ?_
  clear HM c0 c1
  rintro e w1 ⟨rfl, X1, A1, ι1, C1, h1, hk1⟩
  obtain ⟨S1, i1, rfl, rfl, hS, hS0, hh1, hfb1, hC1⟩ := hk1.tree
  have hdm : dat S1 - dat n ≤ dat (n + 64) - dat n := by rcases hS with rfl | rfl <;> omega
  have hX1 := hk1.goes.wr
  have hnd : ¬ [cN] = [cN] ++ [d] := by simp
  have hA1 : addT A [cN] d (.dir 0) S1 [cN, d] = some (.dir 0) := if_pos (show [cN, d] = [cN] ++ [d] from rfl)
  have hi1 : addI ι [cN] d i1 [cN, d] = i1 := if_pos (show [cN, d] = [cN] ++ [d] from rfl)
  have hlv : X1.live i1 := hi1 ▸ (h1.2.live [cN, d] (.dir 0) hA1).1
  have hN1 : addT A [cN] d (.dir 0) S1 [cN, d, segN] = none := by unfold addT; rw [if_neg (by simp), if_neg (by simp)]; exact HQ.out.2.2.1 segN
  have hm2 : MayMake X1 (addT A [cN] d (.dir 0) S1) (addI ι [cN] d i1) C1 [cN, d] segN 0 := ⟨hA1, fun x hx => by
      rcases List.mem_append.1 hx with h | h
      · exact HQ.out.2.1.names x h
      · have : x = segN := by simpa using h
        rw [this]; exact segN_ok, by simp, hN1, by omega, by have := hk1.fi; have := HQ.out.2.2.2.1; omega, by rw [dat64]; have := HQ.out.2.2.2.2.1; omega, hk1.goes.cov,
    hk1.goes.sub _ (by rw [hX1]; exact HQ.out.2.1.im), hk1.goes.sub _ (by rw [hX1]; exact HQ.out.2.1.bm), by rw [hi1]; exact hh1, by rw [dat64]; have := HQ.out.2.2.2.2.2; omega⟩
  have ht1 := HQ.out.1.wr hX1
  have KS : Hid (∀ y, Fs w0 y F X1 (addT A [cN] d (.dir 0) S1) (addI ι [cN] d i1) rs → Calls Tryz.prog 85 #[.pointer (some ⟨F.fb, 0, none⟩), .string (pathB [cN, d, segN]), .int .i64 0] y fun e w' => ∃ sb, e = .returned (.tuple #[.pointer (some ⟨sb, 0, none⟩), .int .i64 0]) ∧ ∃ X' A' ι' C', Fs w0 w' F X' A' ι' rs ∧ Mk X1 X' (addT A [cN] d (.dir 0) S1) (addI ι [cN] d i1) A' ι' C1 C' [cN, d] segN (.file []) 0) := Lib.hid fun y hy => s_Make hy ht1 hm2
  have KC : Hid (∀ y Y B κ, Fs w0 y F Y B κ rs → y.cell? ⟨bf, 0, none⟩ = some (.pointer (some ⟨F.fb, 0, none⟩)) ∧ y.cell? ⟨bd, 0, none⟩ = some (.string dir)) := Lib.hid fun y Y B κ hy =>
    ⟨(hy.arrCell HH.out.1 0).trans rfl, (hy.arrCell HH.out.2 0).trans (by rw [← HDIR.out]; rfl)⟩
  have HK1 := Lib.hid (And.intro hk1 (And.intro hS (And.intro hh1 (And.intro hfb1 (And.intro hC1 hlv)))))
  have H1 := Lib.hid h1
  have H1d := Lib.hid (h1.frm (Frm.refl NoB w1).drew)
  obtain ⟨k1, k2⟩ := KC.out _ _ _ _ h1
  clear h1 hk1 hS hS0 hh1 hfb1 hC1 hdm hX1 hnd hA1 hi1 hN1 hm2 ht1 hlv
  go_upto_region 4 with fail
  go_region_held3 (fun y => y.cell? ⟨bf, 0, none⟩ = some (.pointer (some ⟨F.fb, 0, none⟩)) ∧ y.cell? ⟨bd, 0, none⟩ = some (.string dir))
    (first | exact KC.out _ _ _ _ H1.out | exact KC.out _ _ _ _ H1d.out | exact KC.out _ _ _ _ (H1d.out.frm hf4) | exact KC.out _ _ _ _ h5)
    (first
      | (go_at_call 76; (with_reducible refine (KP.out _).mono ?_); rintro e w4 ⟨rfl, hf4⟩)
      | (go_at_call 85; (with_reducible refine (KS.out _ (H1d.out.frm hf4)).mono ?_); rintro e w5 ⟨sb, rfl, X2, A2, ι2, C2, h5, hk2⟩))
  have H5 := Lib.hid (And.intro h5 hk2)
  clear h5 hk2 hf4 KS KP KC k1 k2
  go_wp2
  go_ret
  obtain ⟨S2, i2, e1, e2, -, hS2, hh2, hfb2, hC2⟩ := H5.out.2.tree
  obtain rfl := hS2 rfl
  have d64 : dat 64 - dat 0 = 1 := by decide
  rw [d64] at hfb2 hC2
  have g2 := H5.out.2.goes
  refine ⟨rfl, X2, A2, ι2, C2, H5.out.1, ⟨S1, i1, i2, e1, e2, HK1.out.2.1, ?_, ?_, ?_⟩, HK1.out.1.goes.trans g2, ?_⟩
  · exact g2.held i1 HK1.out.2.2.2.2.2 HK1.out.2.2.1
  · have := HK1.out.2.2.2.1; omega
  · have := HK1.out.2.2.2.2.1; omega
  · have a1 := HK1.out.1.fi; have a2 := H5.out.2.fi; omega
theorem entPMake1 : EntersF Tryz.prog 195 := entersF_of Tryz.func195 (by kernel_rfl) rfl
set_option maxHeartbeats 1000000 in
set_option maxRecDepth 100000 in
theorem p_Make (h : Fs w0 w F X A ι rs) (ht : Tx F X) {d : ByteArray} {n : Nat} {C : List Nat} (hds : (pathB [cN, d]).size ≤ 60)
    (hm : MayMake X A ι C [cN] d n) (hno : ∀ s, A [cN, d, s] = none) (hfi : 2 ≤ X.fi) (hfb : dat (n + 64) - dat n + 1 ≤ X.fb) (hroom : C.length + 4 + (dat (n + 64) - dat n) ≤ 60)
    (c e g : Int) (f : Bool) (k : Int) (h1 : 512 ≤ c ∧ c ≤ 8192) (h2 : -1 ≤ e ∧ e ≤ 1099511627776) (h3 : -1 ≤ g ∧ g ≤ 1125899906842624) (h4 : 0 ≤ k ∧ k ≤ 1125899906842624) :
    Calls Tryz.prog 105 #[.pointer (some ⟨F.fb, 0, none⟩), .string (pathB [cN, d]), .agg (stz c e g f k)] w fun r w' => r = .returned (.int .i64 0) ∧ ∃ X' A' ι' C', Fs w0 w' F X' A' ι' rs ∧ PartA X X' A ι A' ι' C C' d n := by
  have hh1 := ((h.newArr #[.pointer (some ⟨F.fb, 0, none⟩)] 24 neFSp).newArr #[.string (pathB [cN, d])] 9 neStr).newArr (stz c e g f k) 29 neSet
  have hmf : ∀ (fn : Fn) (first cap : Array Value) (W : World), (Instr.makeFunc fn first cap).run Tryz.prog W = .ok (.func fn first cap) W := fun _ _ _ _ => rfl
  have KT : Hid (∀ y b1 b2 s, Fs w0 y F X A ι (s :: arr b2 #[.string (pathB [cN, d])] 9 neStr :: arr b1 #[.pointer (some ⟨F.fb, 0, none⟩)] 24 neFSp :: rs) → Calls Tryz.prog 80 #[.pointer (some ⟨F.fb, 0, none⟩), .func (.func 195) #[] #[.pointer (some ⟨b1, 0, none⟩), .pointer (some ⟨b2, 0, none⟩)]] y fun e w' => e = .returned (.int .i64 0) ∧ ∃ X' A' ι' C', Fs w0 w' F X' A' ι' (s :: arr b2 #[.string (pathB [cN, d])] 9 neStr :: arr b1 #[.pointer (some ⟨F.fb, 0, none⟩)] 24 neFSp :: rs) ∧ PartA X X' A ι A' ι' C C' d n) := Lib.hid fun y b1 b2 s hy =>
    f_Together_in hy ht.b ht.o ht.d 195 _ entPMake1 (fun z hz => p_Make1 hz ht (i := 2) (j := 1) rfl rfl hds hm hno hfi hfb hroom)
  simp only [size_alloc] at hh1
  obtain ⟨y, hy⟩ : ∃ y, ((w.alloc (.cells #[.pointer (some ⟨F.fb, 0, none⟩)] 24 (0, 0))).alloc (.cells #[.string (pathB [cN, d])] 9 (0, 0))).alloc (.cells (stz c e g f k) 29 (0, 0)) = y := ⟨_, rfl⟩
  obtain ⟨b1, hb1⟩ : ∃ b1, w.heap.size = b1 := ⟨_, rfl⟩
  rw [hy, hb1] at hh1
  obtain ⟨b2, hb2⟩ : ∃ b2, b1 + 1 = b2 := ⟨_, rfl⟩
  rw [hb2] at hh1
  obtain ⟨b3, hb3⟩ : ∃ b3, b2 + 1 = b3 := ⟨_, rfl⟩
  rw [hb3] at hh1
  have HS := Lib.hid (p_Settings y c e g f k h1 h2 h3 h4)
  have c0 : y.cell? ⟨b1, 0, none⟩ = some (.pointer (some ⟨F.fb, 0, none⟩)) := (hh1.arrCell (i := 2) rfl 0).trans rfl
  have s0 : y.cell? ⟨b3, 0, none⟩ = some (.int .i64 c) := (hh1.arrCell (i := 0) rfl 0).trans rfl
  have s1 : y.cell? ⟨b3, 1, none⟩ = some (.int .i64 e) := (hh1.arrCell (i := 0) rfl 1).trans rfl
  have s2 : y.cell? ⟨b3, 2, none⟩ = some (.int .i64 g) := (hh1.arrCell (i := 0) rfl 2).trans rfl
  have s3 : y.cell? ⟨b3, 3, none⟩ = some (.bool f) := (hh1.arrCell (i := 0) rfl 3).trans rfl
  have s4 : y.cell? ⟨b3, 4, none⟩ = some (.int .i64 k) := (hh1.arrCell (i := 0) rfl 4).trans rfl
  have HB := Lib.hid hh1
  have HY := Lib.hid (And.intro hy (And.intro hb1 (And.intro hb2 hb3)))
  clear h ht hds hm hno hfi hfb hroom h1 h2 h3 h4 hh1 hy hb1 hb2 hb3
  generalize pathB [cN, d] = dir at *
  go_enter Tryz.func105, Tryz.ntmps105
  go_upto_region 1 with fail
  rw [HY.out.1, HY.out.2.1, HY.out.2.2.1, HY.out.2.2.2]
  clear HY
  go_wp2_with fail
  refine HS.out.mono ?_
  clear HS s0 s1 s2 s3 s4
  rintro r w2 ⟨rfl, hf2⟩
  have hb2 := HB.out.frm hf2
  have c2 : w2.cell? ⟨b1, 0, none⟩ = some (.pointer (some ⟨F.fb, 0, none⟩)) := (hb2.arrCell (i := 2) rfl 0).trans rfl
  have HT := Lib.hid (KT.out w2 b1 b2 _ hb2)
  clear hb2 hf2 c0 KT HB
  go_wp2_with fail
  refine HT.out.mono ?_
  clear HT c2
  rintro r w3 ⟨rfl, X', A', ι', C', h3, hp⟩
  have H3 := Lib.hid (And.intro (h3.drop 3) hp)
  clear h3 hp
  go_wp2
  go_ret
  exact ⟨rfl, X', A', ι', C', H3.out.1, H3.out.2⟩
end
section
open Go.ChangeMaps Go.MapKept Go.RowKit
def prodN : ByteArray := ⟨#[112, 114, 111, 100, 117, 99, 101, 114, 115]⟩
theorem prodN_ok : NameOk prodN := nameOk_of _ (by decide) (by decide) (by decide)
theorem part_bytes : ∀ id, id < 100 → ∀ p, p < 10 → (1 ≤ (partN id p).size ∧ (partN id p).size ≤ 50) ∧ (partN id p).data.toList.all (fun b => decide (b.toNat < 128) && decide (b ≠ 47) && decide (b ≠ 0)) = true ∧ (partN id p).data.toList ≠ [46] ∧ (partN id p).data.toList ≠ [46, 46] ∧ (partN id p).size ≤ 5 := by decide +kernel
theorem partN_ok {id p : Nat} (hid : id < 100) (hp : p < 10) : NameOk (partN id p) :=
  have h := part_bytes id hid p hp
  nameOk_of _ h.1 h.2.1 ⟨h.2.2.1, h.2.2.2.1⟩
theorem dec_inj : ∀ p, p < 10 → ∀ q, q < 10 → Lib.decDigits p = Lib.decDigits q → p = q := by decide +kernel
theorem partN_inj {id p q : Nat} (hp : p < 10) (hq : q < 10) (h : partN id p = partN id q) : p = q := by
  unfold partN at h
  have h1 := congrArg (fun b : ByteArray => b.data.toList) h
  simp only [List.cons.injEq, true_and] at h1
  have h2 := List.append_cancel_left h1
  rw [List.cons.injEq] at h2
  exact dec_inj p hp q hq h2.2
structure NewD (A : Path → Option Nd) (d : ByteArray) : Prop where
  dir : ∃ m, A [cN, d] = some (.dir m)
  seg : A [cN, d, segN] = some (.file [])
  prod : A [cN, d, prodN] = some (.file [])
structure Fold (X X' : Sys) (A : Path → Option Nd) (ι : Path → Nat) (A' : Path → Option Nd) (ι' : Path → Nat) (C C' : List Nat) (id n n' q : Nat) : Prop where
  goes : Goes X X' C C'
  c : A' [cN] = some (.dir n')
  ic : ι' [cN] = ι [cN]
  n1 : n ≤ n' ∧ n' ≤ n + 64 * q
  keep : ∀ p, A p ≠ none → p ≠ [cN] → A' p = A p ∧ ι' p = ι p
  only : ∀ p, A' p ≠ none → A p ≠ none ∨ ∃ j, j < q ∧ (p = [cN, partN id j] ∨ p = [cN, partN id j, segN] ∨ p = [cN, partN id j, prodN])
  new : ∀ j, j < q → NewD A' (partN id j)
  fi : X'.fi + 3 * q = X.fi
  fb : X'.fb + dat n' + q = X.fb + dat n
  len : C'.length + dat n ≤ C.length + 4 * q + dat n'
theorem Fold.kids {X X' : Sys} {A A' : Path → Option Nd} {ι ι' : Path → Nat} {C C' : List Nat} {id n n' q : Nat} (h : Fold X X' A ι A' ι' C C' id n n' q) (s : ByteArray) (hs : A' [cN, s] ≠ none) : A [cN, s] ≠ none ∨ ∃ j, j < q ∧ s = partN id j := by
  rcases h.only _ hs with h1 | ⟨j, hj, h1 | h1 | h1⟩
  · exact .inl h1
  · exact .inr ⟨j, hj, by simpa using h1⟩
  · simp at h1
  · simp at h1
theorem Fold.refl {X : Sys} {A : Path → Option Nd} {ι : Path → Nat} {C : List Nat} (hC : Cov X C) (id : Nat) {n : Nat} (hc : A [cN] = some (.dir n)) : Fold X X A ι A ι C C id n n 0 :=
  ⟨Goes.refl hC, hc, rfl, ⟨Nat.le_refl _, by omega⟩, fun p _ _ => ⟨rfl, rfl⟩, fun p h => .inl h, fun j hj => absurd hj (Nat.not_lt_zero _), by omega, by omega, by omega⟩
theorem Fold.step {X X1 X2 X3 : Sys} {A A1 A2 A3 : Path → Option Nd} {ι ι1 ι2 ι3 : Path → Nat} {C C1 C2 C3 : List Nat} {id n n1 q : Nat} (h : Fold X X1 A ι A1 ι1 C C1 id n n1 q) (hno : A1 [cN, partN id q] = none) (hks : ∀ s, A1 [cN, partN id q, s] = none)
    (hp : PartA X1 X2 A1 ι1 A2 ι2 C1 C2 (partN id q) n1) (hk : Mk X2 X3 A2 ι2 A3 ι3 C2 C3 [cN, partN id q] prodN (.file []) 64) : ∃ n', Fold X X3 A ι A3 ι3 C C3 id n n' (q + 1) := by
  obtain ⟨S, i1, i2, rfl, rfl, hS, hh, hfb, hlen⟩ := hp.tree
  obtain ⟨S3, i3, rfl, rfl, hS3, -, -, hfb3, hlen3⟩ := hk.tree
  have hd : dat S3 - dat 64 = 0 := by rcases hS3 with rfl | rfl <;> decide
  rw [hd] at hfb3 hlen3
  have hg3 := (h.goes.trans hp.goes).trans hk.goes
  have hnS : n1 ≤ S := by rcases hS with rfl | rfl <;> omega
  have hdn : dat n1 ≤ dat S := dat_mono hnS
  have hsp : segN ≠ prodN := by decide
  have hq : ∀ p, addT (addT (addT A1 [cN] (partN id q) (.dir 0) S) [cN, partN id q] segN (.file []) 64) [cN, partN id q] prodN (.file []) S3 p = if p = [cN, partN id q, prodN] then some (.file []) else if p = [cN, partN id q] then some (.dir S3) else if p = [cN, partN id q, segN] then some (.file []) else if p = [cN] then some (.dir S) else A1 p := fun p => by
    unfold addT
    show (if p = [cN, partN id q, prodN] then _ else if p = [cN, partN id q] then _ else if p = [cN, partN id q, segN] then _ else if p = [cN, partN id q] then _ else if p = [cN, partN id q] then _ else if p = [cN] then _ else _) = _
    by_cases e : p = [cN, partN id q]
    · rw [if_pos e, if_pos e]
    · rw [if_neg e, if_neg e, if_neg e, if_neg e]
  have hqi : ∀ p, addI (addI (addI ι1 [cN] (partN id q) i1) [cN, partN id q] segN i2) [cN, partN id q] prodN i3 p = if p = [cN, partN id q, prodN] then i3 else if p = [cN, partN id q, segN] then i2 else if p = [cN, partN id q] then i1 else ι1 p := fun p => rfl
  refine ⟨S, hg3, ?_, ?_, ⟨by have := h.n1; omega, by have := h.n1; rcases hS with rfl | rfl <;> omega⟩, fun p hs hc => ?_, fun p hs => ?_, fun j hj => ?_, ?_, ?_, ?_⟩
  · rw [hq, if_neg (by simp), if_neg (by simp), if_neg (by simp), if_pos rfl]
  · rw [← h.ic, hqi, if_neg (by simp), if_neg (by simp), if_neg (by simp)]
  · obtain ⟨k1, k2⟩ := h.keep p hs hc
    have hA1 : A1 p ≠ none := by rw [k1]; exact hs
    have n1 : p ≠ [cN, partN id q] := fun e => hA1 (by rw [e]; exact hno)
    have n2 : p ≠ [cN, partN id q, prodN] := fun e => hA1 (by rw [e]; exact hks _)
    have n3 : p ≠ [cN, partN id q, segN] := fun e => hA1 (by rw [e]; exact hks _)
    rw [hq, hqi, if_neg n2, if_neg n1, if_neg n3, if_neg hc, if_neg n2, if_neg n3, if_neg n1]
    exact ⟨k1, k2⟩
  · rw [hq] at hs
    by_cases n2 : p = [cN, partN id q, prodN]
    · exact .inr ⟨q, by omega, .inr (.inr n2)⟩
    · rw [if_neg n2] at hs
      by_cases n1 : p = [cN, partN id q]
      · exact .inr ⟨q, by omega, .inl n1⟩
      · rw [if_neg n1] at hs
        by_cases n3 : p = [cN, partN id q, segN]
        · exact .inr ⟨q, by omega, .inr (.inl n3)⟩
        · rw [if_neg n3] at hs
          have hA1 : A1 p ≠ none := by
            by_cases e : p = [cN]
            · rw [e, h.c]; simp
            · rw [if_neg e] at hs; exact hs
          rcases h.only p hA1 with h1 | ⟨j, hj, h1⟩
          · exact .inl h1
          · exact .inr ⟨j, by omega, h1⟩
  · by_cases e : j = q
    · subst e
      refine ⟨⟨S3, ?_⟩, ?_, ?_⟩
      · rw [hq, if_neg (by simp), if_pos rfl]
      · rw [hq, if_neg (by simp [hsp]), if_neg (by simp), if_pos rfl]
      · rw [hq, if_pos rfl]
    · obtain ⟨⟨m, a1⟩, a2, a3⟩ := h.new j (by omega)
      have hne : partN id j ≠ partN id q := fun e => by rw [e, hno] at a1; cases a1
      refine ⟨⟨m, ?_⟩, ?_, ?_⟩
      · rw [hq, if_neg (by simp), if_neg (by simp [hne]), if_neg (by simp), if_neg (by simp)]; exact a1
      · rw [hq, if_neg (by simp [hne]), if_neg (by simp), if_neg (by simp [hne]), if_neg (by simp)]; exact a2
      · rw [hq, if_neg (by simp [hne]), if_neg (by simp), if_neg (by simp [hne]), if_neg (by simp)]; exact a3
  · have a1 := h.fi; have a2 := hp.fi; have a3 := hk.fi; omega
  · have a1 := h.fb; omega
  · have a1 := h.len; omega
structure MayFold (X : Sys) (A : Path → Option Nd) (ι : Path → Nat) (C : List Nat) (id n P : Nat) : Prop where
  c : A [cN] = some (.dir n)
  idl : id < 100
  Pl : 1 ≤ P ∧ P ≤ 8
  no : ∀ q, q < P → A [cN, partN id q] = none
  size : n + 64 * P ≤ 5120
  fi : 3 * P ≤ X.fi
  fb : P + (dat (n + 64 * P) - dat n) ≤ X.fb
  cov : Cov X C
  im : X.P.im ∈ C
  bm : X.P.bm ∈ C
  held : HeldC X C (ι [cN])
  room : C.length + 4 * P + (dat (n + 64 * P) - dat n) ≤ 60
theorem MayFold.part {X X1 : Sys} {A A1 : Path → Option Nd} {ι ι1 : Path → Nat} {C C1 : List Nat} {id n n1 P q : Nat} (h : MayFold X A ι C id n P) (hr : Rep X A ι) (f : Fold X X1 A ι A1 ι1 C C1 id n n1 q) (hq : q < P) (hr1 : Rep X1 A1 ι1) :
    A1 [cN, partN id q] = none ∧ MayMake X1 A1 ι1 C1 [cN] (partN id q) n1 ∧ (∀ s, A1 [cN, partN id q, s] = none) ∧ 2 ≤ X1.fi ∧ dat (n1 + 64) - dat n1 + 1 ≤ X1.fb ∧ C1.length + 4 + (dat (n1 + 64) - dat n1) ≤ 60 := by
  have hP := h.Pl
  have hn := f.n1
  have d1 : dat n ≤ dat n1 := dat_mono hn.1
  have d2 : dat (n1 + 64) ≤ dat (n + 64 * P) := dat_mono (by omega)
  have d3 : dat n1 ≤ dat (n1 + 64) := dat_mono (by omega)
  have e1 := f.fi; have e2 := f.fb; have e3 := f.len
  have m1 := h.fi; have m2 := h.fb; have m3 := h.room; have m4 := h.size
  have hno : A1 [cN, partN id q] = none := by
    cases hx : A1 [cN, partN id q] with
    | none => rfl
    | some x =>
      rcases f.kids (partN id q) (by rw [hx]; exact fun e => by cases e) with h1 | ⟨j, hj, h1⟩
      · exact absurd (h.no q hq) h1
      · have := partN_inj (by omega) (by omega) h1
        omega
  refine ⟨hno, ⟨f.c, fun x hx => ?_, by simp, hno, by omega, by omega, by omega, f.goes.cov, f.goes.sub _ (by rw [f.goes.wr]; exact h.im), f.goes.sub _ (by rw [f.goes.wr]; exact h.bm), ?_, by omega⟩, fun s => ?_, by omega, by omega, by omega⟩
  · rcases List.mem_append.1 hx with h1 | h1
    · have : x = cN := by simpa using h1
      rw [this]; exact cN_ok
    · have : x = partN id q := by simpa using h1
      rw [this]; exact partN_ok h.idl (by omega)
  · rw [f.ic]
    exact f.goes.held _ (hr.live [cN] _ h.c).1 h.held
  · cases hx : A1 [cN, partN id q, s] with
    | none => rfl
    | some x =>
      obtain ⟨-, m, hm⟩ := hr1.up [cN, partN id q] s (by show A1 [cN, partN id q, s] ≠ none; rw [hx]; exact fun e => by cases e)
      rw [hno] at hm
      cases hm
theorem MayFold.prod {X X1 X2 : Sys} {A A1 A2 : Path → Option Nd} {ι ι1 ι2 : Path → Nat} {C C1 C2 : List Nat} {id n n1 P q : Nat} (h : MayFold X A ι C id n P) (f : Fold X X1 A ι A1 ι1 C C1 id n n1 q) (hq : q < P)
    (hk : ∀ s, A1 [cN, partN id q, s] = none) (hfb : dat (n1 + 64) - dat n1 + 1 ≤ X1.fb) (hp : PartA X1 X2 A1 ι1 A2 ι2 C1 C2 (partN id q) n1) : MayMake X2 A2 ι2 C2 [cN, partN id q] prodN 64 := by
  obtain ⟨S, i1, i2, rfl, rfl, hS, hh, hfb2, hlen⟩ := hp.tree
  have hP := h.Pl
  have hn := f.n1
  have d1 : dat n ≤ dat n1 := dat_mono hn.1
  have d2 : dat (n1 + 64) ≤ dat (n + 64 * P) := dat_mono (by omega)
  have d3 : dat n1 ≤ dat (n1 + 64) := dat_mono (by omega)
  have d4 : dat S ≤ dat (n1 + 64) := dat_mono (by rcases hS with rfl | rfl <;> omega)
  have d5 : dat (64 + 64) - dat 64 = 0 := by decide
  have e1 := f.fi; have e3 := f.len; have e4 := hp.fi
  have m1 := h.fi; have m3 := h.room
  have hg := f.goes.trans hp.goes
  refine ⟨?_, fun x hx => ?_, by simp, ?_, by omega, by omega, by rw [d5]; omega, hg.cov, hg.sub _ (by rw [hg.wr]; exact h.im), hg.sub _ (by rw [hg.wr]; exact h.bm), ?_, by rw [d5]; omega⟩
  · unfold addT
    rw [if_neg (by simp), if_pos rfl]
  · rcases List.mem_append.1 hx with h1 | h1
    · have : x = cN ∨ x = partN id q := by simpa using h1
      rcases this with rfl | rfl
      · exact cN_ok
      · exact partN_ok h.idl (by omega)
    · have : x = prodN := by simpa using h1
      rw [this]; exact prodN_ok
  · unfold addT
    rw [if_neg (by simp; decide), if_neg (by simp), if_neg (by simp), if_neg (by simp)]
    exact hk prodN
  · have : addI (addI ι1 [cN] (partN id q) i1) [cN, partN id q] segN i2 [cN, partN id q] = i1 := by
      unfold addI
      rw [if_neg (by simp)]
      exact if_pos (show [cN, partN id q] = [cN] ++ [partN id q] from rfl)
    rw [this]; exact hh
theorem part_size {id p : Nat} (hid : id < 100) (hp : p < 10) : (pathB [cN, partN id p]).size ≤ 60 := by
  have h := (part_bytes id hid p hp).2.2.2.2
  have h2 := pathB_snoc [cN] (partN id p)
  have h3 : (pathB [cN, partN id p]).data.toList.length = 2 + 1 + (partN id p).size := by
    show (pathB ([cN] ++ [partN id p])).data.toList.length = _
    rw [h2, List.length_append, List.length_cons]
    show 2 + ((partN id p).data.toList.length + 1) = _
    rw [Array.length_toList]
    show 2 + ((partN id p).size + 1) = _
    omega
  rw [Array.length_toList] at h3
  show (pathB [cN, partN id p]).data.size ≤ 60
  omega
end
section
open Go.ChangeMaps Go.MapKept Go.RowKit
variable {w0 : Gnd} {w : World} {rs : List Res} {X : Sys} {F : FH} {A : Path → Option Nd} {ι : Path → Nat}
set_option maxHeartbeats 2000000 in
set_option maxRecDepth 100000 in
theorem c_folders (h : Fs w0 w F X A ι rs) (ht : Tx F X) {cb mb i0 : Nat} {next : Int} (hr : rs[i0]? = some (catS cb F.fb next mb)) {C : List Nat} {id n P : Nat} (hm : MayFold X A ι C id n P) (nm : ByteArray) (p3 p4 p5 : Int) (p6 : Bool) (p7 : Int)
    (h1 : 512 ≤ p3 ∧ p3 ≤ 8192) (h2 : -1 ≤ p4 ∧ p4 ≤ 1099511627776) (h3 : -1 ≤ p5 ∧ p5 ≤ 1125899906842624) (h4 : 0 ≤ p7 ∧ p7 ≤ 1125899906842624) :
    Calls Tryz.prog 46 #[.pointer (some ⟨cb, 0, none⟩), .agg (tpz nm id P p3 p4 p5 p6 p7)] w fun e w' => e = .returned (.int .i64 0) ∧ ∃ X' A' ι' C' n', Fs w0 w' F X' A' ι' rs ∧ Fold X X' A ι A' ι' C C' id n n' P := by
  have hb := h.newArr (tpz nm id P p3 p4 p5 p6 p7) 31 neTp
  obtain ⟨y, hy⟩ : ∃ y, w.alloc (.cells (tpz nm id P p3 p4 p5 p6 p7) 31 (0, 0)) = y := ⟨_, rfl⟩
  obtain ⟨g, hg⟩ : ∃ g, w.heap.size = g := ⟨_, rfl⟩
  rw [hy, hg] at hb
  have KC : Hid (∀ z Y B κ, Fs w0 z F Y B κ (arr g (tpz nm id P p3 p4 p5 p6 p7) 31 neTp :: rs) → z.cell? ⟨cb, 0, none⟩ = some (.pointer (some ⟨F.fb, 0, none⟩)) ∧ (z.cell? ⟨g, 2, none⟩ = some (.int .i64 P) ∧ z.cell? ⟨g, 3, none⟩ = some (.int .i64 p3) ∧ z.cell? ⟨g, 4, none⟩ = some (.int .i64 p4) ∧ z.cell? ⟨g, 5, none⟩ = some (.int .i64 p5) ∧ z.cell? ⟨g, 6, none⟩ = some (.bool p6) ∧ z.cell? ⟨g, 7, none⟩ = some (.int .i64 p7)) ∧ z.heap[g]? = some (.cells (tpz nm id P p3 p4 p5 p6 p7) 31 (0, 0))) := Lib.hid fun z Y B κ hz =>
    ⟨(hz.arrCell (i := i0 + 1) hr 0).trans rfl, ⟨(hz.arrCell (i := 0) rfl 2).trans rfl, (hz.arrCell (i := 0) rfl 3).trans rfl, (hz.arrCell (i := 0) rfl 4).trans rfl, (hz.arrCell (i := 0) rfl 5).trans rfl, (hz.arrCell (i := 0) rfl 6).trans rfl, (hz.arrCell (i := 0) rfl 7).trans rfl⟩, hz.block (i := 0) rfl⟩
  have KDir : Hid (∀ z Y B κ q, Fs w0 z F Y B κ (arr g (tpz nm id P p3 p4 p5 p6 p7) 31 neTp :: rs) → q < 10 → Calls Tryz.prog 24 #[.pointer (some ⟨cb, 0, none⟩), .agg (tpz nm id P p3 p4 p5 p6 p7), .int .i64 (q : Nat)] z fun e w' => e = .returned (.string (pathB [cN, partN id q])) ∧ Fs w0 w' F Y B κ (arr g (tpz nm id P p3 p4 p5 p6 p7) 31 neTp :: rs)) := Lib.hid fun z Y B κ q hz hq => c_Dir hz (i := i0 + 1) hr id q hm.idl hq nm P p3 p4 p5 p6 p7
  have KPart : Hid (∀ z X1 A1 ι1 C1 n1 q, Fs w0 z F X1 A1 ι1 (arr g (tpz nm id P p3 p4 p5 p6 p7) 31 neTp :: rs) → Fold X X1 A ι A1 ι1 C C1 id n n1 q → q < P → Calls Tryz.prog 105 #[.pointer (some ⟨F.fb, 0, none⟩), .string (pathB [cN, partN id q]), .agg #[.int .i64 p3, .int .i64 p4, .int .i64 p5, .bool p6, .int .i64 p7]] z fun r w' => r = .returned (.int .i64 0) ∧ ∃ X' A' ι' C', Fs w0 w' F X' A' ι' (arr g (tpz nm id P p3 p4 p5 p6 p7) 31 neTp :: rs) ∧ PartA X1 X' A1 ι1 A' ι' C1 C' (partN id q) n1) := Lib.hid fun z X1 A1 ι1 C1 n1 q hz f hq => by
    obtain ⟨q1, q2, q3, q4, q5, q6⟩ := hm.part h.2 f hq hz.2
    exact p_Make hz (ht.wr f.goes.wr) (part_size hm.idl (by have := hm.Pl; omega)) q2 q3 q4 q5 q6 p3 p4 p5 p6 p7 h1 h2 h3 h4
  have KProd : Hid (∀ z X1 A1 ι1 C1 n1 q X2 A2 ι2 C2, Rep X1 A1 ι1 → Fold X X1 A ι A1 ι1 C C1 id n n1 q → q < P → PartA X1 X2 A1 ι1 A2 ι2 C1 C2 (partN id q) n1 → Fs w0 z F X2 A2 ι2 (arr g (tpz nm id P p3 p4 p5 p6 p7) 31 neTp :: rs) → Calls Tryz.prog 106 #[.pointer (some ⟨F.fb, 0, none⟩), .string (pathB [cN, partN id q] ++ ⟨#[47, 112, 114, 111, 100, 117, 99, 101, 114, 115]⟩)] z fun r w' => r = .returned (.int .i64 0) ∧ ∃ X' A' ι' C' n', Fs w0 w' F X' A' ι' (arr g (tpz nm id P p3 p4 p5 p6 p7) 31 neTp :: rs) ∧ Fold X X' A ι A' ι' C C' id n n' (q + 1)) := Lib.hid fun z X1 A1 ι1 C1 n1 q X2 A2 ι2 C2 hr1 f hq hp hz => by
    obtain ⟨q1, q2, q3, q4, q5, q6⟩ := hm.part h.2 f hq hr1
    have := pr_Make hz ((ht.wr f.goes.wr).wr hp.goes.wr) (hm.prod f hq q3 q5 hp)
    rw [path_add [cN, partN id q] prodN _ rfl]
    refine this.mono ?_
    rintro r w' ⟨he, X', A', ι', C', hz', hk⟩
    obtain ⟨n', hf⟩ := f.step q1 q3 hp hk
    exact ⟨he, X', A', ι', C', n', hz', hf⟩
  have KSz : Hid (∀ q, q < 10 → (pathB [cN, partN id q]).size ≤ 60) := Lib.hid fun q hq => part_size hm.idl hq
  have H0 : Hid (Fs w0 y F X A ι (arr g (tpz nm id P p3 p4 p5 p6 p7) 31 neTp :: rs) ∧ Fold X X A ι A ι C C id n n 0) := Lib.hid ⟨hb, Fold.refl hm.cov id hm.c⟩
  have HY := Lib.hid (And.intro hy hg)
  have P0 : (0 : Int) ≤ (P : Int) := Int.natCast_nonneg _
  have P1 : (P : Int) ≤ 8 := by have := hm.Pl; omega
  have c2 := (KC.out _ _ _ _ hb).2.1.1
  clear h ht hr hm h1 h2 h3 h4 hb hy hg
  go_enter Tryz.func46, Tryz.ntmps46
  go_upto_region 1 with fail
  rw [HY.out.1, HY.out.2]
  clear HY
  go_wp2_with fail
  go_loopw [5, 6, 7, 8, 11] (fun _ _ _ _ t11 wr => ∃ q : Nat, q ≤ P ∧ t11 = .int .i64 q ∧ ∃ X1 A1 ι1 C1 n1, Hid (Fs w0 wr F X1 A1 ι1 (arr g (tpz nm id P p3 p4 p5 p6 p7) 31 neTp :: rs) ∧ Fold X X1 A ι A1 ι1 C C1 id n n1 q)) (fun _ _ _ _ t11 _ => P - (intOf t11).toNat)
  case atStart => exact ⟨0, Nat.zero_le _, rfl, X, A, ι, C, n, H0⟩
  case round =>
    clear H0 c2
    obtain ⟨q, hq, rfl, X1, A1, ι1, C1, n1, HR⟩ := hrel
    have q0 : (0 : Int) ≤ (q : Int) := Int.natCast_nonneg _
    by_cases hlt : q < P
    · have q1 : (q : Int) < (P : Int) := by omega
      have HD := Lib.hid (KDir.out _ _ _ _ q HR.out.1 (by omega))
      have HBK := Lib.hid (KC.out _ _ _ _ HR.out.1).2.2
      have HQ := Lib.hid (And.intro HR.out.2 (And.intro hlt HR.out.1.2))
      clear KDir HR
      go_wp2_with (refine loadTp rfl _ rfl g rfl nm id P p3 p4 p5 p6 p7 HBK.out ?_)
      refine HD.out.mono ?_
      clear HD HBK
      rintro e w2 ⟨rfl, h2⟩
      obtain ⟨c0, ⟨c2, c3, c4, c5, c6, c7⟩, -⟩ := KC.out _ _ _ _ h2
      have h2d := h2.frm (Frm.refl NoB w2).drew
      have HP := Lib.hid (KPart.out _ _ _ _ _ _ q h2d HQ.out.1 HQ.out.2.1)
      have H2 := Lib.hid h2
      have H2d := Lib.hid h2d
      clear h2 h2d KPart
      go_upto_region 5 with fail
      go_region_held3 (fun z => z.cell? ⟨cb, 0, none⟩ = some (.pointer (some ⟨F.fb, 0, none⟩)) ∧ (z.cell? ⟨g, 2, none⟩ = some (.int .i64 P) ∧ z.cell? ⟨g, 3, none⟩ = some (.int .i64 p3) ∧ z.cell? ⟨g, 4, none⟩ = some (.int .i64 p4) ∧ z.cell? ⟨g, 5, none⟩ = some (.int .i64 p5) ∧ z.cell? ⟨g, 6, none⟩ = some (.bool p6) ∧ z.cell? ⟨g, 7, none⟩ = some (.int .i64 p7)))
        (first | exact ⟨(KC.out _ _ _ _ H2.out).1, (KC.out _ _ _ _ H2.out).2.1⟩ | exact ⟨(KC.out _ _ _ _ H2d.out).1, (KC.out _ _ _ _ H2d.out).2.1⟩ | exact ⟨(KC.out _ _ _ _ h5).1, (KC.out _ _ _ _ h5).2.1⟩)
        (first
          | (go_at_call 105; (with_reducible refine HP.out.mono ?_); rintro e w5 ⟨rfl, X2, A2, ι2, C2, h5, hp5⟩))
      have HPR := Lib.hid (KProd.out _ _ _ _ _ _ q _ _ _ _ HQ.out.2.2 HQ.out.1 HQ.out.2.1 hp5 h5)
      have d0 := (KC.out _ _ _ _ h5).1
      obtain ⟨sz, hsz⟩ : ∃ sz, (pathB [cN, partN id q]).size = sz := ⟨_, rfl⟩
      have z0 : (0 : Int) ≤ (sz : Int) := Int.natCast_nonneg _
      have z1 : (sz : Int) ≤ 60 := by have := KSz.out q (by have := HQ.out.2.1; omega); omega
      have hlp : (⟨#[47, 112, 114, 111, 100, 117, 99, 101, 114, 115]⟩ : ByteArray).size = 10 := rfl
      clear h5 hp5 KProd HP H2 H2d c0 c2 c3 c4 c5 c6 c7 KC KSz
      generalize pathB [cN, partN id q] = dir at *
      go_wp2_with fail
      refine HPR.out.mono ?_
      clear HPR d0
      rintro e w6 ⟨rfl, X3, A3, ι3, C3, n3, h6, hf6⟩
      have H6 := Lib.hid (And.intro h6 hf6)
      have hlt2 := HQ.out.2.1
      clear h6 hf6 hsz
      go_wp2_with fail
      exact ⟨⟨q + 1, hlt2, by go_num, X3, A3, ι3, C3, n3, H6⟩, by simp [intOf]; omega⟩
    · obtain rfl : q = P := by omega
      clear KDir KPart KProd KSz KC
      go_wp2_with fail
      go_ret
      exact ⟨rfl, X1, A1, ι1, C1, n1, HR.out.1.drop 1, HR.out.2⟩
end
section
open Go.ChangeMaps Go.MapKept Go.RowKit
theorem setT_setT (A : Path → Option Nd) (p : Path) (x y : Option Nd) : setT (setT A p x) p y = setT A p y := by
  funext q
  unfold setT
  by_cases e : q = p
  · rw [if_pos e, if_pos e]
  · rw [if_neg e, if_neg e, if_neg e]
theorem overB_take (b x : Blk) : (overB b 0 x).take x.length = x := by
  unfold overB
  simp
theorem overB_length0 (b x : Blk) : (overB b 0 x).length = max b.length x.length := by
  unfold overB
  simp
  omega
end
section
open Go.ChangeMaps Go.MapKept Go.RowKit
variable {w0 : Gnd} {w : World} {rs : List Res} {X : Sys} {F : FH} {A : Path → Option Nd} {ι : Path → Nat}
set_option maxHeartbeats 1000000 in
set_option maxRecDepth 100000 in
theorem c_save (h : Fs w0 w F X A ι rs) (ht : Tx F X) {cb mb mb' i j : Nat} {next next' : Int} {L' : List Tp} {old : Blk} (hr : rs[i]? = some (catS cb F.fb next mb)) (hr2 : rs[j]? = some (catM mb' L')) (hL : CatL L') (hlen : L'.length ≤ 20) (hA : A [cN, lsN] = some (.file old)) (ho : old.length ≤ 5120)
    {C : List Nat} (hC : Cov X C) (hbm : X.P.bm ∈ C) (hh : HeldC X C (ι [cN, lsN])) (hfb : dat (encC next' L').length - dat old.length ≤ X.fb) (hroom : C.length + (dat (encC next' L').length - dat old.length) ≤ 60) :
    Calls Tryz.prog 104 #[.pointer (some ⟨cb, 0, none⟩), .int .i64 next', .map (some mb')] w fun e w' => e = .returned (.int .i64 0) ∧ ∃ X' C', Fs w0 w' F X' (setT A [cN, lsN] (some (.file (encC next' L')))) ι rs ∧ Goes X X' C C' ∧ X'.fi = X.fi ∧ X'.fb + dat (encC next' L').length = X.fb + dat old.length ∧ C'.length ≤ C.length + (dat (encC next' L').length - dat old.length) := by
  have hel := encC_length next' L' hL.nm
  obtain ⟨n, hn⟩ : ∃ n, (encC next' L').length = n := ⟨_, rfl⟩
  have hmx : dat (max old.length n) - dat old.length = dat n - dat old.length := by
    rcases Nat.le_total old.length n with e | e
    · rw [Nat.max_eq_right e]
    · rw [Nat.max_eq_left e]; have := dat_mono e; omega
  have KE : Hid (∀ W, Fs w0 W F X A ι rs → Calls Tryz.prog 100 #[.int .i64 next', .map (some mb')] W fun e w' => ∃ g o c, e = .returned (.slice (some ⟨g, o, none⟩) n c) ∧ Fs w0 w' F X A ι (byt (.slice (some ⟨g, o, none⟩) n c) (encC next' L') :: rs)) := Lib.hid fun W hW => by
    have hmap : MapAt KeyK okK W mb' L'.length (tpV (mapL L')) := by
      obtain ⟨⟨k, l, ha, -⟩, -⟩ := hW
      exact ha.mapAt (i := j + 2) hr2
    refine (c_encode W (.map (some mb')) next' (by omega) hL.nm (fun Z hZ => c_sorted Z mb' hL (by omega) (hmap.frm hZ (fun e => e)))).mono ?_
    rintro e w' ⟨v, he, hv, hf⟩
    have hb := hv.bytes (fun e => by rw [e] at hel; have : 0 = 8 + 107 * L'.length := hel; omega)
    obtain ⟨g, o, c, rfl, -⟩ := hb.cells
    rw [hn] at he hb
    exact ⟨g, o, c, he, hW.mkByt hf hb⟩
  have KW : Hid (∀ W g o c, Fs w0 W F X A ι (byt (.slice (some ⟨g, o, none⟩) n c) (encC next' L') :: rs) → Calls Tryz.prog 194 #[.pointer (some ⟨F.fb, 0, none⟩), .string (pathB [cN, lsN]), .int .i64 0, .slice (some ⟨g, o, none⟩) n c] W fun e w' => e = .returned (.int .i64 0) ∧ ∃ X1 C1, Fs w0 w' F X1 (setT A [cN, lsN] (some (.file (overB old 0 (encC next' L'))))) ι (byt (.slice (some ⟨g, o, none⟩) n c) (encC next' L') :: rs) ∧ Ed X X1 A (setT A [cN, lsN] (some (.file (overB old 0 (encC next' L'))))) C C1 [cN, lsN] old (overB old 0 (encC next' L'))) := Lib.hid fun W g o c hW => by
    have := f_Write_in hW ht.b ht.o ht.d ht.op ht.ov (ns := [cN, lsN]) (by simp) (by simp [cN_ok, lsN_ok]) (by simp) (a := 0) (x := encC next' L') (C := C) ⟨hA, Nat.zero_le _, (by rw [Nat.zero_add, hel]; omega), by rw [Nat.zero_add, hn, hmx]; rw [hn] at hfb; exact hfb, hC, hbm, hh, by rw [Nat.zero_add, hn, hmx]; rw [hn] at hroom; exact hroom⟩ (ai := 0) (bb := g) (bo := o) (vc := c) (by rw [hn]; rfl)
    rw [hn] at this
    refine this.mono ?_
    rintro e w' ⟨he, X1, A1, C1, h1, hed⟩
    obtain rfl := hed.tree
    exact ⟨he, X1, C1, h1, hed⟩
  have KT : Hid (∀ W X1 C1 rs', Ed X X1 A (setT A [cN, lsN] (some (.file (overB old 0 (encC next' L'))))) C C1 [cN, lsN] old (overB old 0 (encC next' L')) → Fs w0 W F X1 (setT A [cN, lsN] (some (.file (overB old 0 (encC next' L'))))) ι rs' → X.live (ι [cN, lsN]) → Calls Tryz.prog 158 #[.pointer (some ⟨F.fb, 0, none⟩), .string (pathB [cN, lsN]), .int .i64 n] W fun e w' => e = .returned (.int .i64 0) ∧ ∃ X' C', Fs w0 w' F X' (setT A [cN, lsN] (some (.file (encC next' L')))) ι rs' ∧ Goes X X' C C' ∧ X'.fi = X.fi ∧ X'.fb + dat (encC next' L').length = X.fb + dat old.length ∧ C'.length ≤ C.length + (dat (encC next' L').length - dat old.length)) := Lib.hid fun W X1 C1 rs' hed hW hlv => by
    have hol := overB_length0 old (encC next' L')
    have h60 : C1.length ≤ 60 := by have := hed.len; rw [hol, hn, hmx] at this; rw [hn] at hroom; omega
    have htx := ht.wr hed.goes.wr
    have := f_Truncate_in hW htx.b htx.o htx.d htx.op htx.ov (ns := [cN, lsN]) (by simp) (by simp [cN_ok, lsN_ok]) (by simp) (b := overB old 0 (encC next' L')) (S := n) (by unfold setT; rw [if_pos rfl]) (by rw [hol]; omega) hed.goes.cov (hed.goes.sub _ (by rw [hed.goes.wr]; exact hbm)) (hed.goes.held _ hlv hh) h60
    refine this.mono ?_
    rintro e w' ⟨he, X2, A2, C2, h2, hed2⟩
    obtain rfl := hed2.tree
    rw [← hn, overB_take] at hed2 h2
    rw [setT_setT] at h2
    have f1 := hed.fb; have f2 := hed2.fb; have l1 := hed.len; have l2 := hed2.len
    rw [hol, hn, hmx] at l1
    rw [hol, hn] at l2
    have hmx2 : dat n - dat (max old.length n) = 0 := by have := dat_mono (Nat.le_max_right old.length n); omega
    rw [hmx2] at l2
    exact ⟨he, X2, C2, h2, hed.goes.trans hed2.goes, hed2.fi.trans hed.fi, by omega, by rw [hn]; omega⟩
  have hlv : X.live (ι [cN, lsN]) := (h.2.live _ _ hA).1
  have KC : Hid (∀ z Y B κ rs', Fs w0 z F Y B κ (rs' ++ rs) → z.cell? ⟨cb, 0, none⟩ = some (.pointer (some ⟨F.fb, 0, none⟩)) ∧ z.cell? ⟨cb, 1, none⟩ = some (.string (pathB [cN]))) := Lib.hid fun z Y B κ rs' hz => by
    have hz := hz.sub (List.sublist_append_right rs' rs)
    exact ⟨(hz.arrCell hr 0).trans rfl, (hz.arrCell hr 1).trans rfl⟩
  have HLV := Lib.hid hlv
  have HE := Lib.hid (KE.out _ h)
  have hp2 := path_add [cN] lsN ⟨#[47, 99, 97, 116, 97, 108, 111, 103]⟩ rfl
  have hp3 : pathB ([cN] ++ [lsN]) = pathB [cN, lsN] := rfl
  rw [hp3] at hp2
  obtain ⟨dir, hdir⟩ : ∃ dir, pathB [cN] = dir := ⟨_, rfl⟩
  have hds : dir.size = 2 := by rw [← hdir]; rfl
  rw [hdir] at hp2 KC
  generalize pathB [cN, lsN] = path at *
  have n0 : (0 : Int) ≤ (n : Int) := Int.natCast_nonneg _
  have n1 : (n : Int) ≤ 2148 := by omega
  clear h ht hr hr2 hL hlen hA ho hC hbm hh hfb hroom hel hn hmx hlv KE hp3 hdir
  go_enter Tryz.func104, Tryz.ntmps104
  go_wp2_with fail
  refine HE.out.mono ?_
  clear HE
  rintro e w1 ⟨g, o, c, rfl, h1⟩
  obtain ⟨k1, k2⟩ := KC.out _ _ _ _ [_] h1
  have H1 := Lib.hid h1
  have H1d := Lib.hid (h1.frm (Frm.refl NoB w1).drew)
  have HW := Lib.hid (KW.out _ _ _ _ H1d.out)
  clear h1 KW
  go_upto_region 2 with fail
  go_region_held3 (fun z => z.cell? ⟨cb, 0, none⟩ = some (.pointer (some ⟨F.fb, 0, none⟩)) ∧ z.cell? ⟨cb, 1, none⟩ = some (.string dir))
    (first | exact KC.out _ _ _ _ [_] H1.out | exact KC.out _ _ _ _ [_] H1d.out | exact KC.out _ _ _ _ [_] h2)
    (first
      | (go_at_call 194; (with_reducible refine HW.out.mono ?_); rintro e w2 ⟨rfl, X1, C1, h2, hed⟩))
  have h2 := h2.drop 1
  obtain ⟨k3, k4⟩ := KC.out _ _ _ _ [] h2
  have H2 := Lib.hid h2
  have H2d := Lib.hid (h2.frm (Frm.refl NoB w2).drew)
  have HT := Lib.hid (KT.out _ _ _ _ hed H2d.out HLV.out)
  clear h2 hed HW H1 H1d KT k1 k2
  go_upto_region 5 with fail
  go_region_held3 (fun z => z.cell? ⟨cb, 0, none⟩ = some (.pointer (some ⟨F.fb, 0, none⟩)) ∧ z.cell? ⟨cb, 1, none⟩ = some (.string dir))
    (first | exact KC.out _ _ _ _ [] H2.out | exact KC.out _ _ _ _ [] H2d.out | exact KC.out _ _ _ _ [] h3)
    (first
      | (go_at_call 158; (with_reducible refine HT.out.mono ?_); rintro e w3 ⟨rfl, X2, C2, h3, hg3⟩))
  have H3 := Lib.hid (And.intro h3 hg3)
  clear h3 hg3 HT H2 H2d KC k3 k4
  go_wp2
  go_ret
  exact ⟨rfl, X2, C2, H3.out.1, H3.out.2⟩
end
section
open Go.ChangeMaps Go.MapKept Go.RowKit
theorem neCatp : ¬ U8T (25 : TypeId) := by decide
theorem neMapT : ¬ U8T (91 : TypeId) := by decide
structure MaySave (X : Sys) (A : Path → Option Nd) (ι : Path → Nat) (C : List Nat) (old new : Blk) : Prop where
  ls : A [cN, lsN] = some (.file old)
  oldl : old.length ≤ 5120
  cov : Cov X C
  bm : X.P.bm ∈ C
  held : HeldC X C (ι [cN, lsN])
  fb : dat new.length - dat old.length ≤ X.fb
  room : C.length + (dat new.length - dat old.length) ≤ 60
structure Saved (X X' : Sys) (C C' : List Nat) (old new : Blk) : Prop where
  goes : Goes X X' C C'
  fi : X'.fi = X.fi
  fb : X'.fb + dat new.length = X.fb + dat old.length
  len : C'.length ≤ C.length + (dat new.length - dat old.length)
end
section
open Go.ChangeMaps Go.MapKept Go.RowKit
variable {w0 : Gnd} {w : World} {rs : List Res} {X : Sys} {F : FH} {A : Path → Option Nd} {ι : Path → Nat}
set_option maxHeartbeats 1000000 in
set_option maxRecDepth 100000 in
theorem c_change1 (h : Fs w0 w F X A ι rs) (ht : Tx F X) {cb mb mb' i j i1 i2 i3 i4 b1 b2 b3 b4 : Nat} {next next' : Int} {L' : List Tp} {old : Blk} {fn : FuncId} {caps : Array Value} (hr : rs[i]? = some (catS cb F.fb next mb)) (hr2 : rs[j]? = some (catM mb' L'))
    (q1 : rs[i1]? = some (arr b1 #[.pointer (some ⟨cb, 0, none⟩)] 25 neCatp)) (q2 : rs[i2]? = some (arr b2 #[.int .i64 next'] 3 neI8)) (q3 : rs[i3]? = some (arr b3 #[.map (some mb')] 91 neMapT)) (q4 : rs[i4]? = some (arr b4 #[.func (.func fn) #[] caps] 100 neFn))
    (hL : CatL L') (hlen : L'.length ≤ 20) {C : List Nat} (hs : MaySave X A ι C old (encC next' L')) (hE : EntersF Tryz.prog fn) {R : World → Prop}
    (HM : ∀ y X1 C1, Fs w0 y F X1 (setT A [cN, lsN] (some (.file (encC next' L')))) ι rs → Saved X X1 C C1 old (encC next' L') → Calls Tryz.prog fn caps y fun e w' => e = .returned (.int .i64 0) ∧ R w') :
    Calls Tryz.prog 103 #[.pointer (some ⟨b1, 0, none⟩), .pointer (some ⟨b2, 0, none⟩), .pointer (some ⟨b3, 0, none⟩), .pointer (some ⟨b4, 0, none⟩)] w fun e w' => e = .returned (.int .i64 0) ∧ R w' := by
  have HS := Lib.hid (c_save h ht hr hr2 hL hlen hs.ls hs.oldl hs.cov hs.bm hs.held hs.fb hs.room)
  have c1 : w.cell? ⟨b1, 0, none⟩ = some (.pointer (some ⟨cb, 0, none⟩)) := (h.arrCell q1 0).trans rfl
  have c2 : w.cell? ⟨b2, 0, none⟩ = some (.int .i64 next') := (h.arrCell q2 0).trans rfl
  have c3 : w.cell? ⟨b3, 0, none⟩ = some (.map (some mb')) := (h.arrCell q3 0).trans rfl
  have HQ := Lib.hid q4
  have HMM := Lib.hid HM
  have HEN := Lib.hid hE
  clear h ht hr hr2 q1 q2 q3 q4 hL hlen hs hE HM
  go_enter Tryz.func103, Tryz.ntmps103
  go_wp2_with fail
  refine HS.out.mono ?_
  clear HS c1 c2 c3
  rintro e w2 ⟨rfl, X1, C1, h2, g1, g2, g3, g4⟩
  have c4 : w2.cell? ⟨b4, 0, none⟩ = some (.func (.func fn) #[] caps) := (h2.arrCell HQ.out 0).trans rfl
  have HC := Lib.hid (HMM.out w2 X1 C1 h2 ⟨g1, g2, g3, g4⟩)
  clear h2 g1 g2 g3 g4 HMM
  go_wp2_with fail
  refine upon_callF HEN.out HC.out ?_
  rintro e w3 ⟨rfl, hR⟩
  refine ⟨_, rfl, ?_⟩
  have HR := Lib.hid hR
  clear hR HC c4
  go_wp2
  go_ret
  exact ⟨rfl, HR.out⟩
theorem entChange1 : EntersF Tryz.prog 103 := entersF_of Tryz.func103 (by kernel_rfl) rfl
set_option maxHeartbeats 1000000 in
set_option maxRecDepth 100000 in
theorem c_change (h : Fs w0 w F X A ι rs) (hb : F.begun = false) (hd : F.dead = false) (hop : X.op = false) (hlim : X.D.lim = none) (hm : X.m < 1000000) {cb mb mb' i j : Nat} {next next' : Int} {L' : List Tp} {old : Blk} {fn : FuncId} {caps : Array Value} (hr : rs[i]? = some (catS cb F.fb next mb)) (hr2 : rs[j]? = some (catM mb' L'))
    (hL : CatL L') (hlen : L'.length ≤ 20) {C : List Nat} (hs : MaySave X.open' A ι C old (encC next' L')) (hE : EntersF Tryz.prog fn) {K : Sys → (Path → Option Nd) → (Path → Nat) → Prop}
    (HM : ∀ y X1 C1 rs', Fs w0 y { F with begun := true, over := false } X1 (setT A [cN, lsN] (some (.file (encC next' L')))) ι (rs' ++ rs) → Saved X.open' X1 C C1 old (encC next' L') → Calls Tryz.prog fn caps y fun e w' => e = .returned (.int .i64 0) ∧ ∃ X' A' ι', Fs w0 w' { F with begun := true, over := false } X' A' ι' (rs' ++ rs) ∧ X' = X.open'.wr X'.l ∧ K X' A' ι') :
    Calls Tryz.prog 44 #[.pointer (some ⟨cb, 0, none⟩), .int .i64 next', .map (some mb'), .func (.func fn) #[] caps] w fun e w' => e = .returned (.int .i64 0) ∧ ∃ X' A' ι' Y, Fs w0 w' { F with begun := false, over := false } Y A' ι' (rs.set i (catS cb F.fb next' mb')) ∧ Comm X' Y ∧ X' = X.open'.wr X'.l ∧ K X' A' ι' := by
  have hh := (((h.newArr #[.pointer (some ⟨cb, 0, none⟩)] 25 neCatp).newArr #[.int .i64 next'] 3 neI8).newArr #[.map (some mb')] 91 neMapT).newArr #[.func (.func fn) #[] caps] 100 neFn
  have hmf : ∀ (fn : Fn) (first cap : Array Value) (W : World), (Instr.makeFunc fn first cap).run Tryz.prog W = .ok (.func fn first cap) W := fun _ _ _ _ => rfl
  simp only [size_alloc] at hh
  obtain ⟨y, hy⟩ : ∃ y, (((w.alloc (.cells #[.pointer (some ⟨cb, 0, none⟩)] 25 (0, 0))).alloc (.cells #[.int .i64 next'] 3 (0, 0))).alloc (.cells #[.map (some mb')] 91 (0, 0))).alloc (.cells #[.func (.func fn) #[] caps] 100 (0, 0)) = y := ⟨_, rfl⟩
  obtain ⟨b1, hb1⟩ : ∃ b1, w.heap.size = b1 := ⟨_, rfl⟩
  rw [hy, hb1] at hh
  obtain ⟨b2, hb2⟩ : ∃ b2, b1 + 1 = b2 := ⟨_, rfl⟩
  rw [hb2] at hh
  obtain ⟨b3, hb3⟩ : ∃ b3, b2 + 1 = b3 := ⟨_, rfl⟩
  rw [hb3] at hh
  obtain ⟨b4, hb4⟩ : ∃ b4, b3 + 1 = b4 := ⟨_, rfl⟩
  rw [hb4] at hh
  have HT := Lib.hid (f_Together_out hh hb hd hop hlim hm 103 #[.pointer (some ⟨b1, 0, none⟩), .pointer (some ⟨b2, 0, none⟩), .pointer (some ⟨b3, 0, none⟩), .pointer (some ⟨b4, 0, none⟩)] entChange1 (K := K) (fun z hz =>
    c_change1 hz ⟨rfl, rfl, hd, rfl, rfl⟩ (i := i + 4) (j := j + 4) (i1 := 3) (i2 := 2) (i3 := 1) (i4 := 0) hr hr2 rfl rfl rfl rfl hL hlen hs hE (fun v X1 C1 hv hsv => HM v X1 C1 [_, _, _, _] hv hsv)))
  have c0 : y.cell? ⟨b1, 0, none⟩ = some (.pointer (some ⟨cb, 0, none⟩)) := (hh.arrCell (i := 3) rfl 0).trans rfl
  have d0 : y.cell? ⟨cb, 0, none⟩ = some (.pointer (some ⟨F.fb, 0, none⟩)) := (hh.arrCell (i := i + 4) hr 0).trans rfl
  have HY := Lib.hid (And.intro hy (And.intro hb1 (And.intro hb2 (And.intro hb3 hb4))))
  have HR := Lib.hid hr
  clear h hb hd hop hlim hm hr hr2 hL hlen hs hE HM hh hy hb1 hb2 hb3 hb4
  go_enter Tryz.func44, Tryz.ntmps44
  go_upto_region 1 with fail
  rw [HY.out.1, HY.out.2.1, HY.out.2.2.1, HY.out.2.2.2.1, HY.out.2.2.2.2]
  clear HY
  go_wp2_with fail
  refine HT.out.mono ?_
  clear HT c0 d0
  rintro e w2 ⟨rfl, X', A', ι', Y, h2, hc, hx, hk⟩
  have hr := HR.out
  have e1 : w2.cell? ⟨b1, 0, none⟩ = some (.pointer (some ⟨cb, 0, none⟩)) := (h2.arrCell (i := 3) rfl 0).trans rfl
  have e2 : w2.cell? ⟨b2, 0, none⟩ = some (.int .i64 next') := (h2.arrCell (i := 2) rfl 0).trans rfl
  have e3 : w2.cell? ⟨b3, 0, none⟩ = some (.map (some mb')) := (h2.arrCell (i := 1) rfl 0).trans rfl
  have f2 : w2.cell? ⟨cb, 2, none⟩ = some (.int .i64 next) := (h2.arrCell (i := i + 4) hr 2).trans rfl
  have f3 : w2.cell? ⟨cb, 3, none⟩ = some (.map (some mb)) := (h2.arrCell (i := i + 4) hr 3).trans rfl
  have g2 : w2.frozen? ⟨cb, 2, none⟩ = false := (h2.weak.1.elim fun n hn => hn.elim fun l ha => ha.arrFree (i := i + 6) hr 2)
  have g3 : w2.frozen? ⟨cb, 3, none⟩ = false := (h2.weak.1.elim fun n hn => hn.elim fun l ha => ha.arrFree (i := i + 6) hr 3)
  have hil : i < rs.length := (List.getElem?_eq_some_iff.1 hr).1
  have hA1 := (h2.setArr (i + 4) hr 2 (.int .i64 next')).setArr (i + 4) (c := (catC F.fb (pathB [cN]) next mb).setIfInBounds 2 (.int .i64 next')) (by rw [List.getElem?_set_self (by show i + 4 < rs.length + 4; omega)]) 3 (.map (some mb'))
  have hB1 := (h2.setArr (i + 4) hr 3 (.map (some mb'))).setArr (i + 4) (c := (catC F.fb (pathB [cN]) next mb).setIfInBounds 3 (.map (some mb'))) (by rw [List.getElem?_set_self (by show i + 4 < rs.length + 4; omega)]) 2 (.int .i64 next')
  rw [List.set_set] at hA1 hB1
  have HA : Hid (Fs w0 ((w2.setCell ⟨cb, 2, none⟩ (.int .i64 next')).setCell ⟨cb, 3, none⟩ (.map (some mb'))).drew { F with begun := false, over := false } Y A' ι' (rs.set i (catS cb F.fb next' mb'))) := Lib.hid ((hA1.frm (Frm.refl NoB _).drew).drop 4)
  have HB : Hid (Fs w0 ((w2.setCell ⟨cb, 3, none⟩ (.map (some mb'))).setCell ⟨cb, 2, none⟩ (.int .i64 next')).drew { F with begun := false, over := false } Y A' ι' (rs.set i (catS cb F.fb next' mb'))) := Lib.hid ((hB1.frm (Frm.refl NoB _).drew).drop 4)
  have HH := Lib.hid (And.intro hc (And.intro hx hk))
  clear h2 hc hx hk hr hil hA1 hB1 HR
  go_upto_region 3 with fail
  go_region
  all_goals
    go_wp2
    go_ret
    first
      | exact ⟨rfl, X', A', ι', Y, HA.out, HH.out⟩
      | exact ⟨rfl, X', A', ι', Y, HB.out, HH.out⟩
end
section
open Go.ChangeMaps Go.MapKept Go.RowKit
def insT (t : Tp) : List Tp → List Tp
  | [] => [t]
  | a :: r => if lessN t.nm a.nm then t :: a :: r else a :: insT t r
theorem mem_insT (t x : Tp) : ∀ L : List Tp, x ∈ insT t L ↔ x = t ∨ x ∈ L
  | [] => by simp [insT]
  | a :: r => by
    unfold insT
    split
    · simp
    · rw [List.mem_cons, mem_insT t x r, List.mem_cons]
      constructor
      · rintro (h | h | h)
        · exact .inr (.inl h)
        · exact .inl h
        · exact .inr (.inr h)
      · rintro (h | h | h)
        · exact .inr (.inl h)
        · exact .inl h
        · exact .inr (.inr h)
theorem insT_length (t : Tp) : ∀ L : List Tp, (insT t L).length = L.length + 1
  | [] => rfl
  | a :: r => by
    unfold insT
    split
    · rfl
    · rw [List.length_cons, insT_length t r, List.length_cons]
theorem lessN_trans {a b c : ByteArray} (h1 : lessN a b = true) (h2 : lessN b c = true) : lessN a c = true := by
  rw [lessN_eq] at h1 h2 ⊢
  exact decide_eq_true (List.lt_trans (of_decide_eq_true h1) (of_decide_eq_true h2))
theorem insT_asc (t : Tp) : ∀ L : List Tp, L.Pairwise (fun x y => lessN x.nm y.nm = true) → (∀ x ∈ L, x.nm ≠ t.nm) → (insT t L).Pairwise fun x y => lessN x.nm y.nm = true
  | [], _, _ => by simp [insT]
  | a :: r, h, hn => by
    rw [List.pairwise_cons] at h
    unfold insT
    split
    · rename_i hlt
      rw [List.pairwise_cons]
      refine ⟨fun x hx => ?_, List.pairwise_cons.2 h⟩
      rcases List.mem_cons.1 hx with rfl | hx
      · exact hlt
      · exact lessN_trans hlt (h.1 x hx)
    · rename_i hlt
      rw [List.pairwise_cons]
      refine ⟨fun x hx => ?_, insT_asc t r h.2 fun x hx => hn x (List.mem_cons_of_mem _ hx)⟩
      rcases (mem_insT t x r).1 hx with rfl | hx
      · cases hq : lessN a.nm x.nm with
        | true => rfl
        | false => exact absurd (lessN_tri hq (by simpa using hlt)) (hn a (List.mem_cons_self ..))
      · exact h.1 x hx
theorem CatL.ins {L : List Tp} (h : CatL L) (t : Tp) (ht : t.nm.size ≤ 50) (hn : ∀ x ∈ L, x.nm ≠ t.nm) : CatL (insT t L) :=
  ⟨insT_asc t L h.asc hn, fun x hx => by
    rcases (mem_insT t x L).1 hx with rfl | hx
    · exact ht
    · exact h.nm x hx⟩
theorem CatL.map_iff {L : List Tp} (h : CatL L) (a : Blk) (t : Tp) : mapL L a = some t ↔ t ∈ L ∧ a = keyB t.nm := by
  constructor
  · intro e; exact CatL.sub e
  · rintro ⟨h1, rfl⟩
    exact (h.find (h.nm t h1)).2 ⟨h1, rfl⟩
theorem CatL.map_ins {L : List Tp} (h : CatL L) (t : Tp) (ht : t.nm.size ≤ 50) (hn : ∀ x ∈ L, x.nm ≠ t.nm) (a : Blk) : mapL (insT t L) a = if a = keyB t.nm then some t else mapL L a := by
  apply Option.ext
  intro x
  rw [(h.ins t ht hn).map_iff, mem_insT]
  by_cases e : a = keyB t.nm
  · rw [if_pos e]
    constructor
    · rintro ⟨rfl | hx, e2⟩
      · rfl
      · exact absurd (keyB_inj _ _ ht (h.nm x hx) (e.symm.trans e2)).symm (hn x hx)
    · intro e2
      injection e2 with e2
      subst e2
      exact ⟨.inl rfl, e⟩
  · rw [if_neg e, h.map_iff]
    constructor
    · rintro ⟨rfl | hx, e2⟩
      · exact absurd e2 e
      · exact ⟨hx, e2⟩
    · rintro ⟨hx, e2⟩
      exact ⟨.inr hx, e2⟩
end
section
open Go.ChangeMaps Go.MapKept Go.RowKit
variable {w0 : Gnd} {w : World} {rs : List Res} {X : Sys} {F : FH} {A : Path → Option Nd} {ι : Path → Nat}
theorem c_clone (h : Fs w0 w F X A ι rs) {mb j : Nat} {L : List Tp} (hr : rs[j]? = some (catM mb L)) :
    Calls Tryz.prog 43 #[.map (some mb)] w fun e w' => ∃ mb', e = .returned (.map (some mb')) ∧ Fs w0 w' F X A ι (catM mb' L :: rs) := by
  have hmap : MapAt KeyK okK w mb L.length (tpV (mapL L)) := by
    obtain ⟨⟨k, l, ha, -⟩, -⟩ := h
    exact ha.mapAt (i := j + 2) hr
  obtain ⟨es, clock, hb, h2, h3, h4, h5⟩ := hmap
  refine (AnyW.maps_Clone Tryz.cloneT mb es clock w hb).mono ?_
  rintro e w' ⟨he, hw⟩
  refine ⟨w.heap.size, he, ?_⟩
  rw [hw]
  exact h.mkMap ((Frm.refl NoB w).alloc _) ⟨es, clock, block_alloc_new _ _, h2, h3, h4, h5⟩ (Nat.le_refl _)
set_option maxHeartbeats 1000000 in
set_option maxRecDepth 100000 in
theorem c_Create1 (h : Fs w0 w F X A ι rs) (ht : Tx F X) {cb mb i0 i1 i2 b1 b2 : Nat} {next : Int} (hr : rs[i0]? = some (catS cb F.fb next mb)) {C : List Nat} {id n P : Nat} (hm : MayFold X A ι C id n P) (nm : ByteArray) (p3 p4 p5 : Int) (p6 : Bool) (p7 : Int)
    (q1 : rs[i1]? = some (arr b1 #[.pointer (some ⟨cb, 0, none⟩)] 25 neCatp)) (q2 : rs[i2]? = some (arr b2 (tpz nm id P p3 p4 p5 p6 p7) 31 neTp))
    (h1 : 512 ≤ p3 ∧ p3 ≤ 8192) (h2 : -1 ≤ p4 ∧ p4 ≤ 1099511627776) (h3 : -1 ≤ p5 ∧ p5 ≤ 1125899906842624) (h4 : 0 ≤ p7 ∧ p7 ≤ 1125899906842624) :
    Calls Tryz.prog 45 #[.pointer (some ⟨b1, 0, none⟩), .pointer (some ⟨b2, 0, none⟩)] w fun e w' => e = .returned (.int .i64 0) ∧ ∃ X' A' ι' C' n', Fs w0 w' F X' A' ι' rs ∧ Fold X X' A ι A' ι' C C' id n n' P := by
  have HF := Lib.hid (c_folders h ht hr hm nm p3 p4 p5 p6 p7 h1 h2 h3 h4)
  have c1 : w.cell? ⟨b1, 0, none⟩ = some (.pointer (some ⟨cb, 0, none⟩)) := (h.arrCell q1 0).trans rfl
  have HB := Lib.hid (h.block q2)
  clear h ht hr hm q1 q2 h1 h2 h3 h4
  go_enter Tryz.func45, Tryz.ntmps45
  go_wp2_with (refine loadTp rfl _ rfl b2 rfl nm id P p3 p4 p5 p6 p7 HB.out ?_)
  refine HF.out.mono ?_
  clear HF HB c1
  rintro e w2 ⟨rfl, X', A', ι', C', n', h2, hf⟩
  have H2 := Lib.hid (And.intro h2 hf)
  clear h2 hf
  go_wp2
  go_ret
  exact ⟨rfl, X', A', ι', C', n', H2.out.1, H2.out.2⟩
end
section
open Go.ChangeMaps Go.MapKept Go.RowKit
def partNs (id P : Nat) : List ByteArray := (List.range P).map (partN id)
theorem mem_partNs {id P : Nat} {s : ByteArray} : s ∈ partNs id P ↔ ∃ q, q < P ∧ s = partN id q := by
  unfold partNs
  rw [List.mem_map]
  constructor
  · rintro ⟨q, h1, h2⟩; exact ⟨q, List.mem_range.1 h1, h2.symm⟩
  · rintro ⟨q, h1, h2⟩; exact ⟨q, List.mem_range.2 h1, h2.symm⟩
def OldD (next : Nat) (D : List ByteArray) : Prop := ∀ s ∈ D, ∃ id p, id < next ∧ p < 8 ∧ s = partN id p
theorem id_inj : ∀ id, id < 100 → ∀ id', id' < 100 → (Lib.decDigits id ++ [45] : List UInt8) = Lib.decDigits id' ++ [45] → id = id' := by decide +kernel
theorem digits_free : ∀ id, id < 100 → (45 : UInt8) ∉ Lib.decDigits id := by decide +kernel
theorem split_first {a b : List UInt8} {x : UInt8} (ha : x ∉ a) (hb : x ∉ b) : ∀ {r s : List UInt8}, a ++ x :: r = b ++ x :: s → a = b := by
  induction a generalizing b with
  | nil =>
    intro r s h
    cases b with
    | nil => rfl
    | cons y b =>
      rw [List.nil_append, List.cons_append, List.cons.injEq] at h
      exact absurd (by rw [h.1]; exact List.mem_cons_self ..) hb
  | cons y a ih =>
    intro r s h
    cases b with
    | nil =>
      rw [List.nil_append, List.cons_append, List.cons.injEq] at h
      exact absurd (by rw [← h.1]; exact List.mem_cons_self ..) ha
    | cons z b =>
      rw [List.cons_append, List.cons_append, List.cons.injEq] at h
      rw [h.1, ih (fun hx => ha (List.mem_cons_of_mem _ hx)) (fun hx => hb (List.mem_cons_of_mem _ hx)) h.2]
theorem partN_id {id id' p p' : Nat} (h1 : id < 100) (h2 : id' < 100) (h : partN id p = partN id' p') : id = id' := by
  unfold partN at h
  have h3 := congrArg (fun b : ByteArray => b.data.toList) h
  simp only [List.cons.injEq, true_and] at h3
  have h4 := split_first (digits_free id h1) (digits_free id' h2) h3
  exact id_inj id h1 id' h2 (by rw [h4])
theorem partN_ne_ls : ∀ id, id < 100 → ∀ p, p < 10 → partN id p ≠ lsN := by
  intro id hid p hp e
  have h1 := congrArg (fun b : ByteArray => b.data.toList[0]?) e
  simp [partN, lsN] at h1
structure MayCr (X : Sys) (A : Path → Option Nd) (next : Nat) (L : List Tp) (n : Nat) (D : List ByteArray) (P : Nat) : Prop where
  tree : CatT A (encC next L) n D
  cat : CatL L
  few : L.length < 20
  id : next < 100
  Pl : 1 ≤ P ∧ P ≤ 8
  old : OldD next D
  size : n + 64 * P ≤ 5120
  fi : 3 * P ≤ X.fi
  fb : P + (dat (n + 64 * P) - dat n) + (dat (8 + 107 * (L.length + 1)) - dat (8 + 107 * L.length)) ≤ X.fb
end
end Go.Proofs.YtlemndledcmhiaaGreatDoor
