/-
  Open: what it reads off the device.
-/
import Derived.Test.YtkanfpmmgaipnaaJrnN
import Derived.IntWalk
namespace Go.Proofs.Ytkanfpmmgaipnaa
set_option linter.unusedVariables false
open Go.ChangeMaps Go.MapKept Go.RowKit

/-- A change more in the map. -/
theorem St.chgPut {w0 w : World} {rs : List Res} (h : St w0 w rs) (i : Nat) {mb sl : Nat} {dt : List Blk} (hr : rs[i]? = some (chg mb sl dt)) (v : Value) (b : Blk) (hv : BytesAt w v b AnyB) (hl : dt.length < 1000000) (hs : sl < 1000000) (k : Nat) (hk : k = dt.length) :
    ∃ o, (Instr.mapUpdate 136 (.map (some mb)) (.agg #[.int .i64 sl, .int .i64 k]) v).run Try.prog w = .ok () (setBlock w mb o) ∧ St w0 (setBlock w mb o) (rs.set i (chg mb sl (dt ++ [b]))) := by
  subst hk
  obtain ⟨n, f, hm, hf⟩ := h.get hr
  obtain ⟨o, q1, q2⟩ := hm.update kindPlace Try.underlying136 (a := ((sl : Int), (dt.length : Int))) ⟨okI_small _ hs, okI_small _ hl⟩ v
  have hno : ∀ (u : Value) (x : Blk), BytesAt w u x AnyB → BytesAt (setBlock w mb o) u x AnyB := fun u x hu => hu.of_block fun y c _ hc => block_setBlock_other _ rfl fun e => by
    subst e
    obtain ⟨es, cl, h1, _⟩ := hm
    rw [h1] at hc; cases hc
  refine ⟨o, q1 w rfl, h.write i hr ((Frm.refl (Only mb) w).setBlock (.inl rfl) o) (chg mb sl (dt ++ [b])) ⟨_, _, q2 w hm.lt, fun j x hx => ?_⟩ (fun _ hx => .inl hx)⟩
  rcases Nat.lt_trichotomy j dt.length with hj | hj | hj
  · rw [List.getElem?_append_left hj] at hx
    obtain ⟨u, h1, h2⟩ := hf j x hx
    refine ⟨u, ?_, hno u x h2⟩
    unfold upd
    rw [if_neg (by intro e; injection e with _ e; omega)]
    exact h1
  · subst hj
    rw [List.getElem?_append_right (Nat.le_refl _), Nat.sub_self] at hx
    simp at hx; subst hx
    exact ⟨v, by unfold upd; rw [if_pos rfl], hno v b hv⟩
  · rw [List.getElem?_eq_none (by simp; omega)] at hx; cases hx

def hdrM (g : Nat) (b : Blk) : Nat := if hdrOk g b then hdrN b else 0
def hdrO (g : Nat) (b : Blk) : List Nat := if hdrOk g b then hdrL b else []

theorem pick_step (g : Nat) (C : Nat → Blk) (i : Nat) : pickTo g C (i + 1) = if (pickTo g C i).1 < hdrM g (C (slotB i)) then (hdrM g (C (slotB i)), hdrO g (C (slotB i))) else pickTo g C i := by
  conv => lhs; unfold pickTo
  unfold hdrM hdrO
  by_cases h : hdrOk g (C (slotB i)) = true
  · simp only [h, if_true, true_and]
  · rw [if_neg (fun x => h x.1), if_neg h, if_neg (by omega)]

/-- What Open has found, and what it answers. -/
def OpenRet (w0 : World) (rs : List Res) (a : Nat) (H : Hdl) (D : DSt) (g last : Nat) (o : List Nat) (dt : List Blk) (e : Ending) (w' : World) : Prop :=
  (endD (openOps o dt) D = 0 ∧ ∃ jh : JHdl, e = .returned (.tuple #[.pointer (some ⟨jh.jb, 0, none⟩), .int .i64 0]) ∧ St w0 w' (jrn H jh ⟨g, last, false, [], []⟩ :: rs.set a (dev H (runD (openOps o dt) D)))) ∨
  (endD (openOps o dt) D = 9 ∧ e = .returned (.tuple #[.pointer none, .int .i64 9]) ∧ St w0 w' (rs.set a (dev H (runD (openOps o dt) D))))

theorem St.chgTurn {w0 w : World} {rs : List Res} (h : St w0 w rs) (i : Nat) {mb sl : Nat} (hr : rs[i]? = some (chg mb sl [])) (sl' : Nat) : St w0 w (rs.set i (chg mb sl' [])) := by
  obtain ⟨n, f, hm, _⟩ := h.get hr
  exact h.write i hr (Frm.refl _ _) (chg mb sl' []) ⟨n, f, hm, fun j b hj => by simp at hj⟩ (fun _ hx => .inl hx)

theorem mapMade (W : World) : (Instr.makeMap 136 none).run Try.prog W = .ok (.map (some W.heap.size)) (W.alloc (.map #[] 0)) := rfl

theorem entSettle : EntersF Try.prog 92 := entersF_of Try.func92 (by kernel_rfl) rfl

theorem JDisk.dt512 {n g last : Nat} {C : Nat → Blk} {o : List Nat} {dt : List Blk} (h : JDisk n g C last o dt) (hC : ∀ k, (C k).length = 512) : ∀ b ∈ dt, b.length = 512 := fun b hb => by
  rcases h.chosen with ⟨_, _, h3⟩ | ⟨_, _, _, _, h5⟩
  · rw [h3] at hb; cases hb
  · rw [h5] at hb
    unfold slotD at hb
    obtain ⟨i, _, rfl⟩ := List.mem_map.1 hb
    exact hC _

set_option maxRecDepth 100000 in
theorem S_Open {w0 w : World} {rs : List Res} (h : St w0 w rs) (a : Nat) {H : Hdl} {D : DSt} (hr : rs[a]? = some (dev H D)) {g last : Nat} {o : List Nat} {dt : List Blk} (hd : JDisk D.n g D.last last o dt) (hn : 246 ≤ D.n) (hla : last < 18446744073709551616) (hg : g < 18446744073709551616) (ho : D.ops < 1000000000) :
    Calls Try.prog 49 #[.pointer (some ⟨H.b, 0, none⟩)] w (OpenRet w0 rs a H D g last o dt) := by
  have HB := Lib.hid (S_Blocks h a hr)
  have HF := Lib.hid (S_first h a hr (by omega) (by omega))
  rw [hd.gen, hd.magic] at HF
  have hn' : ¬ (D.n : Int) < 246 := by omega
  have HR := Lib.hid hr
  have HDI := Lib.hid hd
  have HLA := Lib.hid hla
  have HGG := Lib.hid hg
  have HO := Lib.hid ho
  have HN := Lib.hid hn
  have H512 := Lib.hid (hd.dt512 (fun k => DSt.last_length (h.get hr).wf k))
  clear h hr hd hla hg ho hn
  go_enter Try.func49, Try.ntmps49
  go_wp2_with fail
  refine HB.out.mono ?_
  rintro e w2 ⟨rfl, rfl⟩
  go_wp2_with fail
  refine HF.out.mono ?_
  rintro e w3 ⟨rfl, h3⟩
  have H3 := Lib.hid h3
  clear h3 HB HF
  have hmk := mapMade w3
  have H4 : Hid (St w0 ((w3.alloc (.map #[] 0)).alloc (.cells #[.pointer (some ⟨H.b, 0, none⟩), .int .u64 g, .int .u64 0, .bool false, .slice none 0 0, .map (some w3.heap.size)] 138 (0, 0)))
      (arr (w3.heap.size + 1) #[.pointer (some ⟨H.b, 0, none⟩), .int .u64 g, .int .u64 0, .bool false, .slice none 0 0, .map (some w3.heap.size)] 138 neJrn :: rowI (.slice none 0 0) [] :: chg w3.heap.size 0 [] :: rs)) := Lib.hid (by
    have h1 := (H3.out.chgNew 0).rowNil 3 neI8 1
    have h2 := h1.newArr #[.pointer (some ⟨H.b, 0, none⟩), .int .u64 g, .int .u64 0, .bool false, .slice none 0 0, .map (some w3.heap.size)] 138 neJrn
    rw [size_alloc] at h2
    exact h2)
  clear H3
  go_wp2_with fail
  clear hmk
  generalize w3.heap.size = mb at *
  generalize mb + 1 = jb at *
  go_loopw [7, 8, 9, 28] (fun _ _ _ t wr => ∃ (k : Nat) (ov : Value), k ≤ 4 ∧ t = .int .i64 k ∧ St w0 wr (arr jb #[.pointer (some ⟨H.b, 0, none⟩), .int .u64 g, .int .u64 ((pickTo g D.last k).1 : Nat), .bool false, ov, .map (some mb)] 138 neJrn :: rowI ov (pickTo g D.last k).2 :: chg mb 0 [] :: rs)) (fun _ _ _ t _ => 4 - (intOf t).toNat)
  case atStart => exact ⟨0, _, Nat.zero_le _, rfl, H4.out⟩
  case round =>
    clear H4
    obtain ⟨k, ov, hk, rfl, hst⟩ := hrel
    have HST := Lib.hid hst
    clear hst
    by_cases hlt : k < 4
    · have hk0 : (0 : Int) ≤ (k : Int) := Int.natCast_nonneg _
      have hk1 : (k : Int) < 4 := by omega
      have HP := Lib.hid (pick_step g D.last k)
      have HH : Hid (Calls Try.prog 88 #[.pointer (some ⟨jb, 0, none⟩), .int .i64 k] wr (HdrRet w0 (arr jb #[.pointer (some ⟨H.b, 0, none⟩), .int .u64 g, .int .u64 ((pickTo g D.last k).1 : Nat), .bool false, ov, .map (some mb)] 138 neJrn :: rowI ov (pickTo g D.last k).2 :: chg mb 0 [] :: rs) g (D.last (slotB k)))) :=
        Lib.hid (S_header HST.out (a + 3) 0 HR.out rfl rfl rfl k hlt HN.out (by have := HO.out; omega) _ rfl (fun hx => (HDI.out.slots k hlt hx).1))
      obtain ⟨n0, hn0⟩ : ∃ n, (pickTo g D.last k).1 = n := ⟨_, rfl⟩
      obtain ⟨l0, hl0⟩ : ∃ l, (pickTo g D.last k).2 = l := ⟨_, rfl⟩
      obtain ⟨n1, hn1⟩ : ∃ n, hdrM g (D.last (slotB k)) = n := ⟨_, rfl⟩
      obtain ⟨l1, hl1⟩ : ∃ l, hdrO g (D.last (slotB k)) = l := ⟨_, rfl⟩
      have HH : Hid (Calls Try.prog 88 #[.pointer (some ⟨jb, 0, none⟩), .int .i64 k] wr fun e w' => ∃ v, e = .returned (.tuple #[.int .u64 n1, v]) ∧ St w0 w' (rowI v l1 :: arr jb #[.pointer (some ⟨H.b, 0, none⟩), .int .u64 g, .int .u64 n0, .bool false, ov, .map (some mb)] 138 neJrn :: rowI ov l0 :: chg mb 0 [] :: rs)) := Lib.hid (HH.out.mono fun e w' hx => by
        obtain ⟨v, h1, h2⟩ := hx
        rw [hn0, hl0] at h2
        refine ⟨v, ?_, ?_⟩
        · rw [h1, ← hn1]; rfl
        · rw [← hl1]; exact h2)
      rw [hn1, hl1, hn0] at HP
      have HPE : Hid (pickTo g D.last k = (n0, l0)) := Lib.hid (by rw [← hn0, ← hl0])
      rw [HPE.out] at HP
      clear hn0 hl0 hn1 hl1 HST
      go_wp2_with fail
      refine HH.out.mono ?_
      clear HH
      rintro e w4 ⟨v, rfl, h4⟩
      have H4 := Lib.hid h4
      have c2 : w4.cell? ⟨jb, 2, none⟩ = some (.int .u64 n0) := (h4.arrCell (i := 1) rfl 2).trans rfl
      clear h4
      obtain ⟨va, vc, rfl⟩ := H4.out.rowILen (i := 0) rfl
      by_cases hgt : n0 < n1
      · have hgt2 : (n0 : Int) < (n1 : Int) := by omega
        have fz : w4.frozen? ⟨jb, 2, none⟩ = false := H4.out.arrFree (i := 1) rfl 2
        have c4 : w4.cell? ⟨jb, 4, none⟩ = some ov := (H4.out.arrCell (i := 1) rfl 4).trans rfl
        have fz4 : w4.frozen? ⟨jb, 4, none⟩ = false := H4.out.arrFree (i := 1) rfl 4
        have h5 := (H4.out.setArr 1 rfl 2 (.int .u64 n1)).setArr 1 rfl 4 (.slice va l1.length vc)
        have h6 : St w0 _ (arr jb #[.pointer (some ⟨H.b, 0, none⟩), .int .u64 g, .int .u64 n1, .bool false, .slice va l1.length vc, .map (some mb)] 138 neJrn :: rowI (.slice va l1.length vc) l1 :: chg mb 0 [] :: rs) := h5.swap.drop3rd
        have H6 : Hid (St w0 _ (arr jb #[.pointer (some ⟨H.b, 0, none⟩), .int .u64 g, .int .u64 ((pickTo g D.last (k + 1)).1 : Nat), .bool false, .slice va l1.length vc, .map (some mb)] 138 neJrn :: rowI (.slice va l1.length vc) (pickTo g D.last (k + 1)).2 :: chg mb 0 [] :: rs)) := Lib.hid (by
          rw [HP.out, if_pos hgt]
          exact h6)
        clear h5 h6 hgt
        go_wp2
        first | exact ⟨⟨k + 1, _, hlt, by go_num, H6.out⟩, by simp [intOf]; omega⟩ | (go_roundw; case rel => first | exact ⟨k + 1, _, hlt, by go_num, H6.out⟩ | ((repeat apply Exists.intro); exact ⟨⟨k + 1, _, hlt, by go_num, H6.out⟩, rfl⟩); case measure => simp [intOf]; omega)
      · have hgt2 : ¬ (n0 : Int) < (n1 : Int) := by omega
        have H6 : Hid (St w0 w4 (arr jb #[.pointer (some ⟨H.b, 0, none⟩), .int .u64 g, .int .u64 ((pickTo g D.last (k + 1)).1 : Nat), .bool false, ov, .map (some mb)] 138 neJrn :: rowI ov (pickTo g D.last (k + 1)).2 :: chg mb 0 [] :: rs)) := Lib.hid (by
          rw [HP.out, if_neg hgt]
          exact H4.out.drop 1)
        clear hgt
        go_wp2
        first | exact ⟨⟨k + 1, _, hlt, by go_num, H6.out⟩, by simp [intOf]; omega⟩ | (go_roundw; case rel => first | exact ⟨k + 1, _, hlt, by go_num, H6.out⟩ | ((repeat apply Exists.intro); exact ⟨⟨k + 1, _, hlt, by go_num, H6.out⟩, rfl⟩); case measure => simp [intOf]; omega)
    · have hk1 : ¬ (k : Int) < 4 := by omega
      obtain rfl : k = 4 := by omega
      have HP := Lib.hid HDI.out.pick
      have H5 := HST.out
      rw [HP.out] at H5
      clear hk HST HP
      obtain ⟨oa, ocap, rfl⟩ := H5.rowILen (i := 1) rfl
      have H5 := Lib.hid H5
      have c4 : wr.cell? ⟨jb, 4, none⟩ = some (.slice oa o.length ocap) := (H5.out.arrCell (i := 0) rfl 4).trans rfl
      go_wp2_with fail
      have H5 : Hid (St w0 wr (arr jb #[.pointer (some ⟨H.b, 0, none⟩), .int .u64 g, .int .u64 last, .bool false, .slice oa o.length ocap, .map (some mb)] 138 neJrn :: rowI (.slice oa o.length ocap) o :: chg mb (last % 4) [] :: rs)) := Lib.hid (H5.out.chgTurn 2 rfl (last % 4))
      have HSL : Hid (∀ W, Calls Try.prog 89 #[.int .u64 last] W fun e w' => e = .returned (.int .i64 ((last % 4 : Nat) : Int)) ∧ w' = W) := Lib.hid fun W => slot_is W last (last % 4) HLA.out rfl
      obtain ⟨sl, hsl⟩ : ∃ sl, last % 4 = sl := ⟨_, rfl⟩
      have hsl4 : sl < 4 := by omega
      have hsl5 : (0 : Int) ≤ (sl : Int) := Int.natCast_nonneg _
      have hsl6 : (sl : Int) ≤ 3 := by omega
      rw [hsl] at H5 HSL
      have HSS := Lib.hid hsl
      clear hsl
      go_loopw [10, 11, 57] (fun _ _ t wr => ∃ k : Nat, k ≤ o.length ∧ t = .int .i64 k ∧ St w0 wr (arr jb #[.pointer (some ⟨H.b, 0, none⟩), .int .u64 g, .int .u64 last, .bool false, .slice oa o.length ocap, .map (some mb)] 138 neJrn :: rowI (.slice oa o.length ocap) o :: chg mb sl (dt.take k) :: rs)) (fun _ _ t _ => o.length - (intOf t).toNat)
      case atStart => exact ⟨0, Nat.zero_le _, rfl, H5.out⟩
      case round =>
        clear H5 c4
        obtain ⟨k, hk, rfl, hst⟩ := hrel
        have HST := Lib.hid hst
        by_cases hlt : k < o.length
        · have hk0 : (0 : Int) ≤ (k : Int) := Int.natCast_nonneg _
          have hk1 : (k : Int) < (o.length : Int) := by omega
          have c2 : wr.cell? ⟨jb, 2, none⟩ = some (.int .u64 last) := (hst.arrCell (i := 0) rfl 2).trans rfl
          clear hst
          go_wp2_with fail
          refine (HSL.out _).mono ?_
          rintro e w4 ⟨rfl, rfl⟩
          have H6 := Lib.hid (HST.out.newArr #[.int .i64 sl, .int .i64 k] 143 (by decide))
          go_wp2_with fail
          obtain ⟨w5, hw5⟩ : ∃ w5, w5 = w4.alloc (.cells #[.int .i64 sl, .int .i64 k] 143 (0, 0)) := ⟨_, rfl⟩
          rw [← hw5] at H6 ⊢
          clear hw5 c2 HST
          generalize w4.heap.size = pb at *
          obtain ⟨b, hb⟩ : ∃ b, dt[k]? = some b := ⟨_, List.getElem?_eq_getElem (by rw [HDI.out.len]; exact hlt)⟩
          have hbD : D.last (slotB sl + 1 + k) = b := by
            have := HDI.out.chosen
            rcases this with ⟨_, h1, _⟩ | ⟨_, _, _, _, h5⟩
            · rw [h1] at hlt; simp at hlt
            · rw [HSS.out] at h5
              rw [h5, slotD_get _ _ _ _ hlt] at hb
              exact Option.some.inj hb
          have HBD : Hid (D.last (1 + (sl : Int) * 61 + ((k : Int) + 1)).toNat = b) := Lib.hid (by
            rw [show (1 + (sl : Int) * 61 + ((k : Int) + 1)).toNat = slotB sl + 1 + k from by unfold slotB; omega]; exact hbD)
          have hfew := HDI.out.few
          have HTK : Hid (dt.take (k + 1) = dt.take k ++ [b]) := Lib.hid (by
            obtain ⟨h1, h2⟩ := List.getElem?_eq_some_iff.1 hb
            rw [List.take_succ_eq_append_getElem h1, h2])
          have HKL : Hid (k = (dt.take k).length) := Lib.hid (by rw [List.length_take, HDI.out.len]; omega)
          have KA : Hid (∀ y, Frm NoB w5 y → y.cell? ⟨jb, 5, none⟩ = some (.map (some mb)) ∧ y.cell? ⟨pb, 0, none⟩ = some (.int .i64 sl) ∧ y.cell? ⟨pb, 1, none⟩ = some (.int .i64 k)) := Lib.hid fun y hy =>
            ⟨((H6.out.frm0 hy).arrCell (i := 1) rfl 5).trans rfl, ((H6.out.frm0 hy).arrCell (i := 0) rfl 0).trans rfl, ((H6.out.frm0 hy).arrCell (i := 0) rfl 1).trans rfl⟩
          have KB : Hid (∀ y u1 u2, St w0 y (u1 :: arr pb #[.int .i64 sl, .int .i64 k] 143 (by decide) :: arr jb #[.pointer (some ⟨H.b, 0, none⟩), .int .u64 g, .int .u64 last, .bool false, .slice oa o.length ocap, .map (some mb)] 138 neJrn :: u2) → y.cell? ⟨jb, 5, none⟩ = some (.map (some mb)) ∧ y.cell? ⟨pb, 0, none⟩ = some (.int .i64 sl) ∧ y.cell? ⟨pb, 1, none⟩ = some (.int .i64 k)) := Lib.hid fun y u1 u2 hy =>
            ⟨(hy.arrCell (i := 2) rfl 5).trans rfl, (hy.arrCell (i := 1) rfl 0).trans rfl, (hy.arrCell (i := 1) rfl 1).trans rfl⟩
          have c1 := (KA.out w5 (Frm.refl _ _)).1
          have c2 := (KA.out w5 (Frm.refl _ _)).2.1
          have c3 := (KA.out w5 (Frm.refl _ _)).2.2
          obtain ⟨j, hj⟩ : ∃ j : Int, (k : Int) + 1 = j := ⟨_, rfl⟩
          rw [hj] at HBD
          have b1 : 0 ≤ j := by omega
          have b2 : j ≤ 1000 := by omega
          have b3 : (sl : Int) ≤ 1000 := by omega
          have b4 : 0 ≤ 1 + (sl : Int) * 61 + j := by omega
          have b5 : 1 + (sl : Int) * 61 + j < (D.n : Int) := by have := HN.out; omega
          have b6 : D.ops < 4611686018427387904 := by have := HO.out; omega
          have b7 : (dt.take k).length < 1000000 := by have := HKL.out; omega
          have b8 : sl < 1000000 := by omega
          have hwr : IntKind.i64.wrap ((k : Int) + 1) = j := by rw [IntWalk.i64_in _ (by omega)]; exact hj
          have HB6 := Lib.hid b6
          clear hb hbD hj b6
          go_region_held3 (fun y => y.cell? ⟨jb, 5, none⟩ = some (.map (some mb)) ∧ y.cell? ⟨pb, 0, none⟩ = some (.int .i64 sl) ∧ y.cell? ⟨pb, 1, none⟩ = some (.int .i64 k))
            (first | exact hS8 | (refine KA.out _ ?_; first | assumption | exact (Frm.refl NoB w5).drew | exact ⟨rfl, rfl, rfl, Nat.le_refl _, fun _ _ _ => rfl⟩) | exact hS7)
            (first
              | (go_at_call 90; refine (at_any w5.drew (sl : Int) j hsl5 b3 b1 b2).mono ?_; rintro e w6 ⟨hf6, rfl⟩; have hf6' : Frm NoB w5 w6 := ((Frm.refl NoB w5).drew).trans hf6 (fun _ _ e => e))
              | (go_at_call 35; refine (S_Read (H6.out.frm0 hf6') (a + 4) HR.out (1 + (sl : Int) * 61 + j) b4 b5 HB6.out).mono ?_; rintro e w7 ⟨v7, rfl, h7⟩; have hS7 := KB.out _ _ _ h7; obtain ⟨o7, q7, h8⟩ := h7.chgPut 4 rfl v7 _ (h7.get (i := 0) rfl) b7 b8 k HKL.out; have hS8 := KB.out _ _ _ h8))
          all_goals
           rw [HBD.out, ← HTK.out] at h8
           have H8 := Lib.hid ((h8.drop 2))
           clear h8 h7 hS7 hS8 q7 hwr
           go_wp2
           first | exact ⟨⟨k + 1, hlt, by go_num, H8.out⟩, by simp [intOf]; omega⟩ | (go_roundw; case rel => first | exact ⟨k + 1, hlt, by go_num, H8.out⟩ | ((repeat apply Exists.intro); exact ⟨⟨k + 1, hlt, by go_num, H8.out⟩, rfl⟩); case measure => simp [intOf]; omega)
        · have hk1 : ¬ (k : Int) < (o.length : Int) := by omega
          have H9 := hst
          rw [show dt.take k = dt from List.take_of_length_le (by rw [HDI.out.len]; omega)] at H9
          have HT := Lib.hid (H9.newArr #[.func (.func 92) #[.pointer (some ⟨jb, 0, none⟩)] #[], .func (.func 33) #[.pointer (some ⟨H.b, 0, none⟩)] #[]] 33 neFn)
          have hmf : ∀ (fn : Fn) (first cap : Array Value) (W : World), (Instr.makeFunc fn first cap).run Try.prog W = .ok (.func fn first cap) W := fun _ _ _ _ => rfl
          clear hst HST H9
          go_wp2_with fail
          clear hmf
          generalize wr.heap.size = fb at *
          obtain ⟨w5, hw5⟩ : ∃ w5, w5 = wr.alloc (.cells #[.func (.func 92) #[.pointer (some ⟨jb, 0, none⟩)] #[], .func (.func 33) #[.pointer (some ⟨H.b, 0, none⟩)] #[]] 33 (0, 0)) := ⟨_, rfl⟩
          rw [← hw5] at HT ⊢
          clear hw5
          have HTR : Hid (Calls Try.prog 91 #[.slice (some ⟨fb, 0, none⟩) 2 2] w5 fun e w' => (e = .returned (.int .i64 0) ∧ endD (openOps o dt) D = 0 ∧ St w0 w' (arr fb #[.func (.func 92) #[.pointer (some ⟨jb, 0, none⟩)] #[], .func (.func 33) #[.pointer (some ⟨H.b, 0, none⟩)] #[]] 33 neFn :: arr jb #[.pointer (some ⟨H.b, 0, none⟩), .int .u64 g, .int .u64 last, .bool false, .slice oa o.length ocap, .map (some mb)] 138 neJrn :: rowI (.slice oa o.length ocap) o :: chg mb sl dt :: rs.set a (dev H (runD (openOps o dt) D)))) ∨
              (e = .returned (.int .i64 9) ∧ endD (openOps o dt) D = 9 ∧ St w0 w' (rs.set a (dev H (runD (openOps o dt) D))))) := Lib.hid (by
            have hset : ∀ X Y : Res, (rs.set a X).set a Y = rs.set a Y := fun X Y => List.set_set ..
            have hdev : ∀ X : Res, (rs.set a X)[a]? = some X := fun X => List.getElem?_set_self (List.getElem?_eq_some_iff.1 HR.out).1
            refine (tries_any w5 fb 0 2 2 (fun i W => endD ([[], settleOps o dt, openOps o dt].getD i []) D = 0 ∧ St w0 W (arr fb #[.func (.func 92) #[.pointer (some ⟨jb, 0, none⟩)] #[], .func (.func 33) #[.pointer (some ⟨H.b, 0, none⟩)] #[]] 33 neFn :: arr jb #[.pointer (some ⟨H.b, 0, none⟩), .int .u64 g, .int .u64 last, .bool false, .slice oa o.length ocap, .map (some mb)] 138 neJrn :: rowI (.slice oa o.length ocap) o :: chg mb sl dt :: rs.set a (dev H (runD ([[], settleOps o dt, openOps o dt].getD i []) D))))
              (fun x W => x = 9 ∧ endD (openOps o dt) D = 9 ∧ St w0 W (rs.set a (dev H (runD (openOps o dt) D)))) (fun i => [92, 33].getD i 0) (fun i => [#[.pointer (some ⟨jb, 0, none⟩)], #[.pointer (some ⟨H.b, 0, none⟩)]].getD i #[]) (fun i => #[]) ?_ ?_ ?_ (by omega) ?_).mono ?_
            · refine ⟨rfl, ?_⟩
              have e : rs.set a (dev H D) = rs := by
                obtain ⟨h1, h2⟩ := List.getElem?_eq_some_iff.1 HR.out
                rw [← h2]; exact List.set_getElem_self h1
              show St w0 w5 (_ :: _ :: _ :: _ :: rs.set a (dev H D))
              rw [e]; exact HT.out
            · intro i W hi hW
              rcases (by omega : i = 0 ∨ i = 1) with rfl | rfl
              · exact (hW.2.arrCell (i := 0) rfl 0).trans rfl
              · exact (hW.2.arrCell (i := 0) rfl 1).trans rfl
            · intro i hi
              rcases (by omega : i = 0 ∨ i = 1) with rfl | rfl
              · exact entSettle
              · exact entFlush
            · intro i W hi hW
              rcases (by omega : i = 0 ∨ i = 1) with rfl | rfl
              · have hs := S_settle (D := D) hW.2 (a + 4) 1 2 3 (hdev _) rfl rfl rfl rfl rfl rfl rfl HSS.out HLA.out HDI.out.len HDI.out.few (fun k hk => (HDI.out.homes k hk).2) H512.out HO.out (by omega) (by omega) (by omega)
                refine hs.mono fun e w' hr => ⟨_, hr.1, fun h0 => ⟨h0, ?_⟩, fun h0 => ?_⟩
                · have := hr.2
                  simp only [List.set_cons_succ] at this
                  rw [hset] at this
                  exact this
                · have h9 : endD (settleOps o dt) D = 9 := (endD_cases _ _).resolve_left h0
                  obtain ⟨e1, e2⟩ := runD_stop (settleOps o dt) [.fl] D h9
                  have := hr.2.drop 4
                  simp only [List.set_cons_succ, List.drop_succ_cons, List.drop_zero] at this
                  rw [hset, ← e1] at this
                  exact ⟨h9, e2, this⟩
              · have h0 : endD (settleOps o dt) D = 0 := hW.1
                obtain ⟨e1, e2⟩ := runD_append (settleOps o dt) [.fl] D h0
                have hs := S_FlushOp (D := runD (settleOps o dt) D) hW.2 (a + 4) (hdev _) (by
                  have h1 := runD_ops (settleOps o dt) D
                  rw [settleOps_length _ _ HDI.out.len] at h1
                  have := HO.out; have := HDI.out.few; omega)
                refine hs.mono fun e w' hr => ⟨_, hr.1, fun h1 => ⟨e2.trans h1, ?_⟩, fun h1 => ?_⟩
                · have := hr.2
                  simp only [List.set_cons_succ] at this
                  rw [hset, ← e1] at this
                  exact this
                · have h9 := (endD_cases [.fl] (runD (settleOps o dt) D)).resolve_left h1
                  have := hr.2.drop 4
                  simp only [List.set_cons_succ, List.drop_succ_cons, List.drop_zero] at this
                  rw [hset, ← e1] at this
                  exact ⟨h9, e2.trans h9, this⟩
            · rintro e w6 (⟨h1, h2, h3⟩ | ⟨x, hx, h1, h2, h3, h4⟩)
              · exact .inl ⟨h1, h2, h3⟩
              · exact .inr ⟨by rw [h1, h2], h3, h4⟩)
          clear HT
          refine HTR.out.mono ?_
          clear HTR
          rintro e w6 (⟨rfl, h1, h2⟩ | ⟨rfl, h1, h2⟩)
          · have HE := Lib.hid h1
            have H6 := Lib.hid (h2.drop 1)
            have hmk := mapMade w6
            have f4 : w6.frozen? ⟨jb, 4, none⟩ = false := H6.out.arrFree (i := 0) rfl 4
            have f5 : w6.frozen? ⟨jb, 5, none⟩ = false := H6.out.arrFree (i := 0) rfl 5
            have c4 : w6.cell? ⟨jb, 4, none⟩ = some (.slice oa o.length ocap) := (H6.out.arrCell (i := 0) rfl 4).trans rfl
            have c5 : w6.cell? ⟨jb, 5, none⟩ = some (.map (some mb)) := (H6.out.arrCell (i := 0) rfl 5).trans rfl
            have hjl : jb < w6.heap.size := lt_of_block (H6.out.get (i := 0) rfl)
            clear h1 h2
            go_wp2
            go_ret2
            refine .inl ⟨HE.out, ⟨jb, .slice none 0 0, w6.heap.size⟩, rfl, St.jShut ?_⟩
            have h7 := ((H6.out.setArr 0 rfl 4 (.slice none 0 0)).setArr 0 rfl 5 (.map (some w6.heap.size))).chgNew (last % 4)
            have h8 := h7.rowNil 3 neI8 1
            rw [World.size_setCell, World.size_setCell] at h8
            have h9 := h8.sub ((((List.drop_sublist 2 _).cons_cons _).cons_cons _).cons_cons _)
            exact h9.perm ((List.Perm.cons _ (List.Perm.swap _ _ _)).trans (List.Perm.swap _ _ _))
          · have HE := Lib.hid h1
            have H6 := Lib.hid h2
            clear h1 h2
            go_wp2
            go_ret2
            exact .inr ⟨HE.out, rfl, H6.out⟩
end Go.Proofs.Ytkanfpmmgaipnaa
