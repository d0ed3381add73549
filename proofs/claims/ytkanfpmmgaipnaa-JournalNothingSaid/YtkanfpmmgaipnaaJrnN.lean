/-
  Objects that are joined; the journal in memory as one object; its Read.
-/
import Derived.Test.YtkanfpmmgaipnaaJrnM
namespace Go.Proofs.Ytkanfpmmgaipnaa
set_option linter.unusedVariables false
open Go.ChangeMaps Go.MapKept Go.RowKit

/-- Two objects as one. -/
def Res.and (r s : Res) : Res where
  M := fun x => r.M x ∨ s.M x
  inv := fun w => r.inv w ∧ s.inv w ∧ ∀ x, r.M x → ¬ s.M x
  lt := fun w H x hx => hx.elim (r.lt w H.1 x) (s.lt w H.2.1 x)
  dry := fun w H x hx => hx.elim (r.dry w H.1 x) (s.dry w H.2.1 x)
  keep := fun w w' N H hf hd ha => ⟨r.keep w w' N H.1 hf hd (fun x hx => ha x (.inl hx)), s.keep w w' N H.2.1 hf hd (fun x hx => ha x (.inr hx)), H.2.2⟩

theorem St.join {w0 w : World} {r s : Res} {rs : List Res} (h : St w0 w (r :: s :: rs)) : St w0 w (r.and s :: rs) := by
  obtain ⟨h1, h2⟩ := List.pairwise_cons.1 h.apart
  obtain ⟨h3, h4⟩ := List.pairwise_cons.1 h2
  refine ⟨h.base, fun a ha => ?_, fun a ha x hx => ?_, List.pairwise_cons.2 ⟨fun b hb x hx => ?_, h4⟩⟩
  · rcases List.mem_cons.1 ha with rfl | ha
    · exact ⟨h.inv r (by simp), h.inv s (by simp), h1 s (by simp)⟩
    · exact h.inv a (by simp [ha])
  · rcases List.mem_cons.1 ha with rfl | ha
    · rcases hx with hx | hx
      · exact h.new r (by simp) x hx
      · exact h.new s (by simp) x hx
    · exact h.new a (by simp [ha]) x hx
  · rcases hx with hx | hx
    · exact h1 b (by simp [hb]) x hx
    · exact h3 b hb x hx

theorem St.part {w0 w : World} {r s : Res} {rs : List Res} (h : St w0 w (r.and s :: rs)) : St w0 w (r :: s :: rs) := by
  obtain ⟨h1, h2⟩ := List.pairwise_cons.1 h.apart
  obtain ⟨i1, i2, i3⟩ := h.inv (r.and s) (by simp)
  refine ⟨h.base, fun a ha => ?_, fun a ha x hx => ?_, List.pairwise_cons.2 ⟨fun b hb x hx => ?_, List.pairwise_cons.2 ⟨fun b hb x hx => h1 b hb x (.inr hx), h2⟩⟩⟩
  · rcases List.mem_cons.1 ha with rfl | ha
    · exact i1
    · rcases List.mem_cons.1 ha with rfl | ha
      · exact i2
      · exact h.inv a (by simp [ha])
  · rcases List.mem_cons.1 ha with rfl | ha
    · exact h.new (a.and s) (by simp) x (.inl hx)
    · rcases List.mem_cons.1 ha with rfl | ha
      · exact h.new (r.and a) (by simp) x (.inr hx)
      · exact h.new a (by simp [ha]) x hx
  · rcases List.mem_cons.1 hb with rfl | hb
    · exact i3 x hx
    · exact h1 b hb x (.inl hx)

/-- No object. -/
def voidR : Res where
  M := NoB
  inv := fun _ => True
  lt := fun _ _ _ h => h.elim
  dry := fun _ _ _ h => h.elim
  keep := fun _ _ _ _ _ _ _ => trivial

theorem St.hole {w0 w : World} {rs : List Res} (h : St w0 w rs) (i : Nat) {r : Res} (hr : rs[i]? = some r) : St w0 w (r :: rs.set i voidR) := by
  obtain ⟨hi, e⟩ := List.getElem?_eq_some_iff.1 hr
  have hp := List.pairwise_iff_getElem.1 h.apart
  refine ⟨h.base, fun a ha => ?_, fun a ha x hx => ?_, List.pairwise_cons.2 ⟨fun b hb x hx hbx => ?_, List.pairwise_iff_getElem.2 fun j k hj hk hjk x hx hkx => ?_⟩⟩
  · rcases List.mem_cons.1 ha with rfl | ha
    · exact h.get hr
    · rcases List.mem_or_eq_of_mem_set ha with ha | rfl
      · exact h.inv a ha
      · trivial
  · rcases List.mem_cons.1 ha with rfl | ha
    · exact h.new a (List.mem_of_getElem? hr) x hx
    · rcases List.mem_or_eq_of_mem_set ha with ha | rfl
      · exact h.new a ha x hx
      · exact hx.elim
  · obtain ⟨j, hj, rfl⟩ := List.getElem_of_mem hb
    rw [List.length_set] at hj
    rw [List.getElem_set] at hbx
    split at hbx
    · exact hbx
    · rename_i hne
      rcases Nat.lt_or_gt_of_ne hne with hlt | hlt
      · exact hp i j hi hj hlt x (e ▸ hx) hbx
      · exact hp j i hj hi hlt x hbx (e ▸ hx)
  · rw [List.length_set] at hj hk
    rw [List.getElem_set] at hx hkx
    split at hx
    · exact hx
    · split at hkx
      · exact hkx
      · exact hp j k hj hk hjk x hx hkx

theorem St.fill {w0 w : World} {r : Res} {rs : List Res} (h : St w0 w (r :: rs)) (i : Nat) (hr : rs[i]? = some voidR) : St w0 w (rs.set i r) := by
  obtain ⟨hi, e⟩ := List.getElem?_eq_some_iff.1 hr
  obtain ⟨h1, h2⟩ := List.pairwise_cons.1 h.apart
  have hp := List.pairwise_iff_getElem.1 h2
  refine ⟨h.base, fun a ha => ?_, fun a ha x hx => ?_, List.pairwise_iff_getElem.2 fun j k hj hk hjk x hx hkx => ?_⟩
  · rcases List.mem_or_eq_of_mem_set ha with ha | rfl
    · exact h.inv a (by simp [ha])
    · exact h.inv _ (by simp)
  · rcases List.mem_or_eq_of_mem_set ha with ha | rfl
    · exact h.new a (by simp [ha]) x hx
    · exact h.new _ (by simp) x hx
  · rw [List.length_set] at hj hk
    rw [List.getElem_set] at hx hkx
    split at hx
    · split at hkx
      · omega
      · exact h1 _ (List.getElem_mem hk) x hx hkx
    · split at hkx
      · exact h1 _ (List.getElem_mem hj) x hkx hx
      · exact hp j k hj hk hjk x hx hkx

/-! ### The journal -/

structure JSt where
  gen : Nat
  last : Nat
  dead : Bool
  order : List Nat
  data : List Blk

structure JHdl where
  jb : Nat
  ov : Value
  mb : Nat

def jcells (H : Hdl) (h : JHdl) (J : JSt) : Array Value := #[.pointer (some ⟨H.b, 0, none⟩), .int .u64 J.gen, .int .u64 J.last, .bool J.dead, h.ov, .map (some h.mb)]

/-- The journal in memory, over the device H. -/
def jrn (H : Hdl) (h : JHdl) (J : JSt) : Res := (arr h.jb (jcells H h J) 138 neJrn).and ((rowI h.ov J.order).and (chg h.mb (J.last % 4) J.data))

theorem St.jOpen {w0 w : World} {rs : List Res} {H : Hdl} {h : JHdl} {J : JSt} (hs : St w0 w (jrn H h J :: rs)) : St w0 w (arr h.jb (jcells H h J) 138 neJrn :: rowI h.ov J.order :: chg h.mb (J.last % 4) J.data :: rs) := by
  have h1 := hs.part
  have h2 := h1.perm (rs' := (rowI h.ov J.order).and (chg h.mb (J.last % 4) J.data) :: arr h.jb (jcells H h J) 138 neJrn :: rs) (List.Perm.swap _ _ _)
  exact h2.part.perm ((List.Perm.cons _ (List.Perm.swap _ _ _)).trans (List.Perm.swap _ _ _))

theorem St.jShut {w0 w : World} {rs : List Res} {H : Hdl} {h : JHdl} {J : JSt} (hs : St w0 w (arr h.jb (jcells H h J) 138 neJrn :: rowI h.ov J.order :: chg h.mb (J.last % 4) J.data :: rs)) : St w0 w (jrn H h J :: rs) := by
  have h1 := hs.perm (rs' := rowI h.ov J.order :: chg h.mb (J.last % 4) J.data :: arr h.jb (jcells H h J) 138 neJrn :: rs) ((List.Perm.swap _ _ _).trans (List.Perm.cons _ (List.Perm.swap _ _ _)))
  exact (h1.join.perm (List.Perm.swap _ _ _)).join

/-- The first of the last commit's blocks that is block k. -/
theorem over_first : ∀ (o : List Nat) (dt : List Blk) (C : Nat → Blk) (i k : Nat) (b : Blk), o[i]? = some k → dt[i]? = some b → (∀ j, j < i → o[j]? ≠ some k) → over o dt C k = b
  | [], _, _, _, _, _, h, _, _ => by simp at h
  | x :: o, [], _, _, _, _, _, h, _ => by simp at h
  | x :: o, c :: dt, C, 0, k, b, h1, h2, _ => by
    simp at h1 h2; subst h1 h2; unfold over; rw [if_pos rfl]
  | x :: o, c :: dt, C, i + 1, k, b, h1, h2, h3 => by
    simp only [List.getElem?_cons_succ] at h1 h2
    have hne : ¬ x = k := fun e => h3 0 (by omega) (by simp [e])
    unfold over
    rw [if_neg hne]
    exact over_first o dt C i k b h1 h2 (fun j hj => by have := h3 (j + 1) (by omega); simpa using this)

/-- What a journal tells of a home. -/
def jview (J : JSt) (D : DSt) (k : Nat) : Blk := over J.order J.data D.last k

theorem S_JReadFar {w0 w : World} {rs : List Res} (h : St w0 w rs) (a i : Nat) {H : Hdl} {D : DSt} {jb : Nat} {c : Array Value} {ht : (138 : TypeId) ≠ 5} (hr : rs[a]? = some (dev H D)) (hj : rs[i]? = some (arr jb c 138 ht))
    (hc : c[0]? = some (.pointer (some ⟨H.b, 0, none⟩))) (k : Int) (hk : k < 245 ∨ (D.n : Int) ≤ k) :
    Calls Try.prog 50 #[.pointer (some ⟨jb, 0, none⟩), .int .i64 k] w fun e w' => w = w' ∧ e = .returned (.tuple #[.slice none 0 0, .int .i64 1]) := by
  have HB := Lib.hid (S_home h a i hr hj hc k)
  have hT : (decide (245 ≤ k) && decide (k < (D.n : Int))) = false := by
    rcases hk with h | h
    · rw [decide_eq_false (by omega), Bool.false_and]
    · rw [decide_eq_false (p := k < (D.n : Int)) (by omega), Bool.and_false]
  rw [hT] at HB
  clear hT h
  go_enter Try.func50, Try.ntmps50
  go_wp2_with fail
  refine HB.out.mono ?_
  rintro e w2 ⟨rfl, rfl⟩
  go_wp2
  go_ret2
  exact ⟨rfl, rfl⟩

set_option maxRecDepth 100000 in
theorem S_JRead {w0 w : World} {rs : List Res} (h : St w0 w rs) (a i p q : Nat) {H : Hdl} {D : DSt} {jb mb last sl : Nat} {ov : Value} {o : List Nat} {dt : List Blk} {c : Array Value} {ht : (138 : TypeId) ≠ 5} (hr : rs[a]? = some (dev H D)) (hj : rs[i]? = some (arr jb c 138 ht))
    (hov : rs[p]? = some (rowI ov o)) (hmb : rs[q]? = some (chg mb sl dt)) (hc0 : c[0]? = some (.pointer (some ⟨H.b, 0, none⟩))) (hc2 : c[2]? = some (.int .u64 last)) (hc4 : c[4]? = some ov) (hc5 : c[5]? = some (.map (some mb)))
    (hsl : last % 4 = sl) (hla : last < 18446744073709551616) (hlen : dt.length = o.length) (ho60 : o.length ≤ 60) (hb512 : ∀ b ∈ dt, b.length = 512) (ho : D.ops < 1000000000) (k : Int) (hk0 : 245 ≤ k) (hk1 : k < (D.n : Int)) :
    Calls Try.prog 50 #[.pointer (some ⟨jb, 0, none⟩), .int .i64 k] w fun e w' => ∃ v, e = .returned (.tuple #[v, .int .i64 0]) ∧ St w0 w' (byt v (over o dt D.last k.toNat) :: rs) := by
  have HB := Lib.hid (S_home h a i hr hj hc0 k)
  have hT : (decide (245 ≤ k) && decide (k < (D.n : Int))) = true := by rw [decide_eq_true hk0, decide_eq_true hk1]; rfl
  rw [hT] at HB
  have H0 := Lib.hid h
  have HIX := Lib.hid (index_any w ov (o.map fun k : Nat => (k : Int)) k (elems_rowI (h.get hov)) (by rw [List.length_map]; omega))
  have c0 : w.cell? ⟨jb, 0, none⟩ = some (.pointer (some ⟨H.b, 0, none⟩)) := (h.arrCell hj 0).trans hc0
  have c2 : w.cell? ⟨jb, 2, none⟩ = some (.int .u64 last) := (h.arrCell hj 2).trans hc2
  have c4 : w.cell? ⟨jb, 4, none⟩ = some ov := (h.arrCell hj 4).trans hc4
  have c5 : w.cell? ⟨jb, 5, none⟩ = some (.map (some mb)) := (h.arrCell hj 5).trans hc5
  have HRD := Lib.hid (S_Read h a hr k (by omega) hk1 (by omega))
  have HSL : Hid (∀ W, Calls Try.prog 89 #[.int .u64 last] W fun e w' => e = .returned (.int .i64 sl) ∧ w' = W) := Lib.hid fun W => slot_is W last sl hla hsl
  have hsl4 : sl < 4 := by omega
  have HLEN := Lib.hid hlen
  have H512 := Lib.hid hb512
  have HMB := Lib.hid hmb
  clear h hT hr hj hov hc0 hc2 hc4 hc5 hlen hb512 hsl hla hmb ho
  go_enter Try.func50, Try.ntmps50
  go_wp2_with fail
  refine HB.out.mono ?_
  rintro e w2 ⟨rfl, rfl⟩
  go_wp2_with fail
  refine HIX.out.mono ?_
  rintro e w3 ⟨rfl, r, rfl, hfst⟩
  rcases hfst with ⟨x, hx1, hx2, hx3⟩ | ⟨hx1, hx2⟩
  · have hox : o[x]? = some k.toNat := by
      rw [List.getElem?_map] at hx2
      cases hq : o[x]? with
      | none => rw [hq] at hx2; cases hx2
      | some y => rw [hq] at hx2; simp at hx2; rw [← hx2]; simp
    have hxl : x < o.length := (List.getElem?_eq_some_iff.1 hox).1
    obtain ⟨b, hb⟩ : ∃ b, dt[x]? = some b := ⟨_, List.getElem?_eq_getElem (by rw [HLEN.out]; exact hxl)⟩
    obtain ⟨v, hlk0, hbv⟩ := H0.out.chgLook HMB.out x hb (by omega) (by omega)
    have hOV : Hid (over o dt D.last k.toNat = b) := Lib.hid (over_first o dt _ x _ b hox hb (fun j hj e => hx3 j hj (by rw [List.getElem?_map, e]; simp; omega)))
    have hbl : b.length = 512 := H512.out b (List.mem_of_getElem? hb)
    have hlk : (Instr.lookup 136 (.map (some mb)) (.agg #[.int .i64 sl, .int .i64 x]) false).run Try.prog w.drew = .ok v w.drew := hlk0 _ rfl
    have HBV : Hid (BytesAt w.drew v b AnyB) := Lib.hid (hbv.frm0 ((Frm.refl NoB w).drew))
    have HCL : Hid (Calls Try.prog 70 #[v] w.drew fun e w' => ∃ v', e = .returned v' ∧ St w0 w' (byt v' b :: rs)) := Lib.hid ((Clone_any w.drew v b AnyB HBV.out (by omega)).mono fun e w' ⟨hf, v', e1, hb1⟩ => ⟨v', e1, (H0.out.frm0 ((Frm.refl NoB w).drew)).make hf (byt v' b) (hb1.mono (fun _ _ _ => trivial)) (fun _ h => h.elim)⟩)
    subst hx1
    have hx0 : (0 : Int) ≤ (x : Int) := Int.natCast_nonneg _
    clear hlk0 hbv hbl hb hox hx2 hx3 hxl c4
    go_wp2_with fail
    refine wp_region_still_tail 12 (by kernel_rfl) (by kernel_rfl) ?_
    simp only [List.take_succ_cons, List.take_zero, List.drop_succ_cons, List.drop_zero]
    repeat still_step
    still_call (HSL.out _)
    repeat still_step
    refine wpStill_nil ?_
    change wpList _ _ _ _ _ w.drew
    go_wp2_with fail
    refine HCL.out.mono ?_
    rintro e w4 ⟨v', rfl, h4⟩
    have H4 := Lib.hid h4
    clear h4
    go_wp2
    go_ret2
    exact ⟨_, rfl, by rw [hOV.out]; exact H4.out⟩
  · have hOV : Hid (over o dt D.last k.toNat = D.last k.toNat) := Lib.hid (over_not _ _ _ _ (fun hm => by
      obtain ⟨x, hx⟩ := List.getElem?_of_mem hm
      exact hx2 x (by rw [List.getElem?_map, hx]; simp; omega)))
    subst hx1
    clear hx2 c4
    go_wp2_with fail
    refine HRD.out.mono ?_
    rintro e w4 ⟨v', rfl, h4⟩
    have H4 := Lib.hid h4
    clear h4
    go_wp2
    go_ret2
    exact ⟨_, rfl, by rw [hOV.out]; exact H4.out⟩
end Go.Proofs.Ytkanfpmmgaipnaa
