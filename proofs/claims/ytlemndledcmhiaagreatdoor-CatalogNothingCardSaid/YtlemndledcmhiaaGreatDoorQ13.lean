/-
  The catalog, from the device up, part 13.
-/
import Derived.Test.YtlemndledcmhiaaGreatDoorQ12
import Derived.Laws.IdiomStrings
namespace Go.Proofs.YtlemndledcmhiaaGreatDoor
set_option linter.unusedVariables false
set_option linter.unusedSimpArgs false
section
open Go.ChangeMaps Go.MapKept Go.RowKit
variable {w0 : Gnd} {w : World} {rs : List Res} {X : Sys} {F : FH} {A : Path → Option Nd} {ι : Path → Nat}
set_option maxHeartbeats 1000000 in
set_option maxRecDepth 100000 in
theorem b_Write {R : World → Prop} {d a : Nat} {st : Value} {v : Value} (h : Fs w0 w F X A ι rs) {i1 i2 i3 bf ba bb : Nat} (b1 : rs[i1]? = some (arr bf #[.pointer (some ⟨F.fb, 0, none⟩)] 24 neFSp)) (b2 : rs[i2]? = some (arr ba #[.int .i64 a] 3 neI8)) (b3 : rs[i3]? = some (arr bb #[v] 76 neSlb)) {k s : Nat} (hst : st = .agg #[.int .i64 k, .int .i64 s])
    (KW : ∀ y rs', Fs w0 y F X A ι (rs' ++ rs) → Calls Tryz.prog 190 #[.pointer (some ⟨X.sb, 0, none⟩), .int .i64 d, .int .i64 a, v] y fun e w' => e = .returned (.int .i64 0) ∧ ∃ W A', Fs w0 w' F W A' ι (rs' ++ rs) ∧ W = X.wr W.l ∧ (Fs w0 w' F W A' ι (rs' ++ rs) → R w')) :
    Calls Tryz.prog 259 #[.int .i64 d, st, .pointer (some ⟨bf, 0, none⟩), .pointer (some ⟨ba, 0, none⟩), .pointer (some ⟨bb, 0, none⟩)] w fun e w' => e = .returned (.int .i64 0) ∧ R w' := by
  subst hst
  have h1 := h.newArr #[.int .i64 k, .int .i64 s] 82 neStt
  have KC : Hid (∀ y W A' rs', Fs w0 y F W A' ι (rs' ++ rs) → W = X.wr W.l → y.cell? ⟨bf, 0, none⟩ = some (.pointer (some ⟨F.fb, 0, none⟩)) ∧ y.cell? ⟨ba, 0, none⟩ = some (.int .i64 a) ∧ y.cell? ⟨bb, 0, none⟩ = some v ∧ y.cell? ⟨F.fb, 2, none⟩ = some (.pointer (some ⟨X.sb, 0, none⟩))) := Lib.hid fun y W A' rs' hy hW => by
    have hsub := hy.sub (List.sublist_append_right rs' rs)
    exact ⟨(hsub.arrCell b1 0).trans rfl, (hsub.arrCell b2 0).trans rfl, (hsub.arrCell b3 0).trans rfl, (hy.cells 2).trans (by rw [hW]; rfl)⟩
  have H1 := Lib.hid h1
  have HKW := Lib.hid KW
  clear h b1 b2 b3 KW h1
  go_enter Tryz.func259, Tryz.ntmps259
  go_upto_region 1 with (refine allocRow rfl _ _ zeroStt rfl ?_)
  obtain ⟨y1, hy1, h2⟩ := H1.out.name
  rw [hy1]
  have h2d := h2.frm (Frm.refl NoB y1).drew
  have HW := Lib.hid (HKW.out y1.drew [_] h2d)
  have H2 := Lib.hid h2
  have H2d := Lib.hid h2d
  clear hy1 H1 h2 h2d HKW
  go_region_held3 (fun y => y.cell? ⟨bf, 0, none⟩ = some (.pointer (some ⟨F.fb, 0, none⟩)) ∧ y.cell? ⟨ba, 0, none⟩ = some (.int .i64 a) ∧ y.cell? ⟨bb, 0, none⟩ = some v ∧ y.cell? ⟨F.fb, 2, none⟩ = some (.pointer (some ⟨X.sb, 0, none⟩)))
    (first | exact KC.out _ _ _ [_] H2.out rfl | exact KC.out _ _ _ [_] H2d.out rfl | exact KC.out _ _ _ [_] h4 hW4)
    (first
      | (go_at_call 190; (with_reducible refine HW.out.mono ?_); rintro e w4 ⟨rfl, W4, A4, h4, hW4, hR4⟩))
  have HR := Lib.hid (hR4 h4)
  clear h4 hW4 hR4 HW H2 H2d KC
  go_wp2
  go_ret
  exact ⟨rfl, HR.out⟩
set_option maxHeartbeats 1000000 in
set_option maxRecDepth 100000 in
theorem b_Append {R : World → Prop} {d : Nat} {v : Value} (h : Fs w0 w F X A ι rs) {i1 i3 bf bb : Nat} (b1 : rs[i1]? = some (arr bf #[.pointer (some ⟨F.fb, 0, none⟩)] 24 neFSp)) (b3 : rs[i3]? = some (arr bb #[v] 76 neSlb)) {k s : Nat}
    (KW : ∀ y rs', Fs w0 y F X A ι (rs' ++ rs) → Calls Tryz.prog 190 #[.pointer (some ⟨X.sb, 0, none⟩), .int .i64 d, .int .i64 s, v] y fun e w' => e = .returned (.int .i64 0) ∧ ∃ W A', Fs w0 w' F W A' ι (rs' ++ rs) ∧ W = X.wr W.l ∧ (Fs w0 w' F W A' ι (rs' ++ rs) → R w')) :
    Calls Tryz.prog 189 #[.int .i64 d, .agg #[.int .i64 k, .int .i64 s], .pointer (some ⟨bf, 0, none⟩), .pointer (some ⟨bb, 0, none⟩)] w fun e w' => e = .returned (.int .i64 0) ∧ R w' := by
  have h1 := h.newArr #[.int .i64 k, .int .i64 s] 82 neStt
  have KC : Hid (∀ y W A' g, Fs w0 y F W A' ι (arr g #[.int .i64 k, .int .i64 s] 82 neStt :: rs) → W = X.wr W.l → y.cell? ⟨bf, 0, none⟩ = some (.pointer (some ⟨F.fb, 0, none⟩)) ∧ y.cell? ⟨g, 1, none⟩ = some (.int .i64 s) ∧ y.cell? ⟨bb, 0, none⟩ = some v ∧ y.cell? ⟨F.fb, 2, none⟩ = some (.pointer (some ⟨X.sb, 0, none⟩))) := Lib.hid fun y W A' g hy hW => by
    have hsub := hy.drop 1
    exact ⟨(hsub.arrCell b1 0).trans rfl, (hy.arrCell (i := 0) rfl 1).trans rfl, (hsub.arrCell b3 0).trans rfl, (hy.cells 2).trans (by rw [hW]; rfl)⟩
  have H1 := Lib.hid h1
  have HKW := Lib.hid KW
  clear h b1 b3 KW h1
  go_enter Tryz.func189, Tryz.ntmps189
  go_upto_region 1 with (refine allocRow rfl _ _ zeroStt rfl ?_)
  obtain ⟨y1, hy1, h2⟩ := H1.out.name
  rw [hy1]
  generalize w.heap.size = g at *
  have h2d := h2.frm (Frm.refl NoB y1).drew
  have HW := Lib.hid (HKW.out y1.drew [_] h2d)
  have H2 := Lib.hid h2
  have H2d := Lib.hid h2d
  clear hy1 H1 h2 h2d HKW
  go_region_held3 (fun y => y.cell? ⟨bf, 0, none⟩ = some (.pointer (some ⟨F.fb, 0, none⟩)) ∧ y.cell? ⟨g, 1, none⟩ = some (.int .i64 s) ∧ y.cell? ⟨bb, 0, none⟩ = some v ∧ y.cell? ⟨F.fb, 2, none⟩ = some (.pointer (some ⟨X.sb, 0, none⟩)))
    (first | exact KC.out _ _ _ _ H2.out rfl | exact KC.out _ _ _ _ H2d.out rfl | exact KC.out _ _ _ _ h4 hW4)
    (first
      | (go_at_call 190; (with_reducible refine HW.out.mono ?_); rintro e w4 ⟨rfl, W4, A4, h4, hW4, hR4⟩))
  have HR := Lib.hid (hR4 h4)
  clear h4 hW4 hR4 HW H2 H2d KC
  go_wp2
  go_ret
  exact ⟨rfl, HR.out⟩
set_option maxHeartbeats 1000000 in
set_option maxRecDepth 100000 in
theorem b_Truncate {R : World → Prop} {d S : Nat} (h : Fs w0 w F X A ι rs) {i1 i2 bf ba : Nat} (b1 : rs[i1]? = some (arr bf #[.pointer (some ⟨F.fb, 0, none⟩)] 24 neFSp)) (b2 : rs[i2]? = some (arr ba #[.int .i64 S] 3 neI8)) {k s : Nat}
    (KW : ∀ y rs', Fs w0 y F X A ι (rs' ++ rs) → Calls Tryz.prog 236 #[.pointer (some ⟨X.sb, 0, none⟩), .int .i64 d, .int .i64 S] y fun e w' => e = .returned (.int .i64 0) ∧ ∃ W A', Fs w0 w' F W A' ι (rs' ++ rs) ∧ W = X.wr W.l ∧ (Fs w0 w' F W A' ι (rs' ++ rs) → R w')) :
    Calls Tryz.prog 235 #[.int .i64 d, .agg #[.int .i64 k, .int .i64 s], .pointer (some ⟨bf, 0, none⟩), .pointer (some ⟨ba, 0, none⟩)] w fun e w' => e = .returned (.int .i64 0) ∧ R w' := by
  have h1 := h.newArr #[.int .i64 k, .int .i64 s] 82 neStt
  have KC : Hid (∀ y W A' g, Fs w0 y F W A' ι (arr g #[.int .i64 k, .int .i64 s] 82 neStt :: rs) → W = X.wr W.l → y.cell? ⟨bf, 0, none⟩ = some (.pointer (some ⟨F.fb, 0, none⟩)) ∧ y.cell? ⟨ba, 0, none⟩ = some (.int .i64 S) ∧ y.cell? ⟨F.fb, 2, none⟩ = some (.pointer (some ⟨X.sb, 0, none⟩))) := Lib.hid fun y W A' g hy hW => by
    have hsub := hy.drop 1
    exact ⟨(hsub.arrCell b1 0).trans rfl, (hsub.arrCell b2 0).trans rfl, (hy.cells 2).trans (by rw [hW]; rfl)⟩
  have H1 := Lib.hid h1
  have HKW := Lib.hid KW
  clear h b1 b2 KW h1
  go_enter Tryz.func235, Tryz.ntmps235
  go_upto_region 1 with (refine allocRow rfl _ _ zeroStt rfl ?_)
  obtain ⟨y1, hy1, h2⟩ := H1.out.name
  rw [hy1]
  generalize w.heap.size = g at *
  have h2d := h2.frm (Frm.refl NoB y1).drew
  have HW := Lib.hid (HKW.out y1.drew [_] h2d)
  have H2 := Lib.hid h2
  have H2d := Lib.hid h2d
  clear hy1 H1 h2 h2d HKW
  go_region_held3 (fun y => y.cell? ⟨bf, 0, none⟩ = some (.pointer (some ⟨F.fb, 0, none⟩)) ∧ y.cell? ⟨ba, 0, none⟩ = some (.int .i64 S) ∧ y.cell? ⟨F.fb, 2, none⟩ = some (.pointer (some ⟨X.sb, 0, none⟩)))
    (first | exact KC.out _ _ _ _ H2.out rfl | exact KC.out _ _ _ _ H2d.out rfl | exact KC.out _ _ _ _ h4 hW4)
    (first
      | (go_at_call 236; (with_reducible refine HW.out.mono ?_); rintro e w4 ⟨rfl, W4, A4, h4, hW4, hR4⟩))
  have HR := Lib.hid (hR4 h4)
  clear h4 hW4 hR4 HW H2 H2d KC
  go_wp2
  go_ret
  exact ⟨rfl, HR.out⟩
set_option maxHeartbeats 1000000 in
set_option maxRecDepth 100000 in
theorem f_edit_in (h : Fs w0 w F X A ι rs) (hb : F.begun = true) (ho : F.over = false) (hd : F.dead = false) (hov : X.ov = false) {ns : Path} (h0 : ns ≠ []) (hns : ∀ x ∈ ns, NameOk x) (h8 : ns.length ≤ 8) {b : Blk} (hp : A ns = some (.file b)) (fn : FuncId) (caps : Array Value) (hE : EntersF Tryz.prog fn) {K : Sys → (Path → Option Nd) → Prop}
    (HD : ∀ y rs', Fs w0 y F X A ι (rs' ++ rs) → Calls Tryz.prog fn (#[.int .i64 (ι ns), .agg #[.int .i64 1, .int .i64 b.length]] ++ caps) y fun e w' => e = .returned (.int .i64 0) ∧ ∃ W A', Fs w0 w' F W A' ι (rs' ++ rs) ∧ W = X.wr W.l ∧ K W A') :
    Calls Tryz.prog 188 #[.pointer (some ⟨F.fb, 0, none⟩), .string (pathB ns), .func (.func fn) #[] caps] w fun e w' => e = .returned (.int .i64 0) ∧ ∃ W A', Fs w0 w' F W A' ι rs ∧ W = X.wr W.l ∧ K W A' := by
  have h1 := ((h.newArr #[.pointer (some ⟨F.fb, 0, none⟩)] 24 neFSp).newArr #[.string (pathB ns)] 9 neStr).newArr #[.func (.func fn) #[] caps] 278 neFnE
  have HC := Lib.hid (f_change_in h1 hb ho hd hov 252 #[.pointer (some ⟨_, 0, none⟩), .pointer (some ⟨_, 0, none⟩), .pointer (some ⟨_, 0, none⟩)] entEdit (K := fun W A' ι' => ι' = ι ∧ K W A') (fun y hy =>
    b_edit hy h0 hns h8 hp fn caps hE (i1 := 2) (i2 := 1) (i3 := 0) rfl rfl rfl (fun z g hz =>
      (HD z [_, _, _, _] hz).mono fun e w' ⟨he, W, A', q1, q2, q3⟩ => ⟨he, W, A', ι, (q1.drop 1).weak, q2, rfl, q3⟩)))
  have c0 := (h1.arrCell (i := 2) rfl 0).trans (show (#[Value.pointer (some ⟨F.fb, 0, none⟩)] : Array Value)[0]? = some (.pointer (some ⟨F.fb, 0, none⟩)) from rfl)
  simp only [size_alloc] at HC c0
  clear h hb ho hd hov h0 hns h8 hp hE HD h1
  generalize pathB ns = path at *
  go_enter Tryz.func188, Tryz.ntmps188
  go_wp2_with fail
  refine HC.out.mono ?_
  rintro e w2 ⟨rfl, W, A', ι', h2, q1, rfl, q2⟩
  have H2 := Lib.hid (h2.drop 3)
  have HQ := Lib.hid (And.intro q1 q2)
  clear h2 q1 q2
  go_wp2
  go_ret
  exact ⟨rfl, W, A', H2.out, HQ.out.1, HQ.out.2⟩
set_option maxHeartbeats 1000000 in
set_option maxRecDepth 100000 in
theorem f_Write_in (h : Fs w0 w F X A ι rs) (hb : F.begun = true) (ho : F.over = false) (hd : F.dead = false) (hop : X.op = true) (hov : X.ov = false) {ns : Path} (h0 : ns ≠ []) (hns : ∀ x ∈ ns, NameOk x) (h8 : ns.length ≤ 8) {b x : Blk} {a : Nat} {C : List Nat} (hm : MayEdit X A ι C ns b a x) {ai bb bo vc : Nat} (hv : rs[ai]? = some (byt (.slice (some ⟨bb, bo, none⟩) x.length vc) x)) :
    Calls Tryz.prog 194 #[.pointer (some ⟨F.fb, 0, none⟩), .string (pathB ns), .int .i64 a, .slice (some ⟨bb, bo, none⟩) x.length vc] w fun e w' => e = .returned (.int .i64 0) ∧ ∃ W A' C', Fs w0 w' F W A' ι rs ∧ Ed X W A A' C C' ns b (overB b a x) := by
  have h1 := ((h.newArr #[.pointer (some ⟨F.fb, 0, none⟩)] 24 neFSp).newArr #[.int .i64 a] 3 neI8).newArr #[.slice (some ⟨bb, bo, none⟩) x.length vc] 76 neSlb
  have HC := Lib.hid (f_edit_in h1 hb ho hd hov h0 hns h8 hm.file 259 #[.pointer (some ⟨_, 0, none⟩), .pointer (some ⟨_, 0, none⟩), .pointer (some ⟨_, 0, none⟩)] entWrite1 (K := fun W A' => ∃ C', Ed X W A A' C C' ns b (overB b a x)) (fun y rs' hy =>
    b_Write hy (i1 := rs'.length + 2) (i2 := rs'.length + 1) (i3 := rs'.length + 0) (by rw [List.getElem?_append_right (by omega), Nat.add_sub_cancel_left]; rfl) (by rw [List.getElem?_append_right (by omega), Nat.add_sub_cancel_left]; rfl) (by rw [List.getElem?_append_right (by omega), Nat.add_sub_cancel_left]; rfl) rfl (fun z rs2 hz =>
      (k_Write hz hop hm (ai := rs2.length + (rs'.length + (3 + ai))) (by
        rw [List.getElem?_append_right (by omega), Nat.add_sub_cancel_left, List.getElem?_append_right (by omega), Nat.add_sub_cancel_left, Nat.add_comm 3 ai]
        exact hv)).mono fun e w' ⟨he, W, A', C', q1, q2⟩ => ⟨he, W, A', q1, q2.goes.wr, fun hh => ⟨W, A', hh.sub (List.sublist_append_right rs2 _), q2.goes.wr, C', q2⟩⟩)))
  have c0 := (h1.arrCell (i := 2) rfl 0).trans (show (#[Value.pointer (some ⟨F.fb, 0, none⟩)] : Array Value)[0]? = some (.pointer (some ⟨F.fb, 0, none⟩)) from rfl)
  simp only [size_alloc] at HC c0
  clear h hb ho hd hop hov h0 hns h8 hm hv h1
  generalize pathB ns = path at *
  obtain ⟨n, hn⟩ : ∃ n, x.length = n := ⟨_, rfl⟩
  rw [hn] at HC ⊢
  clear hn
  go_enter Tryz.func194, Tryz.ntmps194
  go_wp2_with fail
  refine HC.out.mono ?_
  rintro e w2 ⟨rfl, W, A', h2, q1, C', q2⟩
  have H2 := Lib.hid (h2.drop 3)
  have HQ := Lib.hid q2
  clear h2 q1 q2
  go_wp2
  go_ret
  exact ⟨rfl, W, A', C', H2.out, HQ.out⟩
theorem overB_end (b x : Blk) : overB b b.length x = b ++ x := by
  unfold overB
  rw [List.take_length, List.drop_of_length_le (by omega), List.append_nil]
set_option maxHeartbeats 1000000 in
set_option maxRecDepth 100000 in
theorem f_Append_in (h : Fs w0 w F X A ι rs) (hb : F.begun = true) (ho : F.over = false) (hd : F.dead = false) (hop : X.op = true) (hov : X.ov = false) {ns : Path} (h0 : ns ≠ []) (hns : ∀ x ∈ ns, NameOk x) (h8 : ns.length ≤ 8) {b x : Blk} {C : List Nat} (hm : MayEdit X A ι C ns b b.length x) {ai bb bo vc : Nat} (hv : rs[ai]? = some (byt (.slice (some ⟨bb, bo, none⟩) x.length vc) x)) :
    Calls Tryz.prog 99 #[.pointer (some ⟨F.fb, 0, none⟩), .string (pathB ns), .slice (some ⟨bb, bo, none⟩) x.length vc] w fun e w' => e = .returned (.int .i64 0) ∧ ∃ W A' C', Fs w0 w' F W A' ι rs ∧ Ed X W A A' C C' ns b (b ++ x) := by
  have h1 := (h.newArr #[.pointer (some ⟨F.fb, 0, none⟩)] 24 neFSp).newArr #[.slice (some ⟨bb, bo, none⟩) x.length vc] 76 neSlb
  have HC := Lib.hid (f_edit_in h1 hb ho hd hov h0 hns h8 hm.file 189 #[.pointer (some ⟨_, 0, none⟩), .pointer (some ⟨_, 0, none⟩)] entAppend1 (K := fun W A' => ∃ C', Ed X W A A' C C' ns b (b ++ x)) (fun y rs' hy =>
    b_Append hy (i1 := rs'.length + 1) (i3 := rs'.length + 0) (by rw [List.getElem?_append_right (by omega), Nat.add_sub_cancel_left]; rfl) (by rw [List.getElem?_append_right (by omega), Nat.add_sub_cancel_left]; rfl) (fun z rs2 hz =>
      (k_Write hz hop hm (ai := rs2.length + (rs'.length + (2 + ai))) (by
        rw [List.getElem?_append_right (by omega), Nat.add_sub_cancel_left, List.getElem?_append_right (by omega), Nat.add_sub_cancel_left, Nat.add_comm 2 ai]
        exact hv)).mono fun e w' ⟨he, W, A', C', q1, q2⟩ => ⟨he, W, A', q1, q2.goes.wr, fun hh => ⟨W, A', hh.sub (List.sublist_append_right rs2 _), q2.goes.wr, C', overB_end b x ▸ q2⟩⟩)))
  have c0 := (h1.arrCell (i := 1) rfl 0).trans (show (#[Value.pointer (some ⟨F.fb, 0, none⟩)] : Array Value)[0]? = some (.pointer (some ⟨F.fb, 0, none⟩)) from rfl)
  simp only [size_alloc] at HC c0
  clear h hb ho hd hop hov h0 hns h8 hm hv h1
  generalize pathB ns = path at *
  obtain ⟨n, hn⟩ : ∃ n, x.length = n := ⟨_, rfl⟩
  rw [hn] at HC ⊢
  clear hn
  go_enter Tryz.func99, Tryz.ntmps99
  go_wp2_with fail
  refine HC.out.mono ?_
  rintro e w2 ⟨rfl, W, A', h2, q1, C', q2⟩
  have H2 := Lib.hid (h2.drop 2)
  have HQ := Lib.hid q2
  clear h2 q1 q2
  go_wp2
  go_ret
  exact ⟨rfl, W, A', C', H2.out, HQ.out⟩
set_option maxHeartbeats 1000000 in
set_option maxRecDepth 100000 in
theorem f_Truncate_in (h : Fs w0 w F X A ι rs) (hb : F.begun = true) (ho : F.over = false) (hd : F.dead = false) (hop : X.op = true) (hov : X.ov = false) {ns : Path} (h0 : ns ≠ []) (hns : ∀ x ∈ ns, NameOk x) (h8 : ns.length ≤ 8) {b : Blk} (hp : A ns = some (.file b)) {S : Nat} (hS : S ≤ b.length) {C : List Nat} (hC : Cov X C) (hbm : X.P.bm ∈ C) (hh : HeldC X C (ι ns)) (h60 : C.length ≤ 60) :
    Calls Tryz.prog 158 #[.pointer (some ⟨F.fb, 0, none⟩), .string (pathB ns), .int .i64 S] w fun e w' => e = .returned (.int .i64 0) ∧ ∃ W A' C', Fs w0 w' F W A' ι rs ∧ Ed X W A A' C C' ns b (b.take S) := by
  have h1 := (h.newArr #[.pointer (some ⟨F.fb, 0, none⟩)] 24 neFSp).newArr #[.int .i64 S] 3 neI8
  have HC := Lib.hid (f_edit_in h1 hb ho hd hov h0 hns h8 hp 235 #[.pointer (some ⟨_, 0, none⟩), .pointer (some ⟨_, 0, none⟩)] entTrunc1 (K := fun W A' => ∃ C', Ed X W A A' C C' ns b (b.take S)) (fun y rs' hy =>
    b_Truncate hy (i1 := rs'.length + 1) (i2 := rs'.length + 0) (by rw [List.getElem?_append_right (by omega), Nat.add_sub_cancel_left]; rfl) (by rw [List.getElem?_append_right (by omega), Nat.add_sub_cancel_left]; rfl) (fun z rs2 hz =>
      (k_Truncate hz hop hp hS hC hbm hh h60).mono fun e w' ⟨he, W, A', C', q1, q2⟩ => ⟨he, W, A', q1, q2.goes.wr, fun hh => ⟨W, A', hh.sub (List.sublist_append_right rs2 _), q2.goes.wr, C', q2⟩⟩)))
  have c0 := (h1.arrCell (i := 1) rfl 0).trans (show (#[Value.pointer (some ⟨F.fb, 0, none⟩)] : Array Value)[0]? = some (.pointer (some ⟨F.fb, 0, none⟩)) from rfl)
  simp only [size_alloc] at HC c0
  clear h hb ho hd hop hov h0 hns h8 hp hS hC hbm hh h60 h1
  generalize pathB ns = path at *
  go_enter Tryz.func158, Tryz.ntmps158
  go_wp2_with fail
  refine HC.out.mono ?_
  rintro e w2 ⟨rfl, W, A', h2, q1, C', q2⟩
  have H2 := Lib.hid (h2.drop 2)
  have HQ := Lib.hid q2
  clear h2 q1 q2
  go_wp2
  go_ret
  exact ⟨rfl, W, A', C', H2.out, HQ.out⟩
end
section
open Go.ChangeMaps Go.MapKept Go.RowKit
def crcStep (d : Int) : Int := Go.bits .xor .u32 (d / 2) (Go.bits .and .u32 2197175160 (-Go.bits .and .u32 d 1 % 4294967296))
def crcIt : Nat → Int → Int
  | 0, c => c
  | k + 1, c => crcStep (crcIt k c)
def crcF (b : Blk) : Int := b.foldl (fun c x => crcIt 8 (Go.bits .xor .u32 c ((x.toNat : Int) % 4294967296))) (Go.bits .xor .u32 IntKind.u32.max 0)
def crcS (b : Blk) : Nat := (Go.bits .xor .u32 IntKind.u32.max (crcF b)).toNat
theorem bits_u32 (o : BinOp) (ho : o = .xor) (x y : Int) : 0 ≤ Go.bits o .u32 x y ∧ Go.bits o .u32 x y < 4294967296 := by
  subst ho
  have : ∀ z, 0 ≤ IntKind.u32.wrap z ∧ IntKind.u32.wrap z < 4294967296 := fun z => by
    simp [IntKind.wrap, IntKind.bits, IntKind.signed]
    omega
  exact this _
theorem crcS_eq (b : Blk) : ((crcS b : Nat) : Int) = Go.bits .xor .u32 IntKind.u32.max (crcF b) ∧ crcS b < 4294967296 := by
  have := bits_u32 .xor rfl IntKind.u32.max (crcF b)
  unfold crcS
  omega
theorem crcF_snoc (b : Blk) (x : UInt8) : crcF (b ++ [x]) = crcIt 8 (Go.bits .xor .u32 (crcF b) ((x.toNat : Int) % 4294967296)) := by
  unfold crcF
  rw [List.foldl_append]
  rfl
set_option maxHeartbeats 1000000 in
set_option maxRecDepth 100000 in
theorem crc_More (w : World) (v : Value) (b : Blk) (hv : SliceOf w v b) (hl : b.length ≤ 100000) :
    Calls Tryz.prog 246 #[.int .u32 0, v] w fun e w' => w = w' ∧ e = .returned (.int .u32 (crcS b : Nat)) := by
  have HV := Lib.hid hv
  obtain ⟨a, cap, rfl, -⟩ := hv
  have HE := Lib.hid (crcS_eq b).1
  go_enter Tryz.func246, Tryz.ntmps246
  go_wp2_with fail
  go_loop [0, 6, 11, 19] (fun t0 _ t _ => ∃ (i : Nat) (c : Int), i ≤ b.length ∧ t = .int .i64 i ∧ t0 = .int .u32 c ∧ Hid (c = crcF (b.take i))) (fun _ _ t _ => b.length - (intOf t).toNat)
  case atStart => exact ⟨0, _, Nat.zero_le _, rfl, rfl, Lib.hid rfl⟩
  case round =>
    obtain ⟨i, c, hi, rfl, rfl, HC⟩ := hrel
    have hi0 : (0 : Int) ≤ (i : Int) := Int.natCast_nonneg _
    by_cases hlt : i < b.length
    · have hi1 : (i : Int) < (b.length : Int) := by omega
      obtain ⟨x, hx⟩ : ∃ x, b[i]? = some x := ⟨_, List.getElem?_eq_getElem hlt⟩
      obtain ⟨blk, off, cap', e, hc⟩ := HV.out.at hx
      cases e
      have HCN : Hid (crcF (b.take (i + 1)) = crcIt 8 (Go.bits .xor .u32 c ((x.toNat : Int) % 4294967296))) := Lib.hid (by
        rw [HC.out, ← crcF_snoc]
        congr 1
        obtain ⟨h1, h2⟩ := List.getElem?_eq_some_iff.1 hx
        rw [List.take_succ_eq_append_getElem h1, h2])
      clear hx HC
      go_wp2_with fail
      go_loop [0, 19] (fun t0 t => ∃ (k : Nat) (d : Int), k ≤ 8 ∧ t = .int .i64 k ∧ t0 = .int .u32 d ∧ Hid (d = crcIt k (Go.bits .xor .u32 c ((x.toNat : Int) % 4294967296)))) (fun _ t => 8 - (intOf t).toNat)
      case atStart => exact ⟨0, _, Nat.zero_le _, rfl, rfl, Lib.hid rfl⟩
      case round =>
        obtain ⟨k, d, hk, rfl, rfl, HD⟩ := hrel
        have hk0 : (0 : Int) ≤ (k : Int) := Int.natCast_nonneg _
        by_cases hk8 : k < 8
        · have hk8' : (k : Int) < 8 := by omega
          have HD2 : Hid (crcStep d = crcIt (k + 1) (Go.bits .xor .u32 c ((x.toNat : Int) % 4294967296))) := Lib.hid (by rw [HD.out]; rfl)
          go_wp2
          exact ⟨⟨k + 1, crcStep d, hk8, by go_num, rfl, HD2⟩, by simp [intOf]; omega⟩
        · have hk8' : ¬ (k : Int) < 8 := by omega
          obtain rfl : k = 8 := by omega
          have HD2 : Hid (d = crcF (b.take (i + 1))) := Lib.hid (by rw [HD.out, HCN.out])
          go_wp2
          exact ⟨⟨i + 1, d, hlt, by go_num, rfl, HD2⟩, by simp [intOf]; omega⟩
    · have hi1 : ¬ (i : Int) < (b.length : Int) := by omega
      have HX : Hid (c = crcF b) := Lib.hid (by rw [HC.out, List.take_of_length_le (by omega)])
      go_wp2
      go_ret
      refine ⟨rfl, ?_⟩
      have := HX.out
      subst this
      exact congrArg (fun z => Ending.returned (Value.int .u32 z)) HE.out.symm
theorem crc_Sum (w : World) (v : Value) (b : Blk) (hv : SliceOf w v b) (hl : b.length ≤ 100000) :
    Calls Tryz.prog 179 #[v] w fun e w' => w = w' ∧ e = .returned (.int .u32 (crcS b : Nat)) := by
  have HC := Lib.hid (crc_More w v b hv hl)
  clear hv hl
  go_enter Tryz.func179, Tryz.ntmps179
  go_wp2_with fail
  refine HC.out.mono ?_
  rintro e w2 ⟨rfl, rfl⟩
  go_wp2
  go_ret
  exact ⟨rfl, rfl⟩
def planOf (n ni : Nat) : Pl := { n := n, ni := ni, im := 246, bm := 247, tb := 248, da := 248 + (ni + 7) / 8, dc := n - 248 - (ni + 7) / 8 }
structure PlanFit (n ni : Nat) : Prop where
  h1 : 1 ≤ ni ∧ ni ≤ 4096
  h2 : 249 + (ni + 7) / 8 ≤ n
  h3 : n ≤ 4344 + (ni + 7) / 8
theorem PlanFit.ok {n ni : Nat} (h : PlanFit n ni) : PlOk (planOf n ni) := by
  have h1 := h.h1; have h2 := h.h2; have h3 := h.h3
  refine ⟨by show n ≤ 65536; omega, h1, ⟨by show 1 ≤ n - 248 - (ni + 7) / 8; omega, by show n - 248 - (ni + 7) / 8 ≤ 4096; omega⟩, rfl, rfl, rfl, rfl, by show 248 + (ni + 7) / 8 + (n - 248 - (ni + 7) / 8) = n; omega⟩
def plC (P : Pl) : Array Value := P.cells.toArray
theorem nePln : ¬ U8T (135 : TypeId) := by decide
def plz (a b c d e f g : Int) : Array Value := #[.int .i64 a, .int .i64 b, .int .i64 c, .int .i64 d, .int .i64 e, .int .i64 f, .int .i64 g]
theorem zeroPln (W : World) : (zeroValue 135).run Tryz.prog W = .ok (.agg (plz 0 0 0 0 0 0 0)) W := by kernel_rfl
theorem infoPln (a b c d e f g : Int) : (Tryz.prog.info? 135).map (·.size) = some (plz a b c d e f g).size := by kernel_rfl
theorem onePln (a b c d e f g : Int) : ((plz a b c d e f g).all fun x => x.oneCell') = true := by simp [plz, Value.oneCell']
theorem storePln {ops : Array Oper} {rest : List Oper} {o : Oper} {a : Act} {w : World} {Q : Exit → Act → World → Prop} (hgd : o.guard = none) (x y : Operand) (ho : o.op = .store 135 x y) (g : Nat) (p1 p2 p3 p4 p5 p6 p7 : Int) (hx : a.eval x = .pointer (some ⟨g, 0, none⟩)) (hy : a.eval y = .agg (plz p1 p2 p3 p4 p5 p6 p7)) (old : Array Value) (hold : old.size = 7)
    (hg : w.heap[g]? = some (.cells old 135 (0, 0))) (h : wpList Tryz.prog ops Q rest (a.put o.dst undef) (w.setRow g (plz p1 p2 p3 p4 p5 p6 p7))) : wpList Tryz.prog ops Q (o :: rest) a w :=
  wpList_store_row hgd _ x y ho g (plz p1 p2 p3 p4 p5 p6 p7) hx hy _ old hg (infoPln _ _ _ _ _ _ _) (by rw [hold]; rfl) (onePln _ _ _ _ _ _ _) h
theorem loadPln {ops : Array Oper} {rest : List Oper} {o : Oper} {a : Act} {w : World} {Q : Exit → Act → World → Prop} (hw : Region.wanted o (yielded ops a.tmps) = true) (x : Operand) (ho : o.op = .load 135 x) (g : Nat) (hx : a.eval x = .pointer (some ⟨g, 0, none⟩)) (p1 p2 p3 p4 p5 p6 p7 : Int)
    (hg : w.heap[g]? = some (.cells (plz p1 p2 p3 p4 p5 p6 p7) 135 (0, 0))) (h : wpList Tryz.prog ops Q rest (a.put o.dst (.agg (plz p1 p2 p3 p4 p5 p6 p7))) w) : wpList Tryz.prog ops Q (o :: rest) a w :=
  BigFrame.wpList_want hw fun K hK => wp_load_row _ x ho g hx _ _ _ _ hg Tryz.underlying135 rfl (infoPln _ _ _ _ _ _ _) (hK _ _ h)
theorem l_up (w : World) (n b : Nat) (hb : 1 ≤ b) (hb2 : b ≤ 4096) (hn : n ≤ 100000) : Calls Tryz.prog 174 #[.int .i64 n, .int .i64 b] w fun e w' => w = w' ∧ e = .returned (.int .i64 ((n + b - 1) / b : Nat)) := by
  have h1 : (n : Int) + (b : Int) - 1 = ((n + b - 1 : Nat) : Int) := by omega
  have h2 : ((n + b - 1 : Nat) : Int) / (b : Int) = (((n + b - 1) / b : Nat) : Int) := by norm_cast
  have b0 : ¬ (b : Int) = 0 := by omega
  have b1 : (1 : Int) ≤ (b : Int) := by omega
  have b2 : (b : Int) ≤ 4096 := by omega
  have n0 : (0 : Int) ≤ (n : Int) := Int.natCast_nonneg _
  have n1 : (n : Int) ≤ 100000 := by omega
  have H1 := Lib.hid h1
  have H2 := Lib.hid h2
  clear h1 h2
  go_enter Tryz.func174, Tryz.ntmps174
  go_wp2_with fail
  go_ret
  refine ⟨rfl, ?_⟩
  show Ending.returned (Value.int .i64 (((n : Int) + (b : Int) - 1) / (b : Int))) = _
  rw [H1.out, H2.out]
def plk (n ni t dc : Int) (k : Nat) : Array Value := plz n ni (if 0 < k then 246 else 0) (if 1 < k then 247 else 0) (if 2 < k then 248 else 0) (if 3 < k then 248 + t else 0) dc
def arC (g : Nat) (t dc : Int) : Array Value := #[.pointer (some ⟨g, 2, none⟩), .int .i64 1, .pointer (some ⟨g, 3, none⟩), .int .i64 1, .pointer (some ⟨g, 4, none⟩), .int .i64 t, .pointer (some ⟨g, 5, none⟩), .int .i64 dc]
set_option maxHeartbeats 2000000 in
set_option maxRecDepth 100000 in
theorem l_Make (w : World) (n ni : Nat) (h : PlanFit n ni) :
    Calls Tryz.prog 88 #[.int .i64 n, .int .i64 ni] w fun e w' => e = .returned (.tuple #[.agg (plC (planOf n ni)), .int .i64 0]) ∧ Frm NoB w w' := by
  obtain ⟨t, ht⟩ : ∃ t, (ni + 7) / 8 = t := ⟨_, rfl⟩
  obtain ⟨d, hd⟩ : ∃ d, n - 248 - t = d := ⟨_, rfl⟩
  have h1 := h.h1; have h2 := h.h2; have h3 := h.h3
  rw [ht] at h2 h3
  have HU1 : Hid (∀ y, Calls Tryz.prog 174 #[.int .i64 ni, .int .i64 4096] y fun e w' => y = w' ∧ e = .returned (.int .i64 1)) := Lib.hid fun y => by
    have := l_up y ni 4096 (by omega) (by omega) (by omega)
    rw [show (ni + 4096 - 1) / 4096 = 1 by omega] at this
    exact this
  have HU2 : Hid (∀ y, Calls Tryz.prog 174 #[.int .i64 ni, .int .i64 8] y fun e w' => y = w' ∧ e = .returned (.int .i64 t)) := Lib.hid fun y => by
    have := l_up y ni 8 (by omega) (by omega) (by omega)
    rw [show ni + 8 - 1 = ni + 7 by omega, ht] at this
    exact this
  have HPL : Hid (plC (planOf n ni) = plz n ni 246 247 248 (248 + (t : Int)) d) := Lib.hid (by
    show (planOf n ni).cells.toArray = _
    unfold planOf Pl.cells plz
    rw [ht, hd]
    simp only [Int.natCast_add]
    rfl)
  have i1 : (1 : Int) ≤ (ni : Int) := by omega
  have i2 : (ni : Int) ≤ 4096 := by omega
  have m1 : (1 : Int) ≤ (n : Int) := by omega
  have m2 : (n : Int) ≤ 65536 := by omega
  have t0 : (0 : Int) ≤ (t : Int) := Int.natCast_nonneg _
  have t1 : (t : Int) ≤ 512 := by omega
  have dd : (n : Int) - 246 - 1 - (t : Int) - 1 = (d : Int) := by omega
  have d1 : (1 : Int) ≤ (d : Int) := by omega
  have d2 : (d : Int) ≤ 4096 := by omega
  have dd1 : (n : Int) - 246 - 1 - (t : Int) = (d : Int) + 1 := by omega
  have HDD := Lib.hid (And.intro dd dd1)
  clear h h1 h2 h3 ht hd dd dd1
  rw [HPL.out]
  go_enter Tryz.func88, Tryz.ntmps88
  go_upto_region 1 with (refine allocRow rfl _ _ zeroPln rfl ?_)
  have hf0 := (Frm.refl NoB w).alloc (.cells (plz 0 0 0 0 0 0 0) 135 (0, 0))
  have hb0 := block_alloc_new w (.cells (plz 0 0 0 0 0 0 0) 135 (0, 0))
  obtain ⟨y0, hy0⟩ : ∃ y0, w.alloc (.cells (plz 0 0 0 0 0 0 0) 135 (0, 0)) = y0 := ⟨_, rfl⟩
  obtain ⟨b4, hb4⟩ : ∃ b4, w.heap.size = b4 := ⟨_, rfl⟩
  rw [hy0] at hf0 hb0 ⊢
  rw [hb4] at hb0 ⊢
  have HF0 := Lib.hid hf0
  have HB0 := Lib.hid hb0
  have HB4 := Lib.hid hb4
  clear hf0 hb0 hy0 hb4
  go_wp2_with fail
  refine (HU1.out _).mono ?_
  rintro e w1 ⟨rfl, rfl⟩
  go_wp2_with fail
  refine (HU2.out _).mono ?_
  rintro e w2 ⟨rfl, rfl⟩
  go_upto_region 5 with fail
  rw [HDD.out.2]
  clear HU1 HU2 HDD
  go_wp2_with fail
  go_loopw [9] (fun t9 wr => t9 = .int .i64 1 ∧ Hid (y0 = wr)) (fun _ _ => 0)
  case atStart => exact ⟨rfl, Lib.hid rfl⟩
  case round =>
    obtain ⟨rfl, HY⟩ := hrel
    obtain rfl := HY.out
    clear HY
    have HK0 := Lib.hid (block_alloc_new y0 (.cells (plz 0 0 0 0 0 0 0) 135 (0, 0)))
    go_upto_region 9 with (first | (refine allocRow rfl _ _ zeroPln rfl ?_) | (refine storePln rfl _ _ rfl y0.heap.size n ni 0 0 0 0 d rfl rfl _ rfl HK0.out ?_))
    have hb1 := setRow_heap _ _ _ (plk n ni t d 0) _ _ HK0.out
    have hf1 : Frm NoB y0 ((y0.alloc (.cells (plz 0 0 0 0 0 0 0) 135 (0, 0))).setRow y0.heap.size (plk n ni t d 0)) := ((Frm.refl NoB y0).alloc _).setRowNew (Nat.le_refl _) _
    show Code.wp Tryz.prog _ _ _ ((y0.alloc (.cells (plz 0 0 0 0 0 0 0) 135 (0, 0))).setRow y0.heap.size (plk n ni t d 0))
    obtain ⟨g, hg⟩ : ∃ g, y0.heap.size = g := ⟨_, rfl⟩
    have HG := Lib.hid hg
    rw [hg] at hb1 hf1 ⊢
    obtain ⟨y1, hy1⟩ : ∃ y1, (y0.alloc (.cells (plz 0 0 0 0 0 0 0) 135 (0, 0))).setRow g (plk n ni t d 0) = y1 := ⟨_, rfl⟩
    rw [hy1] at hb1 hf1 ⊢
    have HB1 := Lib.hid hb1
    have HF1 := Lib.hid hf1
    have c6 : y1.cell? ⟨g, 6, none⟩ = some (.int .i64 d) := (cell_of_block hb1).trans rfl
    clear hb1 hf1 hy1 hg HK0
    go_upto_region 13 with fail
    have hb2 := block_alloc_new y1 (.cells (arC g t d) 252 (0, 0))
    have hf2 := HF1.out.alloc (.cells (arC g t d) 252 (0, 0))
    have hb3 := block_alloc_old (.cells (arC g t d) 252 (0, 0)) HB1.out
    show Code.wp Tryz.prog _ _ _ (y1.alloc (.cells (arC g t d) 252 (0, 0)))
    have hga : y0.heap.size ≤ y1.heap.size := HF1.out.size
    obtain ⟨ga, hgg⟩ : ∃ ga, y1.heap.size = ga := ⟨_, rfl⟩
    rw [hgg] at hb2 ⊢
    obtain ⟨y2, hy2⟩ : ∃ y2, y1.alloc (.cells (arC g t d) 252 (0, 0)) = y2 := ⟨_, rfl⟩
    rw [hy2] at hb2 hf2 hb3 ⊢
    have HNE : Hid (ga ≠ g) := Lib.hid (by have := lt_of_block HB1.out; omega)
    have HB2 := Lib.hid hb2
    have HB3 := Lib.hid hb3
    have HF2 := Lib.hid hf2
    clear hb2 hf2 hb3 hy2 hgg hga HB1 HF1 c6
    go_loopw [11, 13, 72] (fun t11 _ t72 wr => ∃ k : Nat, k ≤ 4 ∧ t72 = .int .i64 k ∧ t11 = .int .i64 (if k = 0 then 246 else if k = 1 then 247 else if k = 2 then 248 else if k = 3 then 248 + (t : Int) else 248 + (t : Int) + d) ∧ Hid (wr.heap[g]? = some (.cells (plk n ni t d k) 135 (0, 0))) ∧ Hid (wr.heap[ga]? = some (.cells (arC g t d) 252 (0, 0))) ∧ Hid (Frm NoB y0 wr)) (fun _ _ t72 _ => 4 - (intOf t72).toNat)
    case atStart => exact ⟨0, by omega, rfl, rfl, HB3, HB2, HF2⟩
    case round =>
      obtain ⟨k, hk, rfl, rfl, HA, HB, HF⟩ := hrel
      by_cases hk4 : k < 4
      · rcases (by omega : k = 0 ∨ k = 1 ∨ k = 2 ∨ k = 3) with rfl | rfl | rfl | rfl
        · have a0 : wr.cell? ⟨ga, 0, none⟩ = some (.pointer (some ⟨g, 2, none⟩)) := (cell_of_block HB.out).trans rfl
          have a1 : wr.cell? ⟨ga, 1, none⟩ = some (.int .i64 1) := (cell_of_block HB.out).trans rfl
          go_upto_region 15 with fail
          have hA2 := block_alloc_old (.cells #[.pointer (some ⟨g, 2, none⟩), .int .i64 1] 252 (0, 0)) HA.out
          have hB2 := block_alloc_old (.cells #[.pointer (some ⟨g, 2, none⟩), .int .i64 1] 252 (0, 0)) HB.out
          have hN2 := block_alloc_new wr (.cells #[.pointer (some ⟨g, 2, none⟩), .int .i64 1] 252 (0, 0))
          have hF2 := HF.out.alloc (.cells #[.pointer (some ⟨g, 2, none⟩), .int .i64 1] 252 (0, 0))
          have hgl := lt_of_block HA.out
          have hgl2 := lt_of_block HB.out
          obtain ⟨gs, hgs⟩ : ∃ gs, wr.heap.size = gs := ⟨_, rfl⟩
          rw [hgs] at hN2 hgl hgl2 ⊢
          obtain ⟨y, hy⟩ : ∃ y, wr.alloc (.cells #[.pointer (some ⟨g, 2, none⟩), .int .i64 1] 252 (0, 0)) = y := ⟨_, rfl⟩
          rw [hy] at hA2 hB2 hN2 hF2 ⊢
          have e0 : y.cell? ⟨gs, 0, none⟩ = some (.pointer (some ⟨g, 2, none⟩)) := (cell_of_block hN2).trans rfl
          have cg : y.cell? ⟨g, 2, none⟩ = some (.int .i64 0) := (cell_of_block hA2).trans rfl
          have fg : y.frozen? ⟨g, 2, none⟩ = false := frozen_of_block hA2
          have e1 : (y.setCell ⟨g, 2, none⟩ (.int .i64 246)).cell? ⟨gs, 1, none⟩ = some (.int .i64 1) := (cell_of_block (block_setCell_other (p := ⟨g, 2, none⟩) _ hN2 (by show gs ≠ g; omega))).trans rfl
          have HA3 : Hid ((y.setCell ⟨g, 2, none⟩ (.int .i64 246)).heap[g]? = some (.cells (plk n ni t d 1) 135 (0, 0))) := Lib.hid (block_setCell_same (i := 2) (.int .i64 246) hA2)
          have HB3 : Hid ((y.setCell ⟨g, 2, none⟩ (.int .i64 246)).heap[ga]? = some (.cells (arC g t d) 252 (0, 0))) := Lib.hid (block_setCell_other (p := ⟨g, 2, none⟩) _ hB2 (by show ga ≠ g; exact HNE.out))
          have HF3 := Lib.hid (hF2.setCell (p := ⟨g, 2, none⟩) (.inr (by rw [HG.out]; exact Nat.le_refl _)) (.int .i64 246))
          clear a0 a1 hA2 hB2 hN2 hF2 hgl hgl2 hgs hy HA HB HF
          go_wp2_with fail
          exact ⟨⟨1, by omega, rfl, rfl, HA3, HB3, HF3⟩, by simp [intOf]⟩
        · have a0 : wr.cell? ⟨ga, 2, none⟩ = some (.pointer (some ⟨g, 3, none⟩)) := (cell_of_block HB.out).trans rfl
          have a1 : wr.cell? ⟨ga, 3, none⟩ = some (.int .i64 1) := (cell_of_block HB.out).trans rfl
          go_upto_region 15 with fail
          have hA2 := block_alloc_old (.cells #[.pointer (some ⟨g, 3, none⟩), .int .i64 1] 252 (0, 0)) HA.out
          have hB2 := block_alloc_old (.cells #[.pointer (some ⟨g, 3, none⟩), .int .i64 1] 252 (0, 0)) HB.out
          have hN2 := block_alloc_new wr (.cells #[.pointer (some ⟨g, 3, none⟩), .int .i64 1] 252 (0, 0))
          have hF2 := HF.out.alloc (.cells #[.pointer (some ⟨g, 3, none⟩), .int .i64 1] 252 (0, 0))
          have hgl := lt_of_block HA.out
          have hgl2 := lt_of_block HB.out
          obtain ⟨gs, hgs⟩ : ∃ gs, wr.heap.size = gs := ⟨_, rfl⟩
          rw [hgs] at hN2 hgl hgl2 ⊢
          obtain ⟨y, hy⟩ : ∃ y, wr.alloc (.cells #[.pointer (some ⟨g, 3, none⟩), .int .i64 1] 252 (0, 0)) = y := ⟨_, rfl⟩
          rw [hy] at hA2 hB2 hN2 hF2 ⊢
          have e0 : y.cell? ⟨gs, 0, none⟩ = some (.pointer (some ⟨g, 3, none⟩)) := (cell_of_block hN2).trans rfl
          have cg : y.cell? ⟨g, 3, none⟩ = some (.int .i64 0) := (cell_of_block hA2).trans rfl
          have fg : y.frozen? ⟨g, 3, none⟩ = false := frozen_of_block hA2
          have e1 : (y.setCell ⟨g, 3, none⟩ (.int .i64 247)).cell? ⟨gs, 1, none⟩ = some (.int .i64 1) := (cell_of_block (block_setCell_other (p := ⟨g, 3, none⟩) _ hN2 (by show gs ≠ g; omega))).trans rfl
          have HA3 : Hid ((y.setCell ⟨g, 3, none⟩ (.int .i64 247)).heap[g]? = some (.cells (plk n ni t d 2) 135 (0, 0))) := Lib.hid (block_setCell_same (i := 3) (.int .i64 247) hA2)
          have HB3 : Hid ((y.setCell ⟨g, 3, none⟩ (.int .i64 247)).heap[ga]? = some (.cells (arC g t d) 252 (0, 0))) := Lib.hid (block_setCell_other (p := ⟨g, 3, none⟩) _ hB2 (by show ga ≠ g; exact HNE.out))
          have HF3 := Lib.hid (hF2.setCell (p := ⟨g, 3, none⟩) (.inr (by rw [HG.out]; exact Nat.le_refl _)) (.int .i64 247))
          clear a0 a1 hA2 hB2 hN2 hF2 hgl hgl2 hgs hy HA HB HF
          go_wp2_with fail
          exact ⟨⟨2, by omega, rfl, rfl, HA3, HB3, HF3⟩, by simp [intOf]⟩
        · have a0 : wr.cell? ⟨ga, 4, none⟩ = some (.pointer (some ⟨g, 4, none⟩)) := (cell_of_block HB.out).trans rfl
          have a1 : wr.cell? ⟨ga, 5, none⟩ = some (.int .i64 (t : Int)) := (cell_of_block HB.out).trans rfl
          go_upto_region 15 with fail
          have hA2 := block_alloc_old (.cells #[.pointer (some ⟨g, 4, none⟩), .int .i64 (t : Int)] 252 (0, 0)) HA.out
          have hB2 := block_alloc_old (.cells #[.pointer (some ⟨g, 4, none⟩), .int .i64 (t : Int)] 252 (0, 0)) HB.out
          have hN2 := block_alloc_new wr (.cells #[.pointer (some ⟨g, 4, none⟩), .int .i64 (t : Int)] 252 (0, 0))
          have hF2 := HF.out.alloc (.cells #[.pointer (some ⟨g, 4, none⟩), .int .i64 (t : Int)] 252 (0, 0))
          have hgl := lt_of_block HA.out
          have hgl2 := lt_of_block HB.out
          obtain ⟨gs, hgs⟩ : ∃ gs, wr.heap.size = gs := ⟨_, rfl⟩
          rw [hgs] at hN2 hgl hgl2 ⊢
          obtain ⟨y, hy⟩ : ∃ y, wr.alloc (.cells #[.pointer (some ⟨g, 4, none⟩), .int .i64 (t : Int)] 252 (0, 0)) = y := ⟨_, rfl⟩
          rw [hy] at hA2 hB2 hN2 hF2 ⊢
          have e0 : y.cell? ⟨gs, 0, none⟩ = some (.pointer (some ⟨g, 4, none⟩)) := (cell_of_block hN2).trans rfl
          have cg : y.cell? ⟨g, 4, none⟩ = some (.int .i64 0) := (cell_of_block hA2).trans rfl
          have fg : y.frozen? ⟨g, 4, none⟩ = false := frozen_of_block hA2
          have e1 : (y.setCell ⟨g, 4, none⟩ (.int .i64 248)).cell? ⟨gs, 1, none⟩ = some (.int .i64 (t : Int)) := (cell_of_block (block_setCell_other (p := ⟨g, 4, none⟩) _ hN2 (by show gs ≠ g; omega))).trans rfl
          have HA3 : Hid ((y.setCell ⟨g, 4, none⟩ (.int .i64 248)).heap[g]? = some (.cells (plk n ni t d 3) 135 (0, 0))) := Lib.hid (block_setCell_same (i := 4) (.int .i64 248) hA2)
          have HB3 : Hid ((y.setCell ⟨g, 4, none⟩ (.int .i64 248)).heap[ga]? = some (.cells (arC g t d) 252 (0, 0))) := Lib.hid (block_setCell_other (p := ⟨g, 4, none⟩) _ hB2 (by show ga ≠ g; exact HNE.out))
          have HF3 := Lib.hid (hF2.setCell (p := ⟨g, 4, none⟩) (.inr (by rw [HG.out]; exact Nat.le_refl _)) (.int .i64 248))
          clear a0 a1 hA2 hB2 hN2 hF2 hgl hgl2 hgs hy HA HB HF
          go_wp2_with fail
          exact ⟨⟨3, by omega, rfl, rfl, HA3, HB3, HF3⟩, by simp [intOf]⟩
        · have a0 : wr.cell? ⟨ga, 6, none⟩ = some (.pointer (some ⟨g, 5, none⟩)) := (cell_of_block HB.out).trans rfl
          have a1 : wr.cell? ⟨ga, 7, none⟩ = some (.int .i64 (d : Int)) := (cell_of_block HB.out).trans rfl
          go_upto_region 15 with fail
          have hA2 := block_alloc_old (.cells #[.pointer (some ⟨g, 5, none⟩), .int .i64 (d : Int)] 252 (0, 0)) HA.out
          have hB2 := block_alloc_old (.cells #[.pointer (some ⟨g, 5, none⟩), .int .i64 (d : Int)] 252 (0, 0)) HB.out
          have hN2 := block_alloc_new wr (.cells #[.pointer (some ⟨g, 5, none⟩), .int .i64 (d : Int)] 252 (0, 0))
          have hF2 := HF.out.alloc (.cells #[.pointer (some ⟨g, 5, none⟩), .int .i64 (d : Int)] 252 (0, 0))
          have hgl := lt_of_block HA.out
          have hgl2 := lt_of_block HB.out
          obtain ⟨gs, hgs⟩ : ∃ gs, wr.heap.size = gs := ⟨_, rfl⟩
          rw [hgs] at hN2 hgl hgl2 ⊢
          obtain ⟨y, hy⟩ : ∃ y, wr.alloc (.cells #[.pointer (some ⟨g, 5, none⟩), .int .i64 (d : Int)] 252 (0, 0)) = y := ⟨_, rfl⟩
          rw [hy] at hA2 hB2 hN2 hF2 ⊢
          have e0 : y.cell? ⟨gs, 0, none⟩ = some (.pointer (some ⟨g, 5, none⟩)) := (cell_of_block hN2).trans rfl
          have cg : y.cell? ⟨g, 5, none⟩ = some (.int .i64 0) := (cell_of_block hA2).trans rfl
          have fg : y.frozen? ⟨g, 5, none⟩ = false := frozen_of_block hA2
          have e1 : (y.setCell ⟨g, 5, none⟩ (.int .i64 (248 + (t : Int)))).cell? ⟨gs, 1, none⟩ = some (.int .i64 (d : Int)) := (cell_of_block (block_setCell_other (p := ⟨g, 5, none⟩) _ hN2 (by show gs ≠ g; omega))).trans rfl
          have HA3 : Hid ((y.setCell ⟨g, 5, none⟩ (.int .i64 (248 + (t : Int)))).heap[g]? = some (.cells (plk n ni t d 4) 135 (0, 0))) := Lib.hid (block_setCell_same (i := 5) (.int .i64 (248 + (t : Int))) hA2)
          have HB3 : Hid ((y.setCell ⟨g, 5, none⟩ (.int .i64 (248 + (t : Int)))).heap[ga]? = some (.cells (arC g t d) 252 (0, 0))) := Lib.hid (block_setCell_other (p := ⟨g, 5, none⟩) _ hB2 (by show ga ≠ g; exact HNE.out))
          have HF3 := Lib.hid (hF2.setCell (p := ⟨g, 5, none⟩) (.inr (by rw [HG.out]; exact Nat.le_refl _)) (.int .i64 (248 + (t : Int))))
          clear a0 a1 hA2 hB2 hN2 hF2 hgl hgl2 hgs hy HA HB HF
          go_wp2_with fail
          exact ⟨⟨4, by omega, rfl, rfl, HA3, HB3, HF3⟩, by simp [intOf]⟩
      · obtain rfl : k = 4 := by omega
        have HB4' : Hid (wr.heap[b4]? = some (.cells (plz 0 0 0 0 0 0 0) 135 (0, 0))) := Lib.hid ((HF.out.block b4 (lt_of_block HB0.out) (fun e => e)).trans HB0.out)
        have HE := Lib.hid (setRow_heap _ _ _ (plz n ni 246 247 248 (248 + (t : Int)) d) _ _ HB4'.out)
        have HFE := Lib.hid ((HF0.out.trans HF.out fun _ _ e => e).setRowNew (g := b4) (by rw [HB4.out]; exact Nat.le_refl _) (plz n ni 246 247 248 (248 + (t : Int)) d))
        have HA4 : Hid (wr.heap[g]? = some (.cells (plz n ni 246 247 248 (248 + (t : Int)) d) 135 (0, 0))) := HA
        clear HA HB HF
        go_wp2_with (first | (refine loadPln rfl _ rfl g rfl n ni 246 247 248 (248 + (t : Int)) d HA4.out ?_) | (refine storePln rfl _ _ rfl b4 n ni 246 247 248 (248 + (t : Int)) d rfl rfl _ rfl HB4'.out ?_))
        have hld := run_loadVar_row (P := Tryz.prog) _ b4 135 135 (plz n ni 246 247 248 (248 + (t : Int)) d) (0, 0) _ HE.out Tryz.underlying135 rfl (infoPln _ _ _ _ _ _ _)
        exact bodyPost_ret (v := .tuple #[.agg (plz n ni 246 247 248 (248 + (t : Int)) d), .int .i64 0]) (results_ct Tryz.results88 _ _ ⟨b4, 0, none⟩ rfl _ hld) rfl ⟨rfl, HFE.out⟩
def magicB : ByteArray := ⟨#[66, 79, 76, 76, 65, 82, 68, 83]⟩
def encW : Blk := magicB.data.toList ++ List.replicate 504 0
def encN (f : Nat → Nat) : Nat → Blk
  | 0 => encW
  | k + 1 => putLE (encN f k) (8 + 4 * k) 4 (f k)
def Pl.num (P : Pl) : Nat → Nat := fun k => if k = 0 then P.n else if k = 1 then P.ni else if k = 2 then P.im else if k = 3 then P.bm else if k = 4 then P.tb else if k = 5 then P.da else P.dc
def encP (P : Pl) : Blk := putLE (encN P.num 7) 36 4 (crcS ((encN P.num 7).take 36))
theorem encW_len : encW.length = 512 := by
  unfold encW
  rw [List.length_append, List.length_replicate]
  rfl
theorem encN_len (f : Nat → Nat) : ∀ k, k ≤ 7 → (encN f k).length = 512
  | 0, _ => encW_len
  | k + 1, h => by
    have ih := encN_len f k (by omega)
    exact (putLE_length _ _ _ _ (by rw [ih]; omega)).trans ih
theorem encP_len (P : Pl) : (encP P).length = 512 := by
  have ih := encN_len P.num 7 (Nat.le_refl _)
  exact (putLE_length _ _ _ _ (by rw [ih]; omega)).trans ih
theorem PlOk.num {P : Pl} (h : PlOk P) (k : Nat) : P.num k < 4294967296 := by
  have h1 := h.n; have h2 := h.ni; have h3 := h.dc; have h4 := h.im; have h5 := h.bm; have h6 := h.tb; have h7 := h.da; have h8 := h.all
  unfold Pl.num
  repeat' split
  all_goals omega
theorem magic_cells : ((madeCells #[.int .u8 0] 512).toList.take 0 ++ Lib.byteCells magicB.data.toList ++ (madeCells #[.int .u8 0] 512).toList.drop (0 + magicB.size)).toArray = (encW.map B8).toArray := by
  kernel_rfl
theorem encAt (w : World) (g : Nat) (hg : w.heap[g]? = some (.cells (madeCells #[.int .u8 0] 512) 5 (0, 0))) (R : Nat → Prop) (hR : R g) : BytesAt (w.setRow g (encW.map B8).toArray) (.slice (some ⟨g, 0, none⟩) 512 512) encW R := by
  refine ⟨g, 0, 512, (encW.map B8).toArray, by rw [encW_len], by rw [encW_len]; omega, ⟨5, by decide, setRow_heap _ _ _ _ _ _ hg⟩, fun i hi => ?_, hR⟩
  rw [List.getElem?_toArray, List.getElem?_map, Nat.zero_add, List.getD_eq_getElem?_getD, List.getElem?_eq_getElem hi]
  rfl
set_option maxHeartbeats 2000000 in
set_option maxRecDepth 100000 in
theorem l_Encode (w : World) (P : Pl) (h : PlOk P) :
    Calls Tryz.prog 93 #[.agg (plC P)] w fun e w' => ∃ g o c, e = .returned (.slice (some ⟨g, o, none⟩) 512 c) ∧ BytesAt w' (.slice (some ⟨g, o, none⟩) 512 c) (encP P) (Fresh w) ∧ Frm NoB w w' := by
  have HNUM := Lib.hid h.num
  have hP : plC P = #[.int .i64 P.n, .int .i64 P.ni, .int .i64 P.im, .int .i64 P.bm, .int .i64 P.tb, .int .i64 P.da, .int .i64 P.dc] := rfl
  have HCS := Lib.hid (crcS_eq ((encN P.num 7).take 36)).2
  have HEP : Hid (encP P = putLE (encN P.num 7) 36 4 (crcS ((encN P.num 7).take 36))) := Lib.hid rfl
  generalize encP P = ep at *
  have hf0 := (Frm.refl NoB w).alloc (.cells (plC P) 135 (0, 0))
  have hb0 := block_alloc_new w (.cells (plC P) 135 (0, 0))
  obtain ⟨y0, hy0⟩ : ∃ y0, w.alloc (.cells (plC P) 135 (0, 0)) = y0 := ⟨_, rfl⟩
  rw [hy0] at hf0 hb0
  obtain ⟨b1, hb1⟩ : ∃ b1, w.heap.size = b1 := ⟨_, rfl⟩
  rw [hb1] at hb0
  rw [hP] at hb0 hy0 ⊢
  have HY0 := Lib.hid (And.intro hy0 hb1)
  have HF0 := Lib.hid hf0
  have HB0 := Lib.hid hb0
  have hmk : ∀ W, (Instr.makeSlice 76 (.int .i64 512) (.int .i64 512)).run Tryz.prog W = .ok (.slice (some ⟨W.heap.size, 0, none⟩) 512 512) (W.alloc (.cells (madeCells #[.int .u8 0] 512) 5 (0, 0))) := run_makeN 512 (by omega)
  clear h hP hf0 hb0 hy0 hb1
  go_enter Tryz.func93, Tryz.ntmps93
  go_upto_region 1 with fail
  rw [HY0.out.1, HY0.out.2]
  go_upto_region 2 with fail
  have hn := block_alloc_new y0 (.cells (madeCells #[.int .u8 0] 512) 5 (0, 0))
  have hf1 := HF0.out.alloc (.cells (madeCells #[.int .u8 0] 512) 5 (0, 0))
  have hb1 := block_alloc_old (.cells (madeCells #[.int .u8 0] 512) 5 (0, 0)) HB0.out
  have hsz := HF0.out.size
  obtain ⟨g, hg⟩ : ∃ g, y0.heap.size = g := ⟨_, rfl⟩
  have hbl := lt_of_block HB0.out
  rw [hg] at hn hsz hbl ⊢
  obtain ⟨y1, hy1⟩ : ∃ y1, y0.alloc (.cells (madeCells #[.int .u8 0] 512) 5 (0, 0)) = y1 := ⟨_, rfl⟩
  rw [hy1] at hn hf1 hb1 ⊢
  have hcp : ∀ ty c, (Builtin.copy_ #[76, 9] ty #[.slice (some ⟨g, 0, none⟩) 512 c, .string ⟨#[66, 79, 76, 76, 65, 82, 68, 83]⟩]).run Tryz.prog y1 = .ok (goInt 8) (y1.setRow g (encW.map B8).toArray) := fun ty c => by
    have := Lib.run_copy_row_string (P := Tryz.prog) y1 76 9 ty 5 g 0 512 c magicB _ 5 Tryz.underlying76 (by kernel_rfl) hn (by decide) (by rw [size_madeCells]; decide)
    rw [magic_cells] at this
    exact this
  have hb2 := encAt y1 g hn (Fresh w) (show w.heap.size ≤ g by have := HF0.out.size; omega)
  have hf2 := hf1.setRowNew (g := g) (show w.heap.size ≤ g by have := HF0.out.size; omega) (encW.map B8).toArray
  have hp2 := (setRow_other y1 g b1 (encW.map B8).toArray (by omega)).trans hb1
  have HB2 := Lib.hid hb2
  have HF2 := Lib.hid hf2
  have HP2 := Lib.hid hp2
  clear hb2 hf2 hp2 hn hf1 hb1 hsz hbl hy1 hg hmk HF0 HB0 HY0
  go_upto_region 3 with fail
  clear hcp
  obtain ⟨y2, hy2⟩ : ∃ y2, y1.setRow g (encW.map B8).toArray = y2 := ⟨_, rfl⟩
  rw [hy2] at HB2 HF2 HP2 ⊢
  clear hy2
  have d0 : y2.cell? ⟨b1, 0, none⟩ = some (.int .i64 P.n) := (cell_of_block HP2.out).trans rfl
  have d1 : y2.cell? ⟨b1, 1, none⟩ = some (.int .i64 P.ni) := (cell_of_block HP2.out).trans rfl
  have d2 : y2.cell? ⟨b1, 2, none⟩ = some (.int .i64 P.im) := (cell_of_block HP2.out).trans rfl
  have d3 : y2.cell? ⟨b1, 3, none⟩ = some (.int .i64 P.bm) := (cell_of_block HP2.out).trans rfl
  have d4 : y2.cell? ⟨b1, 4, none⟩ = some (.int .i64 P.tb) := (cell_of_block HP2.out).trans rfl
  have d5 : y2.cell? ⟨b1, 5, none⟩ = some (.int .i64 P.da) := (cell_of_block HP2.out).trans rfl
  have d6 : y2.cell? ⟨b1, 6, none⟩ = some (.int .i64 P.dc) := (cell_of_block HP2.out).trans rfl
  go_upto_region 4 with fail
  have hn3 := block_alloc_new y2 (.cells #[.int .i64 P.n, .int .i64 P.ni, .int .i64 P.im, .int .i64 P.bm, .int .i64 P.tb, .int .i64 P.da, .int .i64 P.dc] 3 (0, 0))
  have hf3 := HF2.out.alloc (.cells #[.int .i64 P.n, .int .i64 P.ni, .int .i64 P.im, .int .i64 P.bm, .int .i64 P.tb, .int .i64 P.da, .int .i64 P.dc] 3 (0, 0))
  have hb3 := HB2.out.frm0 ((Frm.refl NoB y2).alloc (.cells #[.int .i64 P.n, .int .i64 P.ni, .int .i64 P.im, .int .i64 P.bm, .int .i64 P.tb, .int .i64 P.da, .int .i64 P.dc] 3 (0, 0)))
  obtain ⟨y3, hy3⟩ : ∃ y3, y2.alloc (.cells #[.int .i64 P.n, .int .i64 P.ni, .int .i64 P.im, .int .i64 P.bm, .int .i64 P.tb, .int .i64 P.da, .int .i64 P.dc] 3 (0, 0)) = y3 := ⟨_, rfl⟩
  obtain ⟨ga, hga⟩ : ∃ ga, y2.heap.size = ga := ⟨_, rfl⟩
  rw [hga] at hn3 ⊢
  rw [hy3] at hn3 hf3 hb3 ⊢
  have HN3 := Lib.hid hn3
  have HF3 := Lib.hid hf3
  have HB3 := Lib.hid hb3
  clear hn3 hf3 hb3 hy3 hga d0 d1 d2 d3 d4 d5 d6 HB2 HF2 HP2
  go_loopw [3, 4, 5, 25] (fun t3 _ _ t25 wr => ∃ k gg oo cc : Nat, k ≤ 7 ∧ t25 = .int .i64 k ∧ t3 = .slice (some ⟨gg, oo, none⟩) 512 cc ∧ Hid (BytesAt wr (.slice (some ⟨gg, oo, none⟩) 512 cc) (encN P.num k) (Fresh w)) ∧ Hid (wr.heap[ga]? = some (.cells #[.int .i64 P.n, .int .i64 P.ni, .int .i64 P.im, .int .i64 P.bm, .int .i64 P.tb, .int .i64 P.da, .int .i64 P.dc] 3 (0, 0))) ∧ Hid (Frm NoB w wr)) (fun _ _ _ t25 _ => 7 - (intOf t25).toNat)
  case atStart => exact ⟨0, g, 0, 512, by omega, rfl, rfl, HB3, HN3, HF3⟩
  case round =>
    clear HB3 HN3 HF3
    obtain ⟨k, gg, oo, cc, hk, rfl, rfl, HB, HN, HF⟩ := hrel
    have k0 : (0 : Int) ≤ (k : Int) := Int.natCast_nonneg _
    have hlen := encN_len P.num k hk
    by_cases hk7 : k < 7
    · have k7 : (k : Int) < 7 := by omega
      have ca : wr.cell? ⟨ga, k, none⟩ = some (.int .i64 (P.num k)) := by
        refine (cell_of_block HN.out).trans ?_
        rcases (by omega : k = 0 ∨ k = 1 ∨ k = 2 ∨ k = 3 ∨ k = 4 ∨ k = 5 ∨ k = 6) with rfl | rfl | rfl | rfl | rfl | rfl | rfl <;> rfl
      have hnk := HNUM.out k
      have HPT := Lib.hid (bitsPut_any wr _ (encN P.num k) (8 + 4 * k) 4 (P.num k) (Fresh w) HB.out (by omega) (by omega) (by rw [hlen]; omega) (by rw [hlen]; omega) (by omega))
      rw [show ((8 + 4 * k : Nat) : Int) = 8 + 4 * (k : Int) by omega] at HPT
      have HEN : Hid (encN P.num (k + 1) = putLE (encN P.num k) (8 + 4 * k) 4 (P.num k)) := Lib.hid rfl
      have v0 : (0 : Int) ≤ (P.num k : Int) := Int.natCast_nonneg _
      have v1 : (P.num k : Int) < 4294967296 := by omega
      have hln : (putLE (encN P.num k) (8 + 4 * k) 4 (P.num k)).length = 512 := (putLE_length _ _ _ _ (by rw [hlen]; omega)).trans hlen
      have HLN := Lib.hid hln
      clear hlen hnk hln
      generalize P.num k = nk at *
      go_wp2_with fail
      refine HPT.out.mono ?_
      clear HPT ca
      rintro e w2 ⟨hf2, v2, rfl, hb2⟩
      obtain ⟨g2, o2, c2, rfl, -, -, -⟩ := hb2.cells
      rw [HLN.out] at hb2 ⊢
      have HB2 : Hid (BytesAt w2 (.slice (some ⟨g2, o2, none⟩) 512 c2) (encN P.num (k + 1)) (Fresh w)) := Lib.hid (by
        rw [HEN.out]
        exact hb2.mono fun x _ hx => Nat.le_trans HF.out.size hx)
      have HN2 := Lib.hid ((hf2.block ga (lt_of_block HN.out) (fun e => e)).trans HN.out)
      have HF2 := Lib.hid (HF.out.trans hf2 fun _ _ e => e)
      clear hf2 hb2 HB HN HF
      go_wp2_with fail
      exact ⟨⟨k + 1, g2, o2, c2, hk7, by go_num, rfl, HB2, HN2, HF2⟩, by simp [intOf]; omega⟩
    · obtain rfl : k = 7 := by omega
      have h36 : ((encN P.num 7).take 36).length = 36 := by rw [List.length_take, hlen]; rfl
      have hsl : SliceOf wr (.slice (some ⟨gg, oo, none⟩) 36 cc) ((encN P.num 7).take 36) := by
        obtain ⟨blk, off, cap, e, -, hc, -⟩ := HB.out.cells
        cases e
        refine ⟨_, cc, by rw [h36], fun i x hx => ⟨gg, oo, rfl, ?_, ?_⟩⟩
        · obtain ⟨_, _, _, _, e2, _, h3, _⟩ := HB.out
          cases e2
          exact h3.lt
        · rw [List.getElem?_take] at hx
          split at hx
          · have := hc i (B8 x) (by rw [List.getElem?_map, hx]; rfl)
            rw [show ((⟨gg, oo, none⟩ : Addr).add i) = ⟨gg, oo + i, none⟩ by
              unfold Addr.add
              split
              · rename_i h0; subst h0; rfl
              · rfl] at this
            exact this
          · cases hx
      have HCR := Lib.hid (crc_Sum wr _ _ hsl (by rw [h36]; omega))
      have hcs := HCS.out
      have HPT := Lib.hid (bitsPut_any wr _ (encN P.num 7) 36 4 (crcS ((encN P.num 7).take 36)) (Fresh w) HB.out (by omega) (by omega) (by rw [hlen]; omega) (by rw [hlen]; omega) (by omega))
      have hln : (putLE (encN P.num 7) 36 4 (crcS ((encN P.num 7).take 36))).length = 512 := (putLE_length _ _ _ _ (by rw [hlen]; omega)).trans hlen
      rw [← HEP.out] at HPT hln
      have HLN := Lib.hid hln
      have v0 : (0 : Int) ≤ (crcS ((encN P.num 7).take 36) : Int) := Int.natCast_nonneg _
      have v1 : (crcS ((encN P.num 7).take 36) : Int) < 4294967296 := by omega
      have hcap : 512 ≤ cc := by
        obtain ⟨_, _, _, _, e2, h2, _⟩ := HB.out
        cases e2
        rw [hlen] at h2
        exact h2
      have hcap2 : (36 : Int) ≤ (cc : Int) := by omega
      clear h36 hsl hlen hln hcs HEP HCS hcap
      generalize crcS ((encN P.num 7).take 36) = cr at *
      go_wp2_with fail
      refine HCR.out.mono ?_
      rintro e w1 ⟨rfl, rfl⟩
      go_wp2_with fail
      refine HPT.out.mono ?_
      clear HPT HCR
      rintro e w2 ⟨hf2, v2, rfl, hb2⟩
      obtain ⟨g2, o2, c2, rfl, -, -, -⟩ := hb2.cells
      rw [HLN.out] at hb2 ⊢
      have HB2 := Lib.hid (hb2.mono (R' := Fresh w) fun x _ hx => Nat.le_trans HF.out.size hx)
      have HF2 := Lib.hid (HF.out.trans hf2 fun _ _ e => e)
      clear hf2 hb2 HB HN HF
      go_wp2_with fail
      go_ret
      exact ⟨g2, o2, c2, rfl, HB2.out, HF2.out⟩
theorem SliceOf.conv {w : World} {v : Value} {b : Blk} (h : SliceOf w v b) (hb : b ≠ []) : (convert 76 9 v).run Tryz.prog w = .ok (.string ⟨b.toArray⟩) w := by
  obtain ⟨a, cap, rfl, hc⟩ := h
  have h0 : 0 < b.length := List.length_pos_iff.2 hb
  obtain ⟨g, o, rfl, _, _⟩ := hc 0 b[0] (List.getElem?_eq_getElem h0)
  refine run_convert_bytes_back w _ _ 5 ⟨g, o, none⟩ cap b Tryz.underlying76 Tryz.underlying5 Tryz.underlying9 fun j hj => ?_
  obtain ⟨g', o', e, _, hcell⟩ := hc j b[j] (List.getElem?_eq_getElem hj)
  cases e
  rw [show ((⟨g, o, none⟩ : Addr).add j) = ⟨g, o + j, none⟩ by
    unfold Addr.add
    split
    · rename_i h0; subst h0; rfl
    · rfl]
  exact hcell
theorem y_Equal (w : World) (v1 v2 : Value) (b1 b2 : Blk) (h1 : SliceOf w v1 b1) (h2 : SliceOf w v2 b2) (n1 : b1 ≠ []) (n2 : b2 ≠ []) :
    Calls Tryz.prog 125 #[v1, v2] w fun e w' => w = w' ∧ e = .returned (.bool (b1 == b2)) := by
  have c1 := h1.conv n1
  have c2 := h2.conv n2
  have e1 : (⟨b1.toArray⟩ : ByteArray).toList = b1 := by rw [Go.Lib.toList_data]
  have e2 : (⟨b2.toArray⟩ : ByteArray).toList = b2 := by rw [Go.Lib.toList_data]
  have HE := Lib.hid (And.intro e1 e2)
  clear h1 h2 n1 n2 e1 e2
  go_enter Tryz.func125, Tryz.ntmps125
  go_wp2_with fail
  go_ret
  exact ⟨rfl, rfl⟩
theorem encN_get (f : Nat → Nat) (hf : ∀ k, f k < 4294967296) : ∀ k j, j < k → k ≤ 7 → getLE (encN f k) (8 + 4 * j) 4 = f j
  | 0, j, h, _ => by omega
  | k + 1, j, h, hk => by
    have hl := encN_len f k (by omega)
    show getLE (putLE (encN f k) (8 + 4 * k) 4 (f k)) (8 + 4 * j) 4 = f j
    by_cases e : j = k
    · subst e
      exact getLE_putLE_same _ _ 4 _ (by rw [hl]; omega) (by have := hf j; omega)
    · rw [getLE_putLE_other _ _ _ _ _ _ (by rw [hl]; omega) (by omega)]
      exact encN_get f hf k j (by omega) (by omega)
theorem encP_get {P : Pl} (h : PlOk P) (j : Nat) (hj : j < 7) : getLE (encP P) (8 + 4 * j) 4 = P.num j := by
  unfold encP
  rw [getLE_putLE_other _ _ _ _ _ _ (by rw [encN_len P.num 7 (Nat.le_refl _)]; omega) (by omega)]
  exact encN_get P.num h.num 7 j hj (Nat.le_refl _)
set_option maxHeartbeats 2000000 in
set_option maxRecDepth 100000 in
theorem l_Decode (w : World) (v : Value) (n ni : Nat) (hf : PlanFit n ni) {R : Nat → Prop} (hv : BytesAt w v (encP (planOf n ni)) R) :
    Calls Tryz.prog 65 #[v] w fun e w' => e = .returned (.tuple #[.agg (plC (planOf n ni)), .int .i64 0]) ∧ Frm NoB w w' := by
  have hok := hf.ok
  have hlen := encP_len (planOf n ni)
  have KG : Hid (∀ y, Frm NoB w y → Calls Tryz.prog 147 #[v, .int .i64 8, .int .i64 4, .bool false] y fun e w' => y = w' ∧ e = .returned (.tuple #[.int .u64 n, .bool true])) := Lib.hid fun y hy => by
    have := bitsGet_any y v _ 8 4 (hv.frm0 hy).sliceOf (by omega) (by omega) (by rw [hlen]; omega) (by rw [hlen]; omega)
    rw [encP_get hok 0 (by omega)] at this
    exact this
  have KG2 : Hid (∀ y, Frm NoB w y → Calls Tryz.prog 147 #[v, .int .i64 12, .int .i64 4, .bool false] y fun e w' => y = w' ∧ e = .returned (.tuple #[.int .u64 ni, .bool true])) := Lib.hid fun y hy => by
    have := bitsGet_any y v _ 12 4 (hv.frm0 hy).sliceOf (by omega) (by omega) (by rw [hlen]; omega) (by rw [hlen]; omega)
    rw [encP_get hok 1 (by omega)] at this
    exact this
  have KM : Hid (∀ y, Calls Tryz.prog 88 #[.int .i64 n, .int .i64 ni] y fun e w' => e = .returned (.tuple #[.agg (plC (planOf n ni)), .int .i64 0]) ∧ Frm NoB y w') := Lib.hid fun y => l_Make y n ni hf
  have KE : Hid (∀ y, Calls Tryz.prog 93 #[.agg (plC (planOf n ni))] y fun e w' => ∃ g o c, e = .returned (.slice (some ⟨g, o, none⟩) 512 c) ∧ BytesAt w' (.slice (some ⟨g, o, none⟩) 512 c) (encP (planOf n ni)) (Fresh y) ∧ Frm NoB y w') := Lib.hid fun y => l_Encode y _ hok
  have KQ : Hid (∀ y v1 R', Frm NoB w y → BytesAt y v1 (encP (planOf n ni)) R' → Calls Tryz.prog 125 #[v1, v] y fun e w' => y = w' ∧ e = .returned (.bool true)) := Lib.hid fun y v1 R' hy h1 => by
    have hne : encP (planOf n ni) ≠ [] := fun e => by rw [e] at hlen; exact absurd hlen (by decide)
    have := y_Equal y v1 v _ _ h1.sliceOf (hv.frm0 hy).sliceOf hne hne
    rw [beq_self_eq_true] at this
    exact this
  obtain ⟨p1, p2, p3, p4, p5, p6, p7, hpl⟩ : ∃ p1 p2 p3 p4 p5 p6 p7 : Int, plC (planOf n ni) = plz p1 p2 p3 p4 p5 p6 p7 := ⟨_, _, _, _, _, _, _, rfl⟩
  obtain ⟨va, vl, vc, hvv⟩ : ∃ va vl vc, v = .slice va vl vc := by
    obtain ⟨_, _, _, _, e, _⟩ := hv
    exact ⟨_, _, _, e⟩
  have n0 : (0 : Int) ≤ (n : Int) := Int.natCast_nonneg _
  have n1 : (n : Int) ≤ 65536 := by have := hok.n; have : (planOf n ni).n = n := rfl; omega
  have i0 : (0 : Int) ≤ (ni : Int) := Int.natCast_nonneg _
  have i1 : (ni : Int) ≤ 4096 := by have := hf.h1; omega
  clear hf hv hok hlen
  rw [hpl] at KM KE ⊢
  generalize encP (planOf n ni) = ep at *
  clear hpl
  subst hvv
  have hf0 := (Frm.refl NoB w).alloc (.cells (plz 0 0 0 0 0 0 0) 135 (0, 0))
  have hb0 := block_alloc_new w (.cells (plz 0 0 0 0 0 0 0) 135 (0, 0))
  obtain ⟨y0, hy0⟩ : ∃ y0, w.alloc (.cells (plz 0 0 0 0 0 0 0) 135 (0, 0)) = y0 := ⟨_, rfl⟩
  obtain ⟨b2, hb2⟩ : ∃ b2, w.heap.size = b2 := ⟨_, rfl⟩
  rw [hy0] at hf0 hb0
  rw [hb2] at hb0
  have HF0 := Lib.hid hf0
  have HB0 := Lib.hid hb0
  have HY0 := Lib.hid (And.intro hy0 hb2)
  clear hf0 hb0 hy0 hb2
  go_enter Tryz.func65, Tryz.ntmps65
  go_upto_region 1 with (refine allocRow rfl _ _ zeroPln rfl ?_)
  rw [HY0.out.1, HY0.out.2]
  go_wp2_with fail
  refine (KG.out y0 HF0.out).mono ?_
  rintro e w1 ⟨rfl, rfl⟩
  go_wp2_with fail
  refine (KG2.out y0 HF0.out).mono ?_
  rintro e w2 ⟨rfl, rfl⟩
  go_wp2_with fail
  refine (KM.out y0).mono ?_
  clear KG KG2 KM
  rintro e w3 ⟨rfl, hf3⟩
  have hn3 := block_alloc_new w3 (.cells (plz 0 0 0 0 0 0 0) 135 (0, 0))
  have HN3 := Lib.hid hn3
  have HR3 := Lib.hid (setRow_heap _ _ _ (plz p1 p2 p3 p4 p5 p6 p7) _ _ hn3)
  have hf4 : Frm NoB w3 ((w3.alloc (.cells (plz 0 0 0 0 0 0 0) 135 (0, 0))).setRow w3.heap.size (plz p1 p2 p3 p4 p5 p6 p7)) := ((Frm.refl NoB w3).alloc _).setRowNew (Nat.le_refl _) _
  have HF4 := Lib.hid ((HF0.out.trans hf3 fun _ _ e => e).trans hf4 fun _ _ e => e)
  have HB4 := Lib.hid (((hf3.trans hf4 fun _ _ e => e).block b2 (lt_of_block HB0.out) (fun e => e)).trans HB0.out)
  clear hf3 hf4 hn3
  go_upto_region 4 with (first | (refine allocRow rfl _ _ zeroPln rfl ?_) | (refine storePln rfl _ _ rfl w3.heap.size p1 p2 p3 p4 p5 p6 p7 rfl rfl _ rfl HN3.out ?_))
  show Code.wp Tryz.prog _ _ _ ((w3.alloc (.cells (plz 0 0 0 0 0 0 0) 135 (0, 0))).setRow w3.heap.size (plz p1 p2 p3 p4 p5 p6 p7))
  obtain ⟨y4, hy4⟩ : ∃ y4, (w3.alloc (.cells (plz 0 0 0 0 0 0 0) 135 (0, 0))).setRow w3.heap.size (plz p1 p2 p3 p4 p5 p6 p7) = y4 := ⟨_, rfl⟩
  rw [hy4] at HR3 HF4 HB4 ⊢
  clear hy4 HN3
  obtain ⟨g8, hg8⟩ : ∃ g8, w3.heap.size = g8 := ⟨_, rfl⟩
  rw [hg8] at HR3 ⊢
  clear hg8
  go_wp2_with (refine loadPln rfl _ rfl g8 rfl p1 p2 p3 p4 p5 p6 p7 HR3.out ?_)
  refine (KE.out y4).mono ?_
  clear KE
  rintro e w5 ⟨g5, o5, c5, rfl, hb5, hf5⟩
  have HQ := Lib.hid (KQ.out w5 _ _ (HF4.out.trans hf5 fun _ _ e => e) hb5)
  have HR5 := Lib.hid ((hf5.block g8 (lt_of_block HR3.out) (fun e => e)).trans HR3.out)
  have HB5 := Lib.hid ((hf5.block b2 (lt_of_block HB4.out) (fun e => e)).trans HB4.out)
  have HF5 := Lib.hid (HF4.out.trans hf5 fun _ _ e => e)
  clear hf5 hb5 KQ HR3 HB4 HF4
  go_wp2_with fail
  refine HQ.out.mono ?_
  clear HQ
  rintro e w6 ⟨rfl, rfl⟩
  have HE := Lib.hid (setRow_heap _ _ _ (plz p1 p2 p3 p4 p5 p6 p7) _ _ HB5.out)
  have HFE := Lib.hid (HF5.out.setRowNew (g := b2) (by rw [← HY0.out.2]; exact Nat.le_refl _) (plz p1 p2 p3 p4 p5 p6 p7))
  go_wp2_with (first | (refine loadPln rfl _ rfl g8 rfl p1 p2 p3 p4 p5 p6 p7 HR5.out ?_) | (refine storePln rfl _ _ rfl b2 p1 p2 p3 p4 p5 p6 p7 rfl rfl _ rfl HB5.out ?_))
  have hld := run_loadVar_row (P := Tryz.prog) _ b2 135 135 (plz p1 p2 p3 p4 p5 p6 p7) (0, 0) _ HE.out Tryz.underlying135 rfl (infoPln _ _ _ _ _ _ _)
  exact bodyPost_ret (v := .tuple #[.agg (plz p1 p2 p3 p4 p5 p6 p7), .int .i64 0]) (results_ct Tryz.results65 _ _ ⟨b2, 0, none⟩ rfl _ hld) rfl ⟨rfl, HFE.out⟩
end
section
open Go.ChangeMaps Go.MapKept Go.RowKit
variable {w0 : Gnd} {w : World} {rs : List Res}
theorem a_New (h : St w0 w rs) (cb : Nat) (P : Pl) : Calls Tryz.prog 149 #[.pointer (some ⟨cb, 0, none⟩), .agg (plC P)] w fun e w' => ∃ ab, e = .returned (.pointer (some ⟨ab, 0, none⟩)) ∧ St w0 w' (arr ab (Value.pointer (some ⟨cb, 0, none⟩) :: P.cells).toArray 266 neAl :: rs) := by
  have H1 := Lib.hid (((h.newArr (plC P) 135 nePln).newArr (Value.pointer (some ⟨cb, 0, none⟩) :: P.cells).toArray 266 neAl).sub (rs' := _ :: rs) (List.Sublist.cons_cons _ (List.Sublist.cons _ (List.Sublist.refl _))))
  simp only [size_alloc] at H1
  have hP : plC P = #[.int .i64 P.n, .int .i64 P.ni, .int .i64 P.im, .int .i64 P.bm, .int .i64 P.tb, .int .i64 P.da, .int .i64 P.dc] := rfl
  rw [hP]
  clear h hP
  go_enter Tryz.func149, Tryz.ntmps149
  go_wp2_with fail
  go_ret
  exact ⟨_, rfl, H1.out⟩
theorem i_New (h : St w0 w rs) (cb ab : Nat) (P : Pl) : Calls Tryz.prog 150 #[.pointer (some ⟨cb, 0, none⟩), .pointer (some ⟨ab, 0, none⟩), .agg (plC P)] w fun e w' => ∃ sb, e = .returned (.pointer (some ⟨sb, 0, none⟩)) ∧ St w0 w' (arr sb (Value.pointer (some ⟨cb, 0, none⟩) :: Value.pointer (some ⟨ab, 0, none⟩) :: P.cells).toArray 291 neSto :: rs) := by
  have H1 := Lib.hid (((h.newArr (plC P) 135 nePln).newArr (Value.pointer (some ⟨cb, 0, none⟩) :: Value.pointer (some ⟨ab, 0, none⟩) :: P.cells).toArray 291 neSto).sub (rs' := _ :: rs) (List.Sublist.cons_cons _ (List.Sublist.cons _ (List.Sublist.refl _))))
  simp only [size_alloc] at H1
  have hP : plC P = #[.int .i64 P.n, .int .i64 P.ni, .int .i64 P.im, .int .i64 P.bm, .int .i64 P.tb, .int .i64 P.da, .int .i64 P.dc] := rfl
  rw [hP]
  clear h hP
  go_enter Tryz.func150, Tryz.ntmps150
  go_wp2_with fail
  go_ret
  exact ⟨_, rfl, H1.out⟩
theorem St.pickA {L L' : List Res} (h : St w0 w (L ++ rs)) (is : List Nat) (hn : is.Nodup) (hr : is.map (L[·]?) = L'.map some) : St w0 w (L' ++ rs) := by
  have h1 := h.perm List.perm_append_comm
  have h2 := St.shut rs h1
  have h3 := h2.pick (0 :: is.map (· + 1)) (bun rs :: L') (List.nodup_cons.2 ⟨by simp, (List.pairwise_map.2 (hn.imp fun hab e => hab (by omega)))⟩) (by
    rw [List.map_cons, List.map_cons, List.map_map]
    congr 1)
  exact h3.unshut.perm List.perm_append_comm
def sysOf (H : Hdl) (jh : JHdl) (J : JSt) (D : DSt) (cb wb ab sb : Nat) (s : Nat → Blk) (n m : Nat) (P : Pl) : Sys :=
  { H := H, jh := jh, J := J, D := D, cb := cb, wb := wb, op := false, ov := false, l := [], s := s, n := n, g := 1, m := m, ab := ab, sb := sb, P := P }
set_option maxHeartbeats 1000000 in
set_option maxRecDepth 100000 in
theorem f_stand {H : Hdl} {jh : JHdl} {J : JSt} {D : DSt} (h : St w0 w (jrn H jh J :: dev H D :: rs)) {n m : Nat} {s : Nat → Blk} {P : Pl} (hl : Live n 1 m J D s) (hP : PlOk P) (hn : P.n = n) (hm : m ≤ 1000000) (ho : D.ops ≤ 1000 + 123 * m) :
    Calls Tryz.prog 67 #[.pointer (some ⟨jh.jb, 0, none⟩), .agg (plC P)] w fun e w' => ∃ fb lb cb wb ab sb, e = .returned (.pointer (some ⟨fb, 0, none⟩)) ∧ At w0 w' (sysOf H jh J D cb wb ab sb s n m P) (fsS ⟨fb, lb, false, false, false⟩ (sysOf H jh J D cb wb ab sb s n m P) :: fsL ⟨fb, lb, false, false, false⟩ 0 (fun _ => none) :: rs) := by
  have h1 := h.newArr (plC P) 135 nePln
  have HC := Lib.hid (S_cNew h1 jh.jb)
  have KA : Hid (∀ y cb rs', St w0 y rs' → Calls Tryz.prog 149 #[.pointer (some ⟨cb, 0, none⟩), .agg (plC P)] y fun e w' => ∃ ab, e = .returned (.pointer (some ⟨ab, 0, none⟩)) ∧ St w0 w' (arr ab (Value.pointer (some ⟨cb, 0, none⟩) :: P.cells).toArray 266 neAl :: rs')) := Lib.hid fun y cb rs' hy => a_New hy cb P
  have KI : Hid (∀ y cb ab rs', St w0 y rs' → Calls Tryz.prog 150 #[.pointer (some ⟨cb, 0, none⟩), .pointer (some ⟨ab, 0, none⟩), .agg (plC P)] y fun e w' => ∃ sb, e = .returned (.pointer (some ⟨sb, 0, none⟩)) ∧ St w0 w' (arr sb (Value.pointer (some ⟨cb, 0, none⟩) :: Value.pointer (some ⟨ab, 0, none⟩) :: P.cells).toArray 291 neSto :: rs')) := Lib.hid fun y cb ab rs' hy => i_New hy cb ab P
  have hmk : ∀ W, (Instr.makeMap 106 none).run Tryz.prog W = .ok (.map (some W.heap.size)) (W.alloc (.map #[] 0)) := fun W => rfl
  have HOK : Hid (∀ cb wb ab sb, SysOk (sysOf H jh J D cb wb ab sb s n m P)) := Lib.hid fun cb wb ab sb => ⟨hl, COk.nil _, hP, hn, by show 1 ≤ 1000000; omega, hm, ho⟩
  clear h hl hP hn hm ho h1
  obtain ⟨p1, p2, p3, p4, p5, p6, p7, hpl⟩ : ∃ p1 p2 p3 p4 p5 p6 p7 : Int, plC P = plz p1 p2 p3 p4 p5 p6 p7 := ⟨_, _, _, _, _, _, _, rfl⟩
  rw [hpl] at HC KA KI ⊢
  go_enter Tryz.func67, Tryz.ntmps67
  go_wp2_with fail
  refine HC.out.mono ?_
  clear HC
  rintro e w1 ⟨cb, wb, rfl, h1⟩
  have HB1 := Lib.hid (show w1.heap[w.heap.size]? = some (.cells (plz p1 p2 p3 p4 p5 p6 p7) 135 (0, 0)) from h1.get (i := 2) rfl)
  have HA := Lib.hid (KA.out w1 cb _ h1)
  clear h1 KA
  generalize w.heap.size = b3 at *
  go_wp2_with (refine loadPln rfl _ rfl b3 rfl p1 p2 p3 p4 p5 p6 p7 HB1.out ?_)
  refine HA.out.mono ?_
  clear HA HB1
  rintro e w2 ⟨ab, rfl, h2⟩
  have HB2 := Lib.hid (show w2.heap[b3]? = some (.cells (plz p1 p2 p3 p4 p5 p6 p7) 135 (0, 0)) from h2.get (i := 3) rfl)
  have HI := Lib.hid (KI.out w2 cb ab _ h2)
  clear h2 KI
  go_wp2_with (refine loadPln rfl _ rfl b3 rfl p1 p2 p3 p4 p5 p6 p7 HB2.out ?_)
  refine HI.out.mono ?_
  clear HI HB2
  rintro e w3 ⟨sb, rfl, h3⟩
  have h4 := (h3.mapNew LeadK okL).newArr (fsC ⟨0, w3.heap.size, false, false, false⟩ (sysOf H jh J D cb wb ab sb s n m P)) 108 neFS
  have H5 : Hid (At w0 ((w3.alloc (.map #[] 0)).alloc (.cells #[.pointer (some ⟨cb, 0, none⟩), .pointer (some ⟨ab, 0, none⟩), .pointer (some ⟨sb, 0, none⟩), .bool false, .bool false, .bool false, .map (some w3.heap.size)] 108 (0, 0))) (sysOf H jh J D cb wb ab sb s n m P) (fsS ⟨w3.heap.size + 1, w3.heap.size, false, false, false⟩ (sysOf H jh J D cb wb ab sb s n m P) :: fsL ⟨w3.heap.size + 1, w3.heap.size, false, false, false⟩ 0 (fun _ => none) :: rs)) := Lib.hid ⟨St.shut (sysOf H jh J D cb wb ab sb s n m P).all (by
    simp only [size_alloc] at h4
    exact St.pickA (L := [_, _, _, _, _, _, _, _, _]) (L' := [_, _, _, _, _, _, _, _]) h4 [4, 5, 7, 8, 3, 2, 0, 1] (by decide) rfl), HOK.out cb wb ab sb⟩
  clear h3 h4 HOK
  go_wp2_with fail
  go_ret
  exact ⟨w3.heap.size + 1, w3.heap.size, cb, wb, ab, sb, rfl, H5.out⟩
end
section
open Go.ChangeMaps Go.MapKept Go.RowKit
theorem entAFmt1 : EntersF Tryz.prog 182 := entersF_of Tryz.func182 (by kernel_rfl) rfl
def oneA : Blk := 1 :: List.replicate 511 0
theorem set_same {α : Type} : ∀ (l : List α) (i : Nat) (a : α), l[i]? = some a → l.set i a = l
  | [], _, _, h => by cases h
  | x :: l, 0, a, h => by cases h; rfl
  | x :: l, i + 1, a, h => by rw [List.set_cons_succ, set_same l i a h]
theorem oneA_at (w : World) (g : Nat) (R : Nat → Prop) (hg : w.heap[g]? = some (.cells ((madeCells #[.int .u8 0] 512).setIfInBounds 0 (.int .u8 1)) 5 (0, 0))) (hR : R g) : BytesAt w (.slice (some ⟨g, 0, none⟩) 512 512) oneA R := by
  have hl : oneA.length = 512 := by unfold oneA; rw [List.length_cons, List.length_replicate]
  refine ⟨g, 0, 512, _, by rw [hl], by rw [hl]; exact Nat.le_refl _, IsC.of8 hg, fun i hi => ?_, hR⟩
  rw [hl] at hi
  rw [Nat.zero_add, ← Array.getElem?_toList, Array.toList_setIfInBounds, madeCells_one]
  cases i with
  | zero => rfl
  | succ i =>
    unfold oneA
    rw [List.getElem?_set_ne (by omega), List.getElem?_replicate, if_pos hi, List.getD_eq_getElem?_getD, List.getElem?_cons_succ, List.getElem?_replicate, if_pos (by omega)]
    rfl
end
end Go.Proofs.YtlemndledcmhiaaGreatDoor
