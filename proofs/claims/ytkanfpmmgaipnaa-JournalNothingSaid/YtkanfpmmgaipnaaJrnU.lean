/-
  Commit, Sync, Read: of a journal that lives, that is dead, that is none.
-/
import Derived.Test.YtkanfpmmgaipnaaJrnT
namespace Go.Proofs.Ytkanfpmmgaipnaa
set_option linter.unusedVariables false
open Go.ChangeMaps Go.MapKept Go.RowKit

/-! ### What may be committed, told both ways -/

theorem mayTo_iff (n : Nat) (ks : List Int) (ds : List Blk) : ∀ j, mayTo n ks ds j = true ↔ ∀ i, i < j → goodAt n ks ds i = true
  | 0 => ⟨fun _ i h => by omega, fun _ => rfl⟩
  | j + 1 => by
    unfold mayTo
    rw [Bool.and_eq_true, mayTo_iff n ks ds j]
    constructor
    · rintro ⟨h1, h2⟩ i hi
      rcases Nat.lt_or_eq_of_le (Nat.le_of_lt_succ hi) with h | h
      · exact h1 i h
      · rw [h]; exact h2
    · exact fun h => ⟨fun i hi => h i (by omega), h j (by omega)⟩

theorem mayE_cases (n : Nat) (ks : List Int) (ds : List Blk) : mayE n ks ds = 0 ∨ mayE n ks ds = 1 ∨ mayE n ks ds = 2 := by
  unfold mayE
  split
  · split
    · exact .inr (.inr rfl)
    · exact .inl rfl
  · exact .inr (.inl rfl)

theorem may_of (n : Nat) (ks : List Int) (ds : List Blk) (hl : ds.length = ks.length) (h : mayE n ks ds = 0) : ∃ ks' : List Nat, ks = ks'.map (fun k : Nat => (k : Int)) ∧ MayL n ks' ds ∧ ∀ d ∈ ds, d.length = 512 := by
  unfold mayE at h
  split at h
  · rename_i hm
    split at h
    · cases h
    · rename_i h60
      have hg := (mayTo_iff n ks ds ks.length).1 hm
      have hk : ∀ (i : Nat) (k : Int), ks[i]? = some k → 245 ≤ k ∧ k < (n : Int) ∧ (ks.take i).contains k = false := fun i k hi => by
        have h1 := hg i (List.getElem?_eq_some_iff.1 hi).1
        unfold goodAt at h1
        rw [List.getD_eq_getElem?_getD, hi] at h1
        simp only [Option.getD_some, Bool.and_eq_true, decide_eq_true_eq] at h1
        exact ⟨h1.1.1.1, h1.1.1.2, by simpa using h1.1.2⟩
      have hmap : ks = (ks.map Int.toNat).map (fun k : Nat => (k : Int)) := by
        rw [List.map_map]
        conv => lhs; rw [← List.map_id ks]
        apply List.map_congr_left
        intro k hk2
        obtain ⟨i, hi⟩ := List.getElem?_of_mem hk2
        have := (hk i k hi).1
        show k = ((k.toNat : Nat) : Int)
        omega
      refine ⟨ks.map Int.toNat, hmap, ⟨?_, ?_, ?_, ?_⟩, ?_⟩
      · intro k hk2
        obtain ⟨x, hx, rfl⟩ := List.mem_map.1 hk2
        obtain ⟨i, hi⟩ := List.getElem?_of_mem hx
        have := hk i x hi
        omega
      · rw [List.nodup_iff_pairwise_ne, List.pairwise_iff_getElem]
        intro i j hi hj hij e
        simp only [List.getElem_map] at e
        have hi' : i < ks.length := by simpa using hi
        have hj' : j < ks.length := by simpa using hj
        have a1 := hk i _ (List.getElem?_eq_getElem hi')
        have a2 := hk j _ (List.getElem?_eq_getElem hj')
        have e2 : ks[i] = ks[j] := by omega
        have : ks[j] ∈ ks.take j := by
          rw [← e2]
          exact List.mem_of_getElem? (i := i) (by rw [List.getElem?_take, if_pos hij, List.getElem?_eq_getElem hi'])
        have h3 := a2.2.2
        rw [List.contains_iff_mem.2 this] at h3
        cases h3
      · rw [List.length_map]; omega
      · rw [List.length_map]; exact hl
      · intro d hd
        obtain ⟨i, hi⟩ := List.getElem?_of_mem hd
        have h1 := hg i (by rw [← hl]; exact (List.getElem?_eq_some_iff.1 hi).1)
        unfold goodAt at h1
        simp only [Bool.and_eq_true] at h1
        have h2 := h1.2
        rw [List.getD_eq_getElem?_getD, hi] at h2
        simpa using h2
  · cases h

theorem may_is {n : Nat} {ks : List Nat} {ds : List Blk} (h : MayL n ks ds) (hd : ∀ d ∈ ds, d.length = 512) : mayE n (ks.map fun k : Nat => (k : Int)) ds = 0 := by
  unfold mayE
  have hm : mayTo n (ks.map fun k : Nat => (k : Int)) ds (ks.map fun k : Nat => (k : Int)).length = true := (mayTo_iff _ _ _ _).2 fun i hi => by
    rw [List.length_map] at hi
    have hki : ks[i]? = some ks[i] := List.getElem?_eq_getElem hi
    have hdi : ds[i]? = some (ds[i]'(by rw [h.len]; exact hi)) := List.getElem?_eq_getElem _
    have hho := h.home _ (List.getElem_mem hi)
    unfold goodAt
    rw [List.getD_eq_getElem?_getD, List.getElem?_map, hki, List.getD_eq_getElem?_getD, hdi]
    simp only [Option.map_some, Option.getD_some, Bool.and_eq_true, decide_eq_true_eq]
    refine ⟨⟨⟨by omega, by omega⟩, ?_⟩, by simpa using hd _ (List.mem_of_getElem? hdi)⟩
    rw [Bool.not_eq_true', ← Bool.not_eq_true, List.contains_iff_mem]
    intro hm
    obtain ⟨j, hj⟩ := List.getElem?_of_mem hm
    rw [List.getElem?_take] at hj
    split at hj
    · rename_i hji
      rw [List.getElem?_map, List.getElem?_eq_getElem (by omega)] at hj
      simp only [Option.map_some, Option.some.injEq] at hj
      have hp := List.pairwise_iff_getElem.1 (List.nodup_iff_pairwise_ne.1 h.nodup) j i (by omega) hi hji
      exact hp (by omega)
    · cases hj
  rw [if_pos hm, if_neg (by rw [List.length_map]; have := h.few; omega)]

/-! ### The contracts -/

section
variable {w0 w : World} {rs : List Res} {H : Hdl} {jh : JHdl} {J : JSt}

/-- Read, of a home. -/
theorem S_JR (h : St w0 w (jrn H jh J :: rs)) (a : Nat) {D : DSt} (hr : rs[a]? = some (dev H D)) (hJ : JOk D.n J) (ho : D.ops < 1000000000) (k : Int) (hk0 : 245 ≤ k) (hk1 : k < (D.n : Int)) :
    Calls Try.prog 50 #[.pointer (some ⟨jh.jb, 0, none⟩), .int .i64 k] w fun e w' => ∃ v, e = .returned (.tuple #[v, .int .i64 0]) ∧ St w0 w' (byt v (jview J D k.toNat) :: jrn H jh J :: rs) := by
  refine (S_JRead h.jOpen (a + 3) 0 1 2 hr rfl rfl rfl rfl rfl rfl rfl rfl (by have := hJ.last; omega) hJ.len hJ.few hJ.b512 ho k hk0 hk1).mono ?_
  rintro e w' ⟨v, he, h2⟩
  refine ⟨v, he, ?_⟩
  have h3 := h2.perm ((List.perm_append_comm (l₁ := [byt v (over J.order J.data D.last k.toNat)]) (l₂ := [arr jh.jb (jcells H jh J) 138 neJrn, rowI jh.ov J.order, chg jh.mb (J.last % 4) J.data])).append_right rs)
  exact (St.jShut h3).swap

theorem S_JRFar (h : St w0 w (jrn H jh J :: rs)) (a : Nat) {D : DSt} (hr : rs[a]? = some (dev H D)) (k : Int) (hk : k < 245 ∨ (D.n : Int) ≤ k) :
    Calls Try.prog 50 #[.pointer (some ⟨jh.jb, 0, none⟩), .int .i64 k] w fun e w' => w = w' ∧ e = .returned (.tuple #[.slice none 0 0, .int .i64 1]) :=
  S_JReadFar h.jOpen (a + 3) 0 hr rfl rfl k hk

set_option maxRecDepth 100000 in
theorem S_commitDead (h : St w0 w (jrn H jh J :: rs)) (hd : J.dead = true) (v : Value) :
    Calls Try.prog 86 #[.pointer (some ⟨jh.jb, 0, none⟩), v] w fun e w' => w = w' ∧ e = .returned (.int .i64 9) := by
  obtain ⟨g, last, dead, om, dm⟩ := J
  obtain ⟨jb, ov, mb⟩ := jh
  obtain rfl : dead = true := hd
  have h1 := h.jOpen
  have c0 : w.cell? ⟨jb, 0, none⟩ = some (.pointer (some ⟨H.b, 0, none⟩)) := (h1.arrCell (i := 0) rfl 0).trans rfl
  have c3 : w.cell? ⟨jb, 3, none⟩ = some (.bool true) := (h1.arrCell (i := 0) rfl 3).trans rfl
  clear h h1
  go_enter Try.func86, Try.ntmps86
  go_wp2
  go_ret
  exact ⟨rfl, rfl⟩

set_option maxRecDepth 100000 in
theorem commitNil (w : World) (v : Value) :
    Calls Try.prog 86 #[.pointer none, v] w fun e w' => w = w' ∧ e = .returned (.int .i64 9) := by
  go_enter Try.func86, Try.ntmps86
  go_wp2
  go_ret
  exact ⟨rfl, rfl⟩

theorem St.noChgs (h : St w0 w rs) : St w0 w (chgs (.slice none 0 0) [] [] [] :: rs) :=
  h.make (Frm.refl _ _) (chgs (.slice none 0 0) [] [] []) ⟨World.ownsRow_nil _ _ _ _, rfl, rfl, fun i u b hu _ => by simp at hu⟩ (fun _ hx => by cases hx)

theorem mayNil (n : Nat) : MayL n [] [] := ⟨fun _ h => (by cases h), List.nodup_nil, Nat.zero_le _, rfl⟩

set_option maxRecDepth 100000 in
theorem S_Sync (h : St w0 w (jrn H jh J :: rs)) (a : Nat) {D : DSt} (hr : rs[a]? = some (dev H D)) (hJ : JOk D.n J) (hdead : J.dead = false) (hD : 246 ≤ D.n) (hn : D.n ≤ 65536) (ho : D.ops < 1000000000) :
    Calls Try.prog 54 #[.pointer (some ⟨jh.jb, 0, none⟩)] w (CommitRet w0 rs a H jh.jb J D [] []) := by
  have h1 := h.noChgs.swap
  have HC := Lib.hid (S_commit h1 (a + 1) 0 hr (ks := []) rfl hJ hdead (mayNil _) (fun _ h => by cases h) hD hn ho (by omega))
  clear h h1 hr hJ hdead hD hn ho
  go_enter Try.func54, Try.ntmps54
  go_wp2_with fail
  refine HC.out.mono ?_
  clear HC
  rintro e w' (⟨h1, rfl, jh', hjb, h2⟩ | ⟨h1, rfl, jh', hjb, h2⟩)
  · have H1 := Lib.hid h1
    have H2 := Lib.hid h2
    have HJB := Lib.hid hjb
    clear h1 h2 hjb
    go_wp2
    go_ret
    exact .inl ⟨H1.out, rfl, jh', HJB.out, H2.out.drop2nd⟩
  · have H1 := Lib.hid h1
    have H2 := Lib.hid h2
    have HJB := Lib.hid hjb
    clear h1 h2 hjb
    go_wp2
    go_ret
    exact .inr ⟨H1.out, rfl, jh', HJB.out, H2.out.drop2nd⟩

set_option maxRecDepth 100000 in
theorem S_SyncDead (h : St w0 w (jrn H jh J :: rs)) (hd : J.dead = true) :
    Calls Try.prog 54 #[.pointer (some ⟨jh.jb, 0, none⟩)] w fun e w' => w = w' ∧ e = .returned (.int .i64 9) := by
  have HC := Lib.hid (S_commitDead h hd (.slice none 0 0))
  clear h hd
  go_enter Try.func54, Try.ntmps54
  go_wp2_with fail
  refine HC.out.mono ?_
  rintro e w' ⟨rfl, rfl⟩
  go_wp2
  go_ret
  exact ⟨rfl, rfl⟩

set_option maxRecDepth 100000 in
theorem SyncNil (w : World) : Calls Try.prog 54 #[.pointer none] w fun e w' => w = w' ∧ e = .returned (.int .i64 9) := by
  have HC := Lib.hid (commitNil w (.slice none 0 0))
  go_enter Try.func54, Try.ntmps54
  go_wp2_with fail
  refine HC.out.mono ?_
  rintro e w' ⟨rfl, rfl⟩
  go_wp2
  go_ret
  exact ⟨rfl, rfl⟩

theorem S_mayJ (h : St w0 w (jrn H jh J :: rs)) (a iv : Nat) {D : DSt} (hr : rs[a]? = some (dev H D)) {v : Value} {ks : List Int} {vs : List Value} {ds : List Blk} (hl : rs[iv]? = some (chgs v ks vs ds)) (hok : ∀ k ∈ ks, okI k) (hlen : ks.length ≤ 1000000) (hd : ∀ d ∈ ds, d.length ≤ 1000000) :
    Calls Try.prog 85 #[.pointer (some ⟨jh.jb, 0, none⟩), v] w fun e w' => e = .returned (.int .i64 (mayE D.n ks ds)) ∧ St w0 w' (jrn H jh J :: rs) :=
  (S_may h.jOpen (a + 3) 0 (iv + 3) hr rfl rfl hl hok hlen hd).mono fun _ _ ⟨h1, h2⟩ => ⟨h1, h2.jShut⟩

set_option maxRecDepth 100000 in
/-- Commit, where it is refused. -/
theorem S_CommitNo (h : St w0 w (jrn H jh J :: rs)) (a iv : Nat) {D : DSt} (hr : rs[a]? = some (dev H D)) {v : Value} {ks : List Int} {vs : List Value} {ds : List Blk} (hl : rs[iv]? = some (chgs v ks vs ds)) (hok : ∀ k ∈ ks, okI k) (hlen : ks.length ≤ 1000000) (hd : ∀ d ∈ ds, d.length ≤ 1000000)
    (hno : mayE D.n ks ds ≠ 0) :
    Calls Try.prog 47 #[.pointer (some ⟨jh.jb, 0, none⟩), v] w fun e w' => e = .returned (.int .i64 (mayE D.n ks ds)) ∧ St w0 w' (jrn H jh J :: rs) := by
  obtain ⟨va, vc, rfl⟩ := h.chgsLen (i := iv + 1) hl
  have HM := Lib.hid (S_mayJ h a iv hr hl hok hlen hd)
  obtain ⟨x, hx⟩ : ∃ x, mayE D.n ks ds = x := ⟨_, rfl⟩
  rw [hx] at HM hno ⊢
  have hb : (x != 0) = true := by rw [bne_iff_ne]; exact hno
  clear h hr hl hok hlen hd hx hno
  go_enter Try.func47, Try.ntmps47
  go_wp2_with fail
  refine HM.out.mono ?_
  clear HM
  rintro e w2 ⟨rfl, h2⟩
  have H2 := Lib.hid h2
  clear h2
  go_wp2
  go_ret
  exact ⟨rfl, H2.out⟩

set_option maxRecDepth 100000 in
/-- Commit of no changes. -/
theorem S_CommitNone (h : St w0 w (jrn H jh J :: rs)) (a iv : Nat) {D : DSt} (hr : rs[a]? = some (dev H D)) {v : Value} (hl : rs[iv]? = some (chgs v [] [] [])) :
    Calls Try.prog 47 #[.pointer (some ⟨jh.jb, 0, none⟩), v] w fun e w' => e = .returned (.int .i64 0) ∧ St w0 w' (jrn H jh J :: rs) := by
  obtain ⟨va, vc, rfl⟩ := h.chgsLen (i := iv + 1) hl
  have HM := Lib.hid (S_mayJ h a iv hr hl (fun _ h => by cases h) (by simp) (fun _ h => by cases h))
  rw [show mayE D.n [] [] = 0 from rfl] at HM
  clear h hr hl
  simp only [List.length_nil] at HM ⊢
  go_enter Try.func47, Try.ntmps47
  go_wp2_with fail
  refine HM.out.mono ?_
  clear HM
  rintro e w2 ⟨rfl, h2⟩
  have H2 := Lib.hid h2
  clear h2
  go_wp2
  go_ret
  exact ⟨rfl, H2.out⟩

set_option maxRecDepth 100000 in
/-- Commit of some changes. -/
theorem S_Commit (h : St w0 w (jrn H jh J :: rs)) (a iv : Nat) {D : DSt} (hr : rs[a]? = some (dev H D)) {v : Value} {ks : List Nat} {vs : List Value} {ds : List Blk} (hl : rs[iv]? = some (chgs v (ks.map fun k : Nat => (k : Int)) vs ds))
    (hJ : JOk D.n J) (hdead : J.dead = false) (hmay : MayL D.n ks ds) (hd512 : ∀ d ∈ ds, d.length = 512) (hD : 246 ≤ D.n) (hn : D.n ≤ 65536) (ho : D.ops < 1000000000) (hne : ks ≠ []) (q : iv ≠ a) :
    Calls Try.prog 47 #[.pointer (some ⟨jh.jb, 0, none⟩), v] w (CommitRet w0 rs a H jh.jb J D ks ds) := by
  obtain ⟨va, vc, rfl⟩ := h.chgsLen (i := iv + 1) hl
  have HM := Lib.hid (S_mayJ h a iv hr hl (fun k hk => by
    obtain ⟨x, hx, rfl⟩ := List.mem_map.1 hk
    have := hmay.home x hx
    exact (okI_iff _).2 (by omega)) (by rw [List.length_map]; have := hmay.few; omega) (fun d hd => by have := hd512 d hd; omega))
  rw [may_is hmay hd512] at HM
  have HC : Hid (∀ W, St w0 W (jrn H jh J :: rs) → Calls Try.prog 86 #[.pointer (some ⟨jh.jb, 0, none⟩), .slice va (ks.map fun k : Nat => (k : Int)).length vc] W (CommitRet w0 rs a H jh.jb J D ks ds)) := Lib.hid fun W hW => S_commit hW a iv hr hl hJ hdead hmay hd512 hD hn ho q
  obtain ⟨m, hm⟩ : ∃ m, (ks.map fun k : Nat => (k : Int)).length = m := ⟨_, rfl⟩
  rw [hm] at HM HC ⊢
  have hb : ((m : Int) == 0) = false := by
    rw [List.length_map] at hm
    have : ks.length ≠ 0 := fun e => hne (List.eq_nil_of_length_eq_zero e)
    rw [beq_eq_false_iff_ne]; omega
  clear h hr hl hJ hdead hmay hd512 hD hn ho hne q hm
  go_enter Try.func47, Try.ntmps47
  go_wp2_with fail
  refine HM.out.mono ?_
  clear HM
  rintro e w2 ⟨rfl, h2⟩
  have H2 := Lib.hid h2
  clear h2
  go_wp2_with fail
  refine (HC.out _ H2.out).mono ?_
  clear HC
  rintro e w3 (⟨h1, rfl, jh', hjb, h3⟩ | ⟨h1, rfl, jh', hjb, h3⟩)
  · have H1 := Lib.hid h1
    have H3 := Lib.hid h3
    have HJB := Lib.hid hjb
    clear h1 h3 hjb
    go_wp2
    go_ret
    exact .inl ⟨H1.out, rfl, jh', HJB.out, H3.out⟩
  · have H1 := Lib.hid h1
    have H3 := Lib.hid h3
    have HJB := Lib.hid hjb
    clear h1 h3 hjb
    go_wp2
    go_ret
    exact .inr ⟨H1.out, rfl, jh', HJB.out, H3.out⟩

set_option maxRecDepth 100000 in
/-- Commit of some changes, where the journal is dead. -/
theorem S_CommitDead (h : St w0 w (jrn H jh J :: rs)) (a iv : Nat) {D : DSt} (hr : rs[a]? = some (dev H D)) {v : Value} {ks : List Nat} {vs : List Value} {ds : List Blk} (hl : rs[iv]? = some (chgs v (ks.map fun k : Nat => (k : Int)) vs ds))
    (hdead : J.dead = true) (hmay : MayL D.n ks ds) (hd512 : ∀ d ∈ ds, d.length = 512) (hn : D.n ≤ 65536) (hne : ks ≠ []) :
    Calls Try.prog 47 #[.pointer (some ⟨jh.jb, 0, none⟩), v] w fun e w' => e = .returned (.int .i64 9) ∧ St w0 w' (jrn H jh J :: rs) := by
  obtain ⟨va, vc, rfl⟩ := h.chgsLen (i := iv + 1) hl
  have HM := Lib.hid (S_mayJ h a iv hr hl (fun k hk => by
    obtain ⟨x, hx, rfl⟩ := List.mem_map.1 hk
    have := hmay.home x hx
    exact (okI_iff _).2 (by omega)) (by rw [List.length_map]; have := hmay.few; omega) (fun d hd => by have := hd512 d hd; omega))
  rw [may_is hmay hd512] at HM
  have HC : Hid (∀ W, St w0 W (jrn H jh J :: rs) → Calls Try.prog 86 #[.pointer (some ⟨jh.jb, 0, none⟩), .slice va (ks.map fun k : Nat => (k : Int)).length vc] W fun e w' => W = w' ∧ e = .returned (.int .i64 9)) := Lib.hid fun W hW => S_commitDead hW hdead _
  obtain ⟨m, hm⟩ : ∃ m, (ks.map fun k : Nat => (k : Int)).length = m := ⟨_, rfl⟩
  rw [hm] at HM HC ⊢
  have hb : ((m : Int) == 0) = false := by
    rw [List.length_map] at hm
    have : ks.length ≠ 0 := fun e => hne (List.eq_nil_of_length_eq_zero e)
    rw [beq_eq_false_iff_ne]; omega
  clear h hr hl hdead hmay hd512 hn hne hm
  go_enter Try.func47, Try.ntmps47
  go_wp2_with fail
  refine HM.out.mono ?_
  clear HM
  rintro e w2 ⟨rfl, h2⟩
  have H2 := Lib.hid h2
  clear h2
  go_wp2_with fail
  refine (HC.out _ H2.out).mono ?_
  clear HC
  rintro e w3 ⟨rfl, rfl⟩
  go_wp2
  go_ret
  exact ⟨rfl, H2.out⟩
end
end Go.Proofs.Ytkanfpmmgaipnaa
