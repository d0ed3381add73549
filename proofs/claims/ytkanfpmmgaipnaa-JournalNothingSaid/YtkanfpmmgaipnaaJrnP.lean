/-
  Open of what is none; slices of changes, as objects; may.
-/
import Derived.Test.YtkanfpmmgaipnaaJrnO
namespace Go.Proofs.Ytkanfpmmgaipnaa
set_option linter.unusedVariables false
open Go.ChangeMaps Go.MapKept Go.RowKit

set_option maxRecDepth 100000 in
theorem S_OpenTiny {w0 w : World} {rs : List Res} (h : St w0 w rs) (a : Nat) {H : Hdl} {D : DSt} (hr : rs[a]? = some (dev H D)) (hn : D.n < 246) :
    Calls Try.prog 49 #[.pointer (some ⟨H.b, 0, none⟩)] w fun e w' => w = w' ∧ e = .returned (.tuple #[.pointer none, .int .i64 1]) := by
  have HB := Lib.hid (S_Blocks h a hr)
  have hn' : (D.n : Int) < 246 := by omega
  clear h hr hn
  go_enter Try.func49, Try.ntmps49
  go_wp2_with fail
  refine HB.out.mono ?_
  rintro e w2 ⟨rfl, rfl⟩
  go_wp2
  go_ret2
  exact ⟨rfl, rfl⟩

set_option maxRecDepth 100000 in
theorem S_OpenBad {w0 w : World} {rs : List Res} (h : St w0 w rs) (a : Nat) {H : Hdl} {D : DSt} (hr : rs[a]? = some (dev H D)) (hn : 246 ≤ D.n) (ho : D.ops < 1000000000) (hm : isMagic (D.last 0) = false) :
    Calls Try.prog 49 #[.pointer (some ⟨H.b, 0, none⟩)] w fun e w' => e = .returned (.tuple #[.pointer none, .int .i64 10]) ∧ St w0 w' rs := by
  have HB := Lib.hid (S_Blocks h a hr)
  have HF := Lib.hid (S_first h a hr (by omega) (by omega))
  rw [hm] at HF
  have hn' : ¬ (D.n : Int) < 246 := by omega
  clear h hr hn ho hm
  go_enter Try.func49, Try.ntmps49
  go_wp2_with fail
  refine HB.out.mono ?_
  rintro e w2 ⟨rfl, rfl⟩
  go_wp2_with fail
  refine HF.out.mono ?_
  rintro e w3 ⟨rfl, h3⟩
  have H3 := Lib.hid h3
  clear h3 HF HB
  go_wp2
  go_ret2
  exact ⟨rfl, H3.out⟩

/-! ### Changes -/

theorem neChg : (64 : TypeId) ≠ 5 := by decide

/-- The cells of a row of changes. -/
def flat : List Int → List Value → List Value
  | k :: ks, u :: vs => IntK k :: u :: flat ks vs
  | _, _ => []

theorem flat_snoc : ∀ (ks : List Int) (vs : List Value) (k : Int) (u : Value), vs.length = ks.length → flat (ks ++ [k]) (vs ++ [u]) = flat ks vs ++ [IntK k, u]
  | [], [], _, _, _ => rfl
  | [], _ :: _, _, _, h => by simp at h
  | _ :: _, [], _, _, h => by simp at h
  | a :: ks, b :: vs, k, u, h => by
    show IntK a :: b :: flat (ks ++ [k]) (vs ++ [u]) = _
    rw [flat_snoc ks vs k u (by simpa using h)]; rfl

theorem flat_get : ∀ (ks : List Int) (vs : List Value) (j : Nat) (k : Int) (u : Value), ks[j]? = some k → vs[j]? = some u → (flat ks vs)[2 * j]? = some (IntK k) ∧ (flat ks vs)[2 * j + 1]? = some u
  | [], _, _, _, _, h, _ => by simp at h
  | _ :: _, [], _, _, _, _, h => by simp at h
  | a :: ks, b :: vs, 0, k, u, h1, h2 => by simp at h1 h2; subst h1 h2; exact ⟨rfl, rfl⟩
  | a :: ks, b :: vs, j + 1, k, u, h1, h2 => by
    obtain ⟨g1, g2⟩ := flat_get ks vs j k u (by simpa using h1) (by simpa using h2)
    exact ⟨g1, g2⟩

/-- A slice of changes: blocks, and what they are to be. -/
def chgs (v : Value) (ks : List Int) (vs : List Value) (ds : List Blk) : Res where
  M := fun x => v.ownBlock = some x
  inv := fun w => w.ownsRow 0 64 2 v ks.length (flat ks vs) ∧ vs.length = ks.length ∧ ds.length = ks.length ∧ ∀ (i : Nat) u b, vs[i]? = some u → ds[i]? = some b → BytesAt w u b AnyB
  lt := fun w H x hx => (H.1.lt x hx).2
  dry := fun w H x hx c' e => by
    rcases H.1.2 with ⟨rfl, _⟩ | ⟨g, cap, cur, rfl, _, h2, _⟩
    · cases hx
    · obtain rfl : g = x := by simpa [Value.ownBlock] using hx
      rw [h2] at e
      simp only [Option.some.injEq, Obj.cells.injEq] at e
      exact neChg e.2.1
  keep := fun w w' N H hf hd ha => ⟨ownsRow_of_block H.1 (fun g hg => hf.block g (H.1.lt g hg).2 (ha g hg)), H.2.1, H.2.2.1, fun i u b h1 h2 => (H.2.2.2 i u b h1 h2).of_block fun x c _ hc => hf.block x (lt_of_block hc) (fun hN => hd x (lt_of_block hc) hN c hc)⟩

theorem St.chgsLen {w0 w : World} {rs : List Res} (h : St w0 w rs) {i : Nat} {v : Value} {ks : List Int} {vs : List Value} {ds : List Blk} (hr : rs[i]? = some (chgs v ks vs ds)) : ∃ a cap, v = .slice a ks.length cap := by
  rcases (h.get hr).1.2 with ⟨e, hl⟩ | ⟨g, cap, cur, e, _⟩
  · exact ⟨none, 0, by rw [e, hl]⟩
  · exact ⟨_, _, e⟩

theorem St.chgsCell {w0 w : World} {rs : List Res} (h : St w0 w rs) {i n cap : Nat} {a : Option Addr} {ks : List Int} {vs : List Value} {ds : List Blk} (hr : rs[i]? = some (chgs (.slice a n cap) ks vs ds)) {j : Nat} {k : Int} (hk : ks[j]? = some k) :
    ∃ gb u b, a = some ⟨gb, 0, none⟩ ∧ gb < w.heap.size ∧ vs[j]? = some u ∧ ds[j]? = some b ∧ w.cell? ⟨gb, j * 2, none⟩ = some (.int .i64 k) ∧ w.cell? ⟨gb, j * 2 + 1, none⟩ = some u ∧ BytesAt w u b AnyB := by
  obtain ⟨H1, H2, H3, H4⟩ := h.get hr
  have hj := (List.getElem?_eq_some_iff.1 hk).1
  have hu : vs[j]? = some (vs[j]'(by omega)) := List.getElem?_eq_getElem _
  have hb : ds[j]? = some (ds[j]'(by omega)) := List.getElem?_eq_getElem _
  rcases H1.2 with ⟨e, hl⟩ | ⟨g, cap', cur, e, _, h2, _, _, h4⟩
  · rw [hl] at hj; omega
  · injection e with e1 e2 e3
    obtain ⟨f1, f2⟩ := flat_get ks vs j k _ hk hu
    have hrow := H1.cells (g := g) (by rw [e1]; rfl)
    have add0 : ∀ m, (⟨g, 0, none⟩ : Addr).add m = ⟨g, m, none⟩ := fun m => by unfold Addr.add; split <;> simp_all
    rw [Nat.mul_comm j 2]
    refine ⟨g, _, _, e1, lt_of_block h2, hu, hb, ?_, ?_, H4 j _ _ hu hb⟩
    · have := hrow _ _ f1; rw [add0] at this; exact this
    · have := hrow _ _ f2; rw [add0] at this; exact this

/-! ### May it be committed? -/

def goodAt (n : Nat) (ks : List Int) (ds : List Blk) (i : Nat) : Bool :=
  decide (245 ≤ ks.getD i 0 ∧ ks.getD i 0 < (n : Int)) && !(ks.take i).contains (ks.getD i 0) && (ds.getD i []).length == 512

def mayTo (n : Nat) (ks : List Int) (ds : List Blk) : Nat → Bool
  | 0 => true
  | i + 1 => mayTo n ks ds i && goodAt n ks ds i

def mayE (n : Nat) (ks : List Int) (ds : List Blk) : Int := if mayTo n ks ds ks.length then (if 60 < ks.length then 2 else 0) else 1

theorem mayTo_mono {n : Nat} {ks : List Int} {ds : List Blk} {i : Nat} (hf : goodAt n ks ds i = false) : ∀ j, i < j → mayTo n ks ds j = false
  | 0, h => by omega
  | j + 1, h => by
    unfold mayTo
    rcases Nat.lt_or_eq_of_le (Nat.le_of_lt_succ h) with h' | h'
    · rw [mayTo_mono hf j h']; rfl
    · subst h'; rw [hf, Bool.and_false]

/-- The blocks that were met. -/
def metR (mb : Nat) (l : List Int) : Res where
  M := Only mb
  inv := fun w => ∃ n f, MapAt IntK okI w mb n f ∧ ∀ k, okI k → f k = if l.contains k then some (.int .i64 1) else none
  lt := fun w H x hx => by obtain rfl : x = mb := hx; obtain ⟨n, f, h, _⟩ := H; exact h.lt
  dry := fun w H x hx c e => by
    obtain rfl : x = mb := hx
    obtain ⟨n, f, ⟨es, clock, h, _⟩, _⟩ := H
    rw [h] at e; cases e
  keep := fun w w' N H hf hd ha => by
    obtain ⟨n, f, h, hb⟩ := H
    exact ⟨n, f, h.of_block (hf.block mb h.lt (ha mb rfl)), hb⟩

theorem St.metNew {w0 w : World} {rs : List Res} (h : St w0 w rs) : St w0 (w.alloc (.map #[] 0)) (metR w.heap.size [] :: rs) :=
  h.make ((Frm.refl _ _).alloc _) (metR w.heap.size []) ⟨0, _, MapAt.made w, fun k hk => rfl⟩ (fun x hx => by obtain rfl : x = w.heap.size := hx; exact Nat.le_refl _)

theorem St.metLook {w0 w : World} {rs : List Res} (h : St w0 w rs) {i mb : Nat} {l : List Int} (hr : rs[i]? = some (metR mb l)) {k : Int} (hk : okI k) {b : Bool} (hb : l.contains k = b) (W : World) (hW : W.heap[mb]? = w.heap[mb]?) :
    (Instr.lookup 96 (.map (some mb)) (.int .i64 k) false).run Try.prog W = .ok (.int .i64 (if b then 1 else 0)) W := by
  obtain ⟨n, f, hm, hf⟩ := h.get hr
  have := hm.lookup kindInt Try.underlying96 hk zeroInt W hW
  rw [hf k hk, hb] at this
  rw [this]
  cases b <;> rfl

theorem St.metPut {w0 w : World} {rs : List Res} (h : St w0 w rs) (i : Nat) {mb : Nat} {l : List Int} (hr : rs[i]? = some (metR mb l)) {k : Int} (hk : okI k) :
    ∃ o, (Instr.mapUpdate 96 (.map (some mb)) (.int .i64 k) (.int .i64 1)).run Try.prog w = .ok () (setBlock w mb o) ∧ St w0 (setBlock w mb o) (rs.set i (metR mb (l ++ [k]))) := by
  obtain ⟨n, f, hm, hf⟩ := h.get hr
  obtain ⟨o, q1, q2⟩ := hm.update kindInt Try.underlying96 hk (.int .i64 1)
  refine ⟨o, q1 w rfl, h.write i hr ((Frm.refl (Only mb) w).setBlock (.inl rfl) o) (metR mb (l ++ [k])) ⟨_, _, q2 w hm.lt, fun x hx => ?_⟩ (fun _ hx => .inl hx)⟩
  unfold upd
  by_cases e : x = k
  · subst e; rw [if_pos rfl, if_pos (by simp)]
  · rw [if_neg e, hf x hx]
    have : (l ++ [k]).contains x = l.contains x := by
      rw [Bool.eq_iff_iff]; simp [e]
    rw [this]

set_option maxRecDepth 100000 in
theorem S_may {w0 w : World} {rs : List Res} (h : St w0 w rs) (a i p : Nat) {H : Hdl} {D : DSt} {jb : Nat} {c : Array Value} {ht : (138 : TypeId) ≠ 5} (hr : rs[a]? = some (dev H D)) (hj : rs[i]? = some (arr jb c 138 ht))
    (hc : c[0]? = some (.pointer (some ⟨H.b, 0, none⟩))) {v : Value} {ks : List Int} {vs : List Value} {ds : List Blk} (hl : rs[p]? = some (chgs v ks vs ds)) (hok : ∀ k ∈ ks, okI k) (hlen : ks.length ≤ 1000000) (hd : ∀ d ∈ ds, d.length ≤ 1000000) :
    Calls Try.prog 85 #[.pointer (some ⟨jb, 0, none⟩), v] w fun e w' => e = .returned (.int .i64 (mayE D.n ks ds)) ∧ St w0 w' rs := by
  obtain ⟨va, vc, rfl⟩ := h.chgsLen hl
  have HM := Lib.hid h.metNew
  have hmk : ∀ W, (Instr.makeMap 96 none).run Try.prog W = .ok (.map (some W.heap.size)) (W.alloc (.map #[] 0)) := fun W => rfl
  have HR := Lib.hid hr
  have HJ := Lib.hid hj
  have HL := Lib.hid hl
  have HC := Lib.hid hc
  have HOK := Lib.hid hok
  have HDD := Lib.hid hd
  clear h hr hj hl hc hok hd
  go_enter Try.func85, Try.ntmps85
  go_wp2_with fail
  clear hmk
  generalize w.heap.size = mb at *
  go_loopw [7, 11] (fun _ t wr => ∃ k : Nat, k ≤ ks.length ∧ t = .int .i64 k ∧ mayTo D.n ks ds k = true ∧ St w0 wr (metR mb (ks.take k) :: rs)) (fun _ t _ => ks.length - (intOf t).toNat)
  case atStart => exact ⟨0, Nat.zero_le _, rfl, rfl, HM.out⟩
  case round =>
    clear HM
    obtain ⟨k, hk, rfl, hmt, hst⟩ := hrel
    have HST := Lib.hid hst
    have HMT := Lib.hid hmt
    clear hst hmt
    by_cases hlt : k < ks.length
    · have hk0 : (0 : Int) ≤ (k : Int) := Int.natCast_nonneg _
      have hk1 : (k : Int) < (ks.length : Int) := by omega
      obtain ⟨x, hx⟩ : ∃ x, ks[k]? = some x := ⟨_, List.getElem?_eq_getElem hlt⟩
      obtain ⟨gb, u, d, rfl, hgb, hu, hd, c1, c2, hbu⟩ := HST.out.chgsCell (i := p + 1) HL.out hx
      have HX := Lib.hid hx
      have HU := Lib.hid hu
      have HD1 := Lib.hid hd
      have HBU := Lib.hid hbu
      clear hx hu hd hbu
      obtain ⟨ub, uo, uc, rfl, huc, _, _⟩ := HBU.out.cells
      have hdl : ((d.length : Nat) : Int) ≤ 1000000 := by have := HDD.out d (List.mem_of_getElem? HD1.out); omega
      have H5 := Lib.hid (HST.out.newArr #[.int .i64 x, .slice (some ⟨ub, uo, none⟩) d.length uc] 64 neChg)
      have hox : okI x := HOK.out x (List.mem_of_getElem? HX.out)
      have HOX := Lib.hid hox
      have hgd : ks.getD k 0 = x := by rw [List.getD_eq_getElem?_getD, HX.out]; rfl
      have hgdd : ds.getD k [] = d := by rw [List.getD_eq_getElem?_getD, HD1.out]; rfl
      have HGA : Hid (goodAt D.n ks ds k = (decide (245 ≤ x ∧ x < (D.n : Int)) && !(ks.take k).contains x && d.length == 512)) := Lib.hid (by unfold goodAt; rw [hgd, hgdd])
      have HTK : Hid (ks.take (k + 1) = ks.take k ++ [x]) := Lib.hid (by
        obtain ⟨h1, h2⟩ := List.getElem?_eq_some_iff.1 HX.out
        rw [List.take_succ_eq_append_getElem h1, h2])
      have HE1 : Hid (goodAt D.n ks ds k = false → mayE D.n ks ds = 1) := Lib.hid fun hf => by unfold mayE; rw [mayTo_mono hf _ hlt]; rfl
      have HHM := Lib.hid (S_home H5.out (a + 2) (i + 2) HR.out HJ.out HC.out x)
      obtain ⟨L, hL⟩ : ∃ L, ks.take k = L := ⟨_, rfl⟩
      rw [hL] at H5 HGA HTK
      obtain ⟨m, hm⟩ : ∃ m, d.length = m := ⟨_, rfl⟩
      rw [hm] at H5 HGA hdl HHM c2 huc
      clear hox hgd hgdd hL hm HST HBU HDD HD1
      go_wp2_with fail
      refine HHM.out.mono ?_
      rintro e w4 ⟨rfl, rfl⟩
      obtain ⟨w5, hw5⟩ : ∃ w5, w5 = wr.alloc (.cells #[.int .i64 x, .slice (some ⟨ub, uo, none⟩) m uc] 64 (0, 0)) := ⟨_, rfl⟩
      rw [← hw5] at H5 ⊢
      clear hw5 HHM c1 c2
      generalize wr.heap.size = pb at *
      have c1 : w5.cell? ⟨pb, 0, none⟩ = some (.int .i64 x) := (H5.out.arrCell (i := 0) rfl 0).trans rfl
      have c2 : w5.cell? ⟨pb, 1, none⟩ = some (.slice (some ⟨ub, uo, none⟩) m uc) := (H5.out.arrCell (i := 0) rfl 1).trans rfl
      by_cases hh : 245 ≤ x ∧ x < (D.n : Int)
      · have e1 : (decide (245 ≤ x) && decide (x < (D.n : Int))) = true := by rw [decide_eq_true hh.1, decide_eq_true hh.2]; rfl
        rw [e1]
        rw [decide_eq_true hh] at HGA
        clear e1 hh
        by_cases hc2 : L.contains x = true
        · have hlk := H5.out.metLook (i := 1) rfl HOX.out hc2 w5 rfl
          rw [if_pos rfl] at hlk
          rw [hc2] at HGA
          have HF := Lib.hid (HE1.out (by rw [HGA.out]; rfl))
          clear hc2 HGA HE1
          go_wp2
          go_ret
          exact ⟨by rw [HF.out]; rfl, H5.out.drop 2⟩
        · have hc2 : L.contains x = false := by simpa using hc2
          have hlk := H5.out.metLook (i := 1) rfl HOX.out hc2 w5 rfl
          rw [if_neg (by simp)] at hlk
          rw [hc2] at HGA
          clear hc2
          by_cases hm : m = 512
          · have hb : (((m : Nat) : Int) != 512) = false := by rw [bne_eq_false_iff_eq]; omega
            have HMT2 : Hid (mayTo D.n ks ds (k + 1) = true) := Lib.hid (by
              show (mayTo D.n ks ds k && goodAt D.n ks ds k) = true
              rw [HMT.out, HGA.out, hm]; rfl)
            obtain ⟨o6, q6, h6⟩ := H5.out.metPut 1 rfl HOX.out
            have H6 := Lib.hid (h6.drop 1)
            clear h6 hm HGA HE1
            rw [← HTK.out] at H6
            go_wp2
            first | exact ⟨⟨k + 1, hlt, by go_num, HMT2.out, H6.out⟩, by simp [intOf]; omega⟩ | (go_roundw; case rel => first | exact ⟨k + 1, hlt, by go_num, HMT2.out, H6.out⟩ | ((repeat apply Exists.intro); exact ⟨⟨k + 1, hlt, by go_num, HMT2.out, H6.out⟩, rfl⟩); case measure => simp [intOf]; omega)
          · have hb : (((m : Nat) : Int) != 512) = true := by rw [bne_iff_ne]; omega
            have HF := Lib.hid (HE1.out (by rw [HGA.out]; simp [hm]))
            clear hm HGA HE1
            go_wp2
            go_ret
            exact ⟨by rw [HF.out]; rfl, H5.out.drop 2⟩
      · have e1 : (decide (245 ≤ x) && decide (x < (D.n : Int))) = false := by
          by_cases h1 : 245 ≤ x
          · rw [decide_eq_false (p := x < (D.n : Int)) (fun h2 => hh ⟨h1, h2⟩), Bool.and_false]
          · rw [decide_eq_false h1]; rfl
        rw [e1]
        rw [decide_eq_false hh] at HGA
        have HF := Lib.hid (HE1.out (by rw [HGA.out]; rfl))
        clear hh e1 HGA HE1
        go_wp2
        go_ret
        exact ⟨by rw [HF.out]; rfl, H5.out.drop 2⟩
    · have hkk : k = ks.length := by omega
      have hk1 : ¬ (k : Int) < (ks.length : Int) := by omega
      have HMM : Hid (mayTo D.n ks ds ks.length = true) := Lib.hid (by rw [← hkk]; exact HMT.out)
      by_cases hbig : 60 < ks.length
      · have hb1 : (60 : Int) < (ks.length : Int) := by omega
        have HF : Hid (mayE D.n ks ds = 2) := Lib.hid (by unfold mayE; rw [HMM.out, if_pos rfl, if_pos hbig])
        clear hbig hkk
        go_wp2
        go_ret
        exact ⟨by rw [HF.out]; rfl, HST.out.drop 1⟩
      · have hb1 : ¬ (60 : Int) < (ks.length : Int) := by omega
        have HF : Hid (mayE D.n ks ds = 0) := Lib.hid (by unfold mayE; rw [HMM.out, if_pos rfl, if_neg hbig])
        clear hbig hkk
        go_wp2
        go_ret
        exact ⟨by rw [HF.out]; rfl, HST.out.drop 1⟩
end Go.Proofs.Ytkanfpmmgaipnaa
