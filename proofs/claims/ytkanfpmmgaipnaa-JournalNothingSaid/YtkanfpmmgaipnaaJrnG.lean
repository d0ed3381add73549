/-
  Format, walked. 
-/
import Derived.Test.YtkanfpmmgaipnaaJrnF
namespace Go.Proofs.Ytkanfpmmgaipnaa
set_option linter.unusedVariables false
open Go.ChangeMaps Go.MapKept Go.RowKit

def fmtStep (g i : Nat) (E : DSt) : DSt := if i < 4 then E.op.put (1 + 61 * i) zeros else if i = 5 then E.op.put 0 (laidB magicL [g + 1]) else E.op.flushed

/-- The device ahead of the i-th of Format's functions. -/
def fmtD (D : DSt) (g : Nat) : Nat → DSt
  | 0 => D
  | i + 1 => fmtStep g i (fmtD D g i)

theorem fmtD_ok (D : DSt) (g : Nat) (hl : D.lim = none) : ∀ i, (fmtD D g i).n = D.n ∧ (fmtD D g i).ops = D.ops + i ∧ (fmtD D g i).lim = none
  | 0 => ⟨rfl, rfl, hl⟩
  | i + 1 => by
    obtain ⟨h1, h2, h3⟩ := fmtD_ok D g hl i
    have h0 : (fmtD D g i).lim.map (· - 1) = none := by rw [h3]; rfl
    have h4 : (fmtD D g i).ops + 1 = D.ops + (i + 1) := by omega
    unfold fmtD fmtStep
    split
    · exact ⟨h1, h4, h0⟩
    · split
      · exact ⟨h1, h4, h0⟩
      · exact ⟨h1, h4, h0⟩

theorem entFmt1 : EntersF Try.prog 95 := entersF_of Try.func95 (by kernel_rfl) rfl
theorem entFmt2 : EntersF Try.prog 96 := entersF_of Try.func96 (by kernel_rfl) rfl
theorem entFlush : EntersF Try.prog 33 := entersF_of Try.func33 (by kernel_rfl) rfl

set_option maxRecDepth 100000 in
theorem S_Format {w0 w : World} {rs : List Res} (h : St w0 w rs) (a : Nat) {H : Hdl} {D : DSt} (hr : rs[a]? = some (dev H D)) (hn : 246 ≤ D.n) (ho : D.ops < 1000000) (hlim : D.lim = none) (hm : isMagic (D.last 0) = false) (hg : getLE (D.last 0) 8 8 < 18446744073709551615) :
    Calls Try.prog 51 #[.pointer (some ⟨H.b, 0, none⟩)] w fun e w' => e = .returned (.int .i64 0) ∧ St w0 w' (rs.set a (dev H (fmtD D (getLE (D.last 0) 8 8) 7))) := by
  obtain ⟨g, hgg⟩ : ∃ g, getLE (D.last 0) 8 8 = g := ⟨_, rfl⟩
  have HD := Lib.hid (h.newArr #[.pointer (some ⟨H.b, 0, none⟩)] 24 neDp)
  have c1 := HD.out.arrCell (i := 0) rfl 0
  have c1 : (w.alloc (.cells #[.pointer (some ⟨H.b, 0, none⟩)] 24 (0, 0))).cell? ⟨w.heap.size, 0, none⟩ = some (.pointer (some ⟨H.b, 0, none⟩)) := c1
  have HB := Lib.hid (S_Blocks HD.out (a + 1) hr)
  have HFI := Lib.hid (S_first HD.out (a + 1) hr (by omega) (by omega))
  rw [hgg, hm] at HFI
  rw [hgg] at hg ⊢
  have hn' : ¬ (D.n : Int) < 246 := by omega
  have HG := Lib.hid hg
  have HLIM := Lib.hid hlim
  clear hgg hm hg h hlim
  go_enter Try.func51, Try.ntmps51
  go_wp2_with fail
  refine HB.out.mono ?_
  rintro e w2 ⟨rfl, rfl⟩
  go_wp2_with fail
  refine HFI.out.mono ?_
  rintro e w3 ⟨rfl, h3⟩
  have H3 := Lib.hid h3
  clear h3 HD HB HFI c1
  generalize w.heap.size = bd at *
  go_wp2_with fail
  have H4 := Lib.hid ((H3.out.newArr #[.int .u64 (g : Int)] 133 neU64).fnNil)
  clear H3
  generalize w3.heap.size = bg at *
  go_loopw [5, 6, 17] (fun v _ t wr => ∃ bl : List Nat, bl.length ≤ 4 ∧ t = .int .i64 bl.length ∧ St w0 wr (fnRow v (fmtFns bd bl) :: (capR bl ++ (arr bg #[.int .u64 (g : Int)] 133 neU64 :: arr bd #[.pointer (some ⟨H.b, 0, none⟩)] 24 neDp :: rs)))) (fun _ _ t _ => 4 - (intOf t).toNat)
  case atStart => exact ⟨[], Nat.zero_le _, rfl, H4.out⟩
  case round =>
    clear H4
    obtain ⟨bl, hbl, rfl, hst⟩ := hrel
    have HST := Lib.hid hst
    clear hst
    by_cases hlt : bl.length < 4
    · have hi0 : (0 : Int) ≤ (bl.length : Int) := Int.natCast_nonneg _
      have hi1 : (bl.length : Int) < 4 := by omega
      have H5 := Lib.hid (HST.out.capMore (z := (bl.length : Int)) rfl)
      have HO := Lib.hid (World.ownsRow.alloc (H5.out.get (i := 0) rfl) (.cells #[.func (.func 95) #[] #[.pointer (some ⟨bd, 0, none⟩), .pointer (some ⟨wr.heap.size, 0, none⟩)]] 33 (0, 0)))
      have hxl := fmtFns_length bd bl
      obtain ⟨ii, hi0i, hz0, hz1, hz2⟩ := info_parts infoFn
      have HN : Hid (∀ (j : Nat) u, [Value.func (.func 95) #[] #[.pointer (some ⟨bd, 0, none⟩), .pointer (some ⟨wr.heap.size, 0, none⟩)]][j]? = some u → ((wr.alloc (.cells #[.int .i64 (bl.length : Int)] 3 (0, 0))).alloc (.cells #[.func (.func 95) #[] #[.pointer (some ⟨bd, 0, none⟩), .pointer (some ⟨wr.heap.size, 0, none⟩)]] 33 (0, 0))).cell? ((⟨wr.heap.size + 1, 0, none⟩ : Addr).add j) = some u) := Lib.hid fun j u hj => by
        obtain ⟨h1, h2⟩ := List.getElem?_eq_some_iff.1 hj
        obtain rfl : j = 0 := by simp at h1; exact h1
        have e : wr.heap.size + 1 = (wr.alloc (.cells #[.int .i64 (bl.length : Int)] 3 (0, 0))).heap.size := (size_alloc _ _).symm
        rw [show ((⟨wr.heap.size + 1, 0, none⟩ : Addr).add 0) = ⟨wr.heap.size + 1, 0, none⟩ from rfl, e, cell_of_block (block_alloc_new _ _), ← h2]
        rfl
      have hmf : ∀ (fn : Fn) (first cap : Array Value) (W : World), (Instr.makeFunc fn first cap).run Try.prog W = .ok (.func fn first cap) W := fun _ _ _ _ => rfl
      go_wp2_with (at_builtin; refine wpList_append_own_at _ rfl _ _ 146 rfl 0 33 ii .nilFunc 1 8 Try.underlying146 hi0i hz0 hz1 hz2 rfl (by decide) _ _ _ rfl HO.out ⟨wr.heap.size + 1, 0, none⟩ 1 1 [.func (.func 95) #[] #[.pointer (some ⟨bd, 0, none⟩), .pointer (some ⟨wr.heap.size, 0, none⟩)]] rfl rfl HN.out ?c0 ?c1 ?c2 ?c3 ?_)
      case c0 => intro u hu; simp at hu; subst hu; rfl
      case c1 => simp only [maxLen]; omega
      case c2 => omega
      case c3 => omega
      intro v' w6 ho hg2 hnn hat
      have h7 := H5.out.fnAppend 0 rfl (.cells #[.func (.func 95) #[] #[.pointer (some ⟨bd, 0, none⟩), .pointer (some ⟨wr.heap.size, 0, none⟩)]] 33 (0, 0)) (news := [.func (.func 95) #[] #[.pointer (some ⟨bd, 0, none⟩), .pointer (some ⟨wr.heap.size, 0, none⟩)]]) (by rw [hxl]; exact ho) hg2 (by rw [size_alloc, size_alloc]; first | exact hat | (rw [size_alloc, size_alloc] at hat; exact hat))
      have H7 := Lib.hid (show St w0 w6 (fnRow v' (fmtFns bd (wr.heap.size :: bl)) :: (capR (wr.heap.size :: bl) ++ (arr bg #[.int .u64 (g : Int)] 133 neU64 :: arr bd #[.pointer (some ⟨H.b, 0, none⟩)] 24 neDp :: rs))) from h7)
      clear ho hg2 hnn hat h7
      go_wp2
      first | exact ⟨⟨wr.heap.size :: bl, hlt, by go_num, H7.out⟩, by simp [intOf]; omega⟩ | (go_roundw; case rel => first | exact ⟨wr.heap.size :: bl, hlt, by go_num, H7.out⟩ | ((repeat apply Exists.intro); exact ⟨⟨wr.heap.size :: bl, hlt, by go_num, H7.out⟩, rfl⟩); case measure => simp [intOf]; omega)
    · have hi1 : ¬ (bl.length : Int) < 4 := by omega
      have hmf : ∀ (fn : Fn) (first cap : Array Value) (W : World), (Instr.makeFunc fn first cap).run Try.prog W = .ok (.func fn first cap) W := fun _ _ _ _ => rfl
      obtain ⟨pd, hpd⟩ : ∃ pd, capR bl ++ (arr bg #[.int .u64 (g : Int)] 133 neU64 :: arr bd #[.pointer (some ⟨H.b, 0, none⟩)] 24 neDp :: rs) = pd := ⟨_, rfl⟩
      have hcd : wr.cell? ⟨bd, 0, none⟩ = some (.pointer (some ⟨H.b, 0, none⟩)) :=
        ((HST.out.arrCell (i := 1 + (capR bl).length + 1) (b := bd) (c := #[.pointer (some ⟨H.b, 0, none⟩)]) (t := 24) (ht := neDp) (by
          rw [show 1 + (capR bl).length + 1 = ((capR bl).length + 1) + 1 from by omega, List.getElem?_cons_succ, List.getElem?_append_right (by omega), show (capR bl).length + 1 - (capR bl).length = 1 from by omega]
          rfl) 0).trans rfl)
      clear hpd
      have hxl := fmtFns_length bd bl
      have hbl4 : bl.length = 4 := by omega
      have HO := Lib.hid (World.ownsRow.alloc (HST.out.get (i := 0) rfl) (.cells #[.func (.func 33) #[.pointer (some ⟨H.b, 0, none⟩)] #[], .func (.func 96) #[] #[.pointer (some ⟨bd, 0, none⟩), .pointer (some ⟨bg, 0, none⟩)], .func (.func 33) #[.pointer (some ⟨H.b, 0, none⟩)] #[]] 33 (0, 0)))
      have HN : Hid (∀ (j : Nat) u, (([.func (.func 33) #[.pointer (some ⟨H.b, 0, none⟩)] #[], .func (.func 96) #[] #[.pointer (some ⟨bd, 0, none⟩), .pointer (some ⟨bg, 0, none⟩)], .func (.func 33) #[.pointer (some ⟨H.b, 0, none⟩)] #[]] : List Value))[j]? = some u → (wr.alloc (.cells #[.func (.func 33) #[.pointer (some ⟨H.b, 0, none⟩)] #[], .func (.func 96) #[] #[.pointer (some ⟨bd, 0, none⟩), .pointer (some ⟨bg, 0, none⟩)], .func (.func 33) #[.pointer (some ⟨H.b, 0, none⟩)] #[]] 33 (0, 0))).cell? ((⟨wr.heap.size, 0, none⟩ : Addr).add j) = some u) := Lib.hid fun j u hj => by
        have e : ((⟨wr.heap.size, 0, none⟩ : Addr).add j) = ⟨wr.heap.size, j, none⟩ := by unfold Addr.add; split <;> simp_all
        rw [e, cell_of_block (block_alloc_new _ _), ← Array.getElem?_toList]
        exact hj
      obtain ⟨ii, hi0i, hz0, hz1, hz2⟩ := info_parts infoFn
      go_wp2_with (at_builtin; refine wpList_append_own_at _ rfl _ _ 146 rfl 0 33 ii .nilFunc 1 8 Try.underlying146 hi0i hz0 hz1 hz2 rfl (by decide) _ _ _ rfl HO.out ⟨wr.heap.size, 0, none⟩ 3 3 [.func (.func 33) #[.pointer (some ⟨H.b, 0, none⟩)] #[], .func (.func 96) #[] #[.pointer (some ⟨bd, 0, none⟩), .pointer (some ⟨bg, 0, none⟩)], .func (.func 33) #[.pointer (some ⟨H.b, 0, none⟩)] #[]] rfl rfl HN.out ?c0 ?c1 ?c2 ?c3 ?_)
      case c0 => exact ⟨rfl, rfl, rfl⟩
      case c1 => simp only [maxLen]; omega
      try case c2 => omega
      try case c3 => omega
      intro v' w6 ho hg2 hnn hat
      have H7 := Lib.hid (HST.out.fnAppend 0 rfl (.cells #[.func (.func 33) #[.pointer (some ⟨H.b, 0, none⟩)] #[], .func (.func 96) #[] #[.pointer (some ⟨bd, 0, none⟩), .pointer (some ⟨bg, 0, none⟩)], .func (.func 33) #[.pointer (some ⟨H.b, 0, none⟩)] #[]] 33 (0, 0)) (news := [.func (.func 33) #[.pointer (some ⟨H.b, 0, none⟩)] #[], .func (.func 96) #[] #[.pointer (some ⟨bd, 0, none⟩), .pointer (some ⟨bg, 0, none⟩)], .func (.func 33) #[.pointer (some ⟨H.b, 0, none⟩)] #[]]) (by rw [hxl, hbl4]; exact ho) hg2 (by rw [size_alloc]; exact hat))
      have HNE : Hid (v' ≠ .slice none 0 0) := Lib.hid (by first | exact hnn | exact fun e => by have := (hnn.1 e).2; omega)
      clear ho hg2 hnn hat HO HN HST hxl hi1 hcd
      go_wp2_with fail
      match bl, hbl4 with
      | [b3, b2, b1, b0], _ =>
      have H8 := H7.out
      obtain ⟨XS, hXS⟩ : ∃ XS, fmtFns bd [b3, b2, b1, b0] ++ [.func (.func 33) #[.pointer (some ⟨H.b, 0, none⟩)] #[], .func (.func 96) #[] #[.pointer (some ⟨bd, 0, none⟩), .pointer (some ⟨bg, 0, none⟩)], .func (.func 33) #[.pointer (some ⟨H.b, 0, none⟩)] #[]] = XS := ⟨_, rfl⟩
      rw [hXS] at H8
      have hlen : XS.length = 7 := by rw [← hXS]; rfl
      have hgetX : ∀ i, i < 7 → XS[i]? = some (.func (.func ([95, 95, 95, 95, 33, 96, 33].getD i 0)) ([#[], #[], #[], #[], #[.pointer (some ⟨H.b, 0, none⟩)], #[], #[.pointer (some ⟨H.b, 0, none⟩)]].getD i #[]) ([#[.pointer (some ⟨bd, 0, none⟩), .pointer (some ⟨b0, 0, none⟩)], #[.pointer (some ⟨bd, 0, none⟩), .pointer (some ⟨b1, 0, none⟩)], #[.pointer (some ⟨bd, 0, none⟩), .pointer (some ⟨b2, 0, none⟩)], #[.pointer (some ⟨bd, 0, none⟩), .pointer (some ⟨b3, 0, none⟩)], #[], #[.pointer (some ⟨bd, 0, none⟩), .pointer (some ⟨bg, 0, none⟩)], #[]].getD i #[])) := fun i hi => by
        rw [← hXS]
        rcases (by omega : i = 0 ∨ i = 1 ∨ i = 2 ∨ i = 3 ∨ i = 4 ∨ i = 5 ∨ i = 6) with rfl | rfl | rfl | rfl | rfl | rfl | rfl <;> rfl
      clear hXS
      obtain ⟨gb, gc, rfl⟩ : ∃ gb gc, v' = .slice (some ⟨gb, 0, none⟩) 7 gc := by
        have ho : w6.ownsRow 0 33 1 v' XS.length XS := H8.get (i := 0) rfl
        rcases ho.2 with h | ⟨gb, gc, _, h, _⟩
        · exact absurd h.1 HNE.out
        · exact ⟨gb, gc, by rw [h, hlen]⟩
      obtain ⟨ha1, ha2⟩ := List.getElem?_eq_some_iff.1 hr
      have hok := fmtD_ok D g HLIM.out
      have hdev : ∀ X : Res, (rs.set a X)[a]? = some X := fun X => List.getElem?_set_self ha1
      have hrs : rs.set a (dev H D) = rs := by rw [← ha2]; exact List.set_getElem_self ha1
      have hnext : ∀ (W : World) (i : Nat) (X : Res), X = dev H (fmtD D g (i + 1)) → St w0 W ((fnRow (.slice (some ⟨gb, 0, none⟩) 7 gc) XS :: arr b3 #[.int .i64 ((3 : Nat) : Int)] 3 neI8 :: arr b2 #[.int .i64 ((2 : Nat) : Int)] 3 neI8 :: arr b1 #[.int .i64 ((1 : Nat) : Int)] 3 neI8 :: arr b0 #[.int .i64 ((0 : Nat) : Int)] 3 neI8 :: arr bg #[.int .u64 (g : Int)] 133 neU64 :: arr bd #[.pointer (some ⟨H.b, 0, none⟩)] 24 neDp :: rs.set a (dev H (fmtD D g i))).set (a + 7) X) → St w0 W (fnRow (.slice (some ⟨gb, 0, none⟩) 7 gc) XS :: arr b3 #[.int .i64 ((3 : Nat) : Int)] 3 neI8 :: arr b2 #[.int .i64 ((2 : Nat) : Int)] 3 neI8 :: arr b1 #[.int .i64 ((1 : Nat) : Int)] 3 neI8 :: arr b0 #[.int .i64 ((0 : Nat) : Int)] 3 neI8 :: arr bg #[.int .u64 (g : Int)] 133 neU64 :: arr bd #[.pointer (some ⟨H.b, 0, none⟩)] 24 neDp :: rs.set a (dev H (fmtD D g (i + 1)))) := fun W i X hX h => by
        subst hX
        have h' : St w0 W (fnRow (.slice (some ⟨gb, 0, none⟩) 7 gc) XS :: arr b3 #[.int .i64 ((3 : Nat) : Int)] 3 neI8 :: arr b2 #[.int .i64 ((2 : Nat) : Int)] 3 neI8 :: arr b1 #[.int .i64 ((1 : Nat) : Int)] 3 neI8 :: arr b0 #[.int .i64 ((0 : Nat) : Int)] 3 neI8 :: arr bg #[.int .u64 (g : Int)] 133 neU64 :: arr bd #[.pointer (some ⟨H.b, 0, none⟩)] 24 neDp :: (rs.set a (dev H (fmtD D g i))).set a (dev H (fmtD D g (i + 1)))) := h
        rw [List.set_set] at h'
        exact h'
      refine (tries_any w6 gb 0 7 gc (fun i W => St w0 W (fnRow (.slice (some ⟨gb, 0, none⟩) 7 gc) XS :: arr b3 #[.int .i64 ((3 : Nat) : Int)] 3 neI8 :: arr b2 #[.int .i64 ((2 : Nat) : Int)] 3 neI8 :: arr b1 #[.int .i64 ((1 : Nat) : Int)] 3 neI8 :: arr b0 #[.int .i64 ((0 : Nat) : Int)] 3 neI8 :: arr bg #[.int .u64 (g : Int)] 133 neU64 :: arr bd #[.pointer (some ⟨H.b, 0, none⟩)] 24 neDp :: rs.set a (dev H (fmtD D g i)))) (fun _ _ => False) (fun i => [95, 95, 95, 95, 33, 96, 33].getD i 0) (fun i => [#[], #[], #[], #[], #[.pointer (some ⟨H.b, 0, none⟩)], #[], #[.pointer (some ⟨H.b, 0, none⟩)]].getD i #[]) (fun i => [#[.pointer (some ⟨bd, 0, none⟩), .pointer (some ⟨b0, 0, none⟩)], #[.pointer (some ⟨bd, 0, none⟩), .pointer (some ⟨b1, 0, none⟩)], #[.pointer (some ⟨bd, 0, none⟩), .pointer (some ⟨b2, 0, none⟩)], #[.pointer (some ⟨bd, 0, none⟩), .pointer (some ⟨b3, 0, none⟩)], #[], #[.pointer (some ⟨bd, 0, none⟩), .pointer (some ⟨bg, 0, none⟩)], #[]].getD i #[]) ?_ ?_ ?_ (by omega) ?_).mono ?_
      · show St w0 w6 (fnRow (.slice (some ⟨gb, 0, none⟩) 7 gc) XS :: arr b3 #[.int .i64 ((3 : Nat) : Int)] 3 neI8 :: arr b2 #[.int .i64 ((2 : Nat) : Int)] 3 neI8 :: arr b1 #[.int .i64 ((1 : Nat) : Int)] 3 neI8 :: arr b0 #[.int .i64 ((0 : Nat) : Int)] 3 neI8 :: arr bg #[.int .u64 (g : Int)] 133 neU64 :: arr bd #[.pointer (some ⟨H.b, 0, none⟩)] 24 neDp :: rs.set a (dev H (D)))
        rw [hrs]
        exact H8
      · intro i W hi hT
        have ho : W.ownsRow 0 33 1 (.slice (some ⟨gb, 0, none⟩) 7 gc) XS.length XS := hT.get (i := 0) rfl
        have h1 := ho.cells (g := gb) rfl i _ (hgetX i hi)
        rw [show (⟨gb, 0, none⟩ : Addr).add i = ⟨gb, 0 + i, none⟩ from by unfold Addr.add; split <;> simp_all] at h1
        exact h1
      · intro i hi
        rcases (by omega : i = 0 ∨ i = 1 ∨ i = 2 ∨ i = 3 ∨ i = 4 ∨ i = 5 ∨ i = 6) with rfl | rfl | rfl | rfl | rfl | rfl | rfl
        · exact entFmt1
        · exact entFmt1
        · exact entFmt1
        · exact entFmt1
        · exact entFlush
        · exact entFmt2
        · exact entFlush
      · intro i W hi hT
        rcases (by omega : i = 0 ∨ i = 1 ∨ i = 2 ∨ i = 3 ∨ i = 4 ∨ i = 5 ∨ i = 6) with rfl | rfl | rfl | rfl | rfl | rfl | rfl
        · exact (S_fmt1 (k := 0) hT (a + 7) 6 4 (hdev _) rfl rfl (by omega) (by rw [(hok 0).1]; exact hn) (by rw [(hok 0).2.1]; omega) (off_of_lim (hok 0).2.2) (by omega) (by omega)).mono fun _ _ ⟨e, h⟩ => ⟨0, e, fun _ => hnext _ 0 _ rfl h, fun h => absurd rfl h⟩
        · exact (S_fmt1 (k := 1) hT (a + 7) 6 3 (hdev _) rfl rfl (by omega) (by rw [(hok 1).1]; exact hn) (by rw [(hok 1).2.1]; omega) (off_of_lim (hok 1).2.2) (by omega) (by omega)).mono fun _ _ ⟨e, h⟩ => ⟨0, e, fun _ => hnext _ 1 _ rfl h, fun h => absurd rfl h⟩
        · exact (S_fmt1 (k := 2) hT (a + 7) 6 2 (hdev _) rfl rfl (by omega) (by rw [(hok 2).1]; exact hn) (by rw [(hok 2).2.1]; omega) (off_of_lim (hok 2).2.2) (by omega) (by omega)).mono fun _ _ ⟨e, h⟩ => ⟨0, e, fun _ => hnext _ 2 _ rfl h, fun h => absurd rfl h⟩
        · exact (S_fmt1 (k := 3) hT (a + 7) 6 1 (hdev _) rfl rfl (by omega) (by rw [(hok 3).1]; exact hn) (by rw [(hok 3).2.1]; omega) (off_of_lim (hok 3).2.2) (by omega) (by omega)).mono fun _ _ ⟨e, h⟩ => ⟨0, e, fun _ => hnext _ 3 _ rfl h, fun h => absurd rfl h⟩
        · exact (S_Flush hT (a + 7) (hdev _) (by rw [(hok 4).2.1]; omega) (off_of_lim (hok 4).2.2)).mono fun _ _ ⟨e, h⟩ => ⟨0, e, fun _ => hnext _ 4 _ rfl h, fun h => absurd rfl h⟩
        · exact (S_fmt2 (g := g) hT (a + 7) 6 5 (hdev _) rfl rfl HG.out (by rw [(hok 5).1]; exact hn) (by rw [(hok 5).2.1]; omega) (off_of_lim (hok 5).2.2) (by omega) (by omega)).mono fun _ _ ⟨e, h⟩ => ⟨0, e, fun _ => hnext _ 5 _ rfl h, fun h => absurd rfl h⟩
        · exact (S_Flush hT (a + 7) (hdev _) (by rw [(hok 6).2.1]; omega) (off_of_lim (hok 6).2.2)).mono fun _ _ ⟨e, h⟩ => ⟨0, e, fun _ => hnext _ 6 _ rfl h, fun h => absurd rfl h⟩
      · rintro e w7 (⟨rfl, h9⟩ | ⟨x, hx, _, hf⟩)
        · have H9 := Lib.hid (h9.drop 7)
          clear h9 hnext hdev hrs hok hgetX hlen H8
          go_wp2
          go_ret
          exact ⟨rfl, H9.out⟩
        · exact hf.elim
end Go.Proofs.Ytkanfpmmgaipnaa
