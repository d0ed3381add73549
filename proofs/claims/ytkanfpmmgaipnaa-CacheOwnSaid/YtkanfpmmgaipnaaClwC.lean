/-
  The cache's Commit.
-/
import Derived.Test.YtkanfpmmgaipnaaClwB
namespace Go.Proofs.Ytkanfpmmgaipnaa
set_option linter.unusedVariables false
open Go.ChangeMaps Go.MapKept Go.RowKit

theorem Keys_anyC (b : Nat) (w : World) :
    Calls Try.prog 99 #[.map (some b)] w fun e w' => e = .returned (.func (.func 110) #[] #[.pointer (some ⟨w.heap.size, 0, none⟩)]) ∧ w' = w.alloc (.cells #[.map (some b)] 149) :=
  (callsIn_wide (n := 5)).1 (AnyZI.keys_in Try.keysB Fence.wide 5 trivial rfl (some b) w)

theorem Sorted_anyC (b n : Nat) (f : Int → Option Value) (w : World) (h : MapAt IntK okI w b n f) (hn : n ≤ 1000000000) :
    Calls Try.prog 73 #[.func (.func 110) #[] #[.pointer (some ⟨w.heap.size, 0, none⟩)]] (w.alloc (.cells #[.map (some b)] 149)) fun e w' =>
      ∃ v ks, e = .returned v ∧ SortedKeys f n ks ∧ RowAt w' 3 v (ks.map IntK) (Fresh w) ∧ Frm NoB w w' := by
  obtain ⟨D, hown, hsz, hnd, hlen, hm⟩ := h.owns (by unfold maxLen; omega)
  have hbl := hown.lt
  have hseq : SeqGives Fence.wide 2 Try.prog 110 #[.pointer (some ⟨w.heap.size, 0, none⟩)] encZ (fun ss => ss.Perm (intKeys D)) (Maps.size D) (w.alloc (.cells #[.map (some b)] 149)) :=
    AnyZI.keys_gives (ρ := Try.keysB_ren) { Try.keysB with } Fence.wide _ trivial rfl (by omega) w.heap.size b n D _ (by simp) (by simp) (by
      obtain ⟨es, clock, hb, Ft, hs, hD⟩ := hown
      exact ⟨es, clock, (Below.heap_alloc _ _ b hbl).trans hb, Ft, hs, hD⟩)
  have cS := AnyZI.sorted_in Try.sortedA Fence.wide 5 trivial trivial trivial trivial rfl (by omega) (sortsA _) (enters_of Try.func102 (by kernel_rfl) rfl) 110 #[.pointer (some ⟨w.heap.size, 0, none⟩)] trivial (enters_of Try.func110 (by kernel_rfl) rfl) _ _ (by rw [hsz]; unfold maxLen; omega) (by rw [hsz]; omega) _ hseq
  change CallsIn _ _ Try.prog 73 _ _ _ at cS
  refine ((callsIn_wide (n := 5)).1 cS).mono ?_
  rintro e w' ⟨v, ss, rfl, hS, hrow, hnil, hb⟩
  refine ⟨v, _, rfl, sortedKeys_of hS hnd hlen hm, ?_, ?_⟩
  · rcases RowAt.of_owns hrow with h1 | ⟨blk, off, cap, c, h1, h2, h3, h4, h5⟩
    · exact .inl h1
    · exact .inr ⟨blk, off, cap, c, h1, h2, h3, h4, by simp at h5; unfold Fresh; omega⟩
  · exact ((Frm.refl NoB w).alloc _).trans (Frm.ofBelow hb rfl NoB) (fun _ _ e => e)

/-- A row of ints that nobody writes. -/
def keyR (v : Value) (ks : List Int) : Res where
  M := fun x => v.ownBlock = some x
  inv := fun _ w => RowAt w 3 v (ks.map IntK) AnyB
  lt := fun _ w H x hx => by
    rcases H with ⟨rfl, _⟩ | ⟨blk, off, cap, c, rfl, _, h3, _⟩
    · cases hx
    · obtain rfl : blk = x := by simpa [Value.ownBlock] using hx
      exact lt_of_block h3
  dry := fun _ w H x hx c e => by
    rcases H with ⟨rfl, _⟩ | ⟨blk, off, cap, c', rfl, _, h3, _⟩
    · cases hx
    · obtain rfl : blk = x := by simpa [Value.ownBlock] using hx
      exact notC_cells h3 neI8 c e
  keep := fun _ w w' N H hf hd ha => by
    rcases H with h | ⟨blk, off, cap, c, rfl, h2, h3, h4, h5⟩
    · exact .inl h
    · exact .inr ⟨blk, off, cap, c, rfl, h2, (hf.block blk (lt_of_block h3) (ha blk rfl)).trans h3, h4, h5⟩
  zone := fun _ _ _ H _ _ => H

theorem keyRow {Z : Nat → Prop} {w : World} {v : Value} {ks : List Int} (h : (keyR v ks).inv Z w) : ∃ a cap, v = .slice a ks.length cap := by
  obtain ⟨a, cap, e, _⟩ := RowAt.cases h
  rw [List.length_map] at e
  exact ⟨a, cap, e⟩

theorem St.mkKeys {w0 : Gnd} {w w' : World} {rs : List Res} (h : St w0 w rs) (hf : Frm NoB w w') {v : Value} {ks : List Int} (hb : RowAt w' 3 v (ks.map IntK) (Fresh w)) : St w0 w' (keyR v ks :: rs) :=
  h.make hf (keyR v ks) (by
    rcases hb with h | ⟨blk, off, cap, c, h1, h2, h3, h4, h5⟩
    · exact .inl h
    · exact .inr ⟨blk, off, cap, c, h1, h2, h3, h4, trivial⟩) (fun x hx => by
    rcases hb with ⟨rfl, _⟩ | ⟨blk, off, cap, c, rfl, h2, h3, h4, h5⟩
    · cases hx
    · obtain rfl : blk = x := by simpa [Value.ownBlock, keyR] using hx
      exact h5)

section
variable {w0 : Gnd} {w : World} {rs : List Res} {cb wb : Nat} {op ov : Bool} {l : WrL} {H : Hdl} {jh : JHdl} {J : JSt}

theorem S_cCommitShut (h : St w0 w (cst cb jh.jb false ov wb :: rs)) :
    Calls Try.prog 61 #[.pointer (some ⟨cb, 0, none⟩)] w fun e w' => e = .returned (.int .i64 8) ∧ St w0 w' (cst cb jh.jb false ov wb :: rs) := by
  have HO := Lib.hid (S_cOpen h)
  have H0 := Lib.hid h
  clear h
  go_enter Try.func61, Try.ntmps61
  go_wp2_with fail
  refine HO.out.mono ?_
  rintro e w2 ⟨rfl, rfl⟩
  go_wp2_with fail
  go_ret
  exact ⟨rfl, H0.out⟩

set_option maxHeartbeats 1000000 in
set_option maxRecDepth 100000 in
theorem S_cCommit (h : St w0 w (cst cb jh.jb true ov wb :: wrt wb l :: jrn H jh J :: rs)) (hkeys : ∀ p ∈ l, okI p.1) (h512 : ∀ p ∈ l, p.2.length = 512) (hlen : l.length ≤ 1000) {Post : Ending → World → Prop}
    (hpost : ∀ ks v vs W, ks.Pairwise (· < ·) → (∀ a, a ∈ ks ↔ (look l a).isSome = true) → ks.length = l.length → St w0 W (jrn H jh J :: chgs v ks vs (ks.map fun k => (look l k).getD zeros) :: cst cb jh.jb false ov wb :: wrt wb [] :: rs) →
      Calls Try.prog 47 #[.pointer (some ⟨jh.jb, 0, none⟩), v] W fun e w' => (∃ x, e = .returned (.int .i64 x)) ∧ Post e w') :
    Calls Try.prog 61 #[.pointer (some ⟨cb, 0, none⟩)] w Post := by
  have HO := Lib.hid (S_cOpen h)
  have HP := Lib.hid hpost
  have H512 := Lib.hid h512
  have c3 : w.cell? ⟨cb, 3, none⟩ = some (.map (some wb)) := (h.arrCell (i := 0) rfl 3).trans rfl
  have HK := Lib.hid (Keys_anyC wb w)
  have HS : Hid (Calls Try.prog 73 #[.func (.func 110) #[] #[.pointer (some ⟨w.heap.size, 0, none⟩)]] (w.alloc (.cells #[.map (some wb)] 149)) fun e w' =>
      ∃ v ks, e = .returned v ∧ (ks.Pairwise (· < ·) ∧ (∀ a, a ∈ ks ↔ (look l a).isSome = true) ∧ ks.length = l.length) ∧ St w0 w' (keyR v ks :: cst cb jh.jb true ov wb :: wrt wb l :: jrn H jh J :: rs)) := Lib.hid (by
    obtain ⟨F, hm, hf⟩ := h.get (i := 1) rfl
    refine (Sorted_anyC wb l.length F w hm (by omega)).mono ?_
    rintro e w' ⟨v, ks, he, hks, hrow, hfr⟩
    refine ⟨v, ks, he, ⟨hks.sorted, fun a => ?_, hks.len⟩, h.mkKeys hfr hrow⟩
    rw [hks.mem a]
    constructor
    · rintro ⟨h1, h2⟩
      rw [hf a h1, Option.isSome_map] at h2
      exact h2
    · intro h2
      have hok : okI a := by
        obtain ⟨p, hp, e⟩ := List.mem_map.1 ((look_mem l a).1 h2)
        rw [← e]; exact hkeys p hp
      exact ⟨hok, by rw [hf a hok, Option.isSome_map]; exact h2⟩)
  have HKEY := Lib.hid hkeys
  have HLEN := Lib.hid hlen
  clear h hpost h512 hkeys hlen
  go_enter Try.func61, Try.ntmps61
  go_wp2_with fail
  refine HO.out.mono ?_
  rintro e w2 ⟨rfl, rfl⟩
  clear HO
  go_wp2_with (first
    | (go_at_call 99; refine HK.out.mono ?_; rintro e w2k ⟨rfl, rfl⟩)
    | (go_at_call 73; refine HS.out.mono ?_; rintro e w3 ⟨kv, ks, rfl, hks, h3⟩; obtain ⟨ka, kc, hkv⟩ := keyRow (h3.get (i := 0) rfl); subst hkv; have HKS := Lib.hid hks; have H3 := Lib.hid h3; clear hks h3))
  clear HK HS c3
  have HN := Lib.hid (show St w0 w3 (chgs (.slice none 0 0) [] [] [] :: keyR (.slice ka ks.length kc) ks :: cst cb jh.jb true ov wb :: wrt wb l :: jrn H jh J :: rs) from H3.out.noChgs)
  have hkl0 : (0 : Int) ≤ ((ks.length : Nat) : Int) := Int.natCast_nonneg _
  have hkl1 : ((ks.length : Nat) : Int) ≤ 1000 := by have := HKS.out.2.2; have := HLEN.out; omega
  clear H3
  go_loopw [3, 17] (fun v t wr => ∃ (i : Nat) (vs : List Value), i ≤ ks.length ∧ t = .int .i64 i ∧ St w0 wr (chgs v (ks.take i) vs ((ks.map fun k => (look l k).getD zeros).take i) :: keyR (.slice ka ks.length kc) ks :: cst cb jh.jb true ov wb :: wrt wb l :: jrn H jh J :: rs)) (fun _ t _ => ks.length - (intOf t).toNat)
  case atStart => exact ⟨0, [], Nat.zero_le _, rfl, HN.out⟩
  case round =>
    clear HN
    obtain ⟨i, vs, hi, rfl, hst⟩ := hrel
    have HST := Lib.hid hst
    clear hst
    by_cases hlt : i < ks.length
    · have hi0 : (0 : Int) ≤ (i : Int) := Int.natCast_nonneg _
      have hi1 : (i : Int) < (ks.length : Int) := by omega
      obtain ⟨kx, hx⟩ : ∃ kx, ks[i]? = some kx := ⟨_, List.getElem?_eq_getElem hlt⟩
      have hkr := HST.out.get (i := 1) rfl
      obtain ⟨ka', kc', e1, _, hcs⟩ := RowAt.cases hkr
      injection e1 with e1 e2 e3
      subst e1
      obtain ⟨gb, go, rfl, _, ck, _, _⟩ := hcs i (IntK kx) (by rw [List.getElem?_map, hx]; rfl)
      have ck : wr.cell? ⟨gb, go + i, none⟩ = some (.int .i64 kx) := ck
      have hsm := (HKS.out.2.1 kx).1 (List.mem_of_getElem? hx)
      obtain ⟨b, hb⟩ : ∃ b, look l kx = some b := Option.isSome_iff_exists.1 hsm
      have hbl : b.length = 512 := H512.out _ (look_in hb)
      have hok : okI kx := HKEY.out _ (look_in hb)
      have hlk := HST.out.wrtGet (i := 3) rfl hok hb wr rfl
      have c3 : wr.cell? ⟨cb, 3, none⟩ = some (.map (some wb)) := (HST.out.arrCell (i := 2) rfl 3).trans rfl
      have HNB := Lib.hid (block_alloc_new wr (.cells zc 152 (0, 0)))
      have HBL := Lib.hid hbl
      have HX := Lib.hid hx
      have HB := Lib.hid hb
      clear hkr hcs hsm hbl hok hx hb e2 e3
      go_upto_region 8 with (first | refine allocArr rfl rfl ?_ | refine storeArr rfl _ _ rfl wr.heap.size b HBL.out rfl rfl zc zc_size HNB.out ?_)
      rw [setRow_new]
      have H4 := Lib.hid (HST.out.mkByt ((Frm.refl NoB wr).alloc (.cells (b.map B8).toArray 152 (0, 0))) (arr_at wr b HBL.out))
      obtain ⟨w4, hw4⟩ : ∃ w4, w4 = wr.alloc (.cells (b.map B8).toArray 152 (0, 0)) := ⟨_, rfl⟩
      rw [← hw4] at H4 ⊢
      clear hw4 hlk c3 ck HNB HST
      generalize wr.heap.size = nb at *
      have HLK : Hid ((ks.take i).length ≤ 1000) := Lib.hid (by rw [List.length_take]; omega)
      have HO := Lib.hid (World.ownsRow.alloc (H4.out.get (i := 1) rfl).1 (.cells #[.int .i64 (kx), .slice (some ⟨nb, 0, none⟩) 512 512] 64 (0, 0)))
      have HNW : Hid (∀ (j : Nat) x, ([.int .i64 (kx), .slice (some ⟨nb, 0, none⟩) 512 512] : List Value)[j]? = some x → (w4.alloc (.cells #[.int .i64 (kx), .slice (some ⟨nb, 0, none⟩) 512 512] 64 (0, 0))).cell? ((⟨w4.heap.size, 0, none⟩ : Addr).add j) = some x) := Lib.hid (new_two w4 _ _ _)
      obtain ⟨ii, hi0i, hz0, hz1, hz2⟩ := info_parts infoChg
      go_wp2_with (at_builtin; refine wpList_append_own_at _ rfl _ _ 62 rfl 0 64 ii (.agg #[.int .i64 0, .slice none 0 0]) 2 32 Try.underlying62 hi0i hz0 hz1 hz2 rfl (by decide) _ _ _ rfl HO.out ⟨w4.heap.size, 0, none⟩ 1 1 [.int .i64 (kx), .slice (some ⟨nb, 0, none⟩) 512 512] rfl rfl HNW.out ?qa0 ?qa1 ?qa2 ?qa3 ?_)
      case qa0 => first | exact ⟨rfl, rfl⟩ | (intro x hx; simp at hx; rcases hx with rfl | rfl <;> rfl)
      case qa1 => have := HLK.out; simp only [maxLen]; omega
      case qa2 => have := HLK.out; omega
      try case qa3 => omega
      intro v' w5 ho hg2 hnn hat
      have h7 := H4.out.chgsAppend 1 0 rfl rfl (kx) (.cells #[.int .i64 (kx), .slice (some ⟨nb, 0, none⟩) 512 512] 64 (0, 0)) rfl (by first | exact ho | (rw [List.length_take, Nat.min_eq_left (Nat.le_of_lt hlt)]; exact ho)) hg2 (by first | exact hat | (simp only [size_alloc] at hat ⊢; exact hat))
      have H7 := Lib.hid (h7.drop 1)
      clear ho hg2 hnn hat h7 HO HNW H4
      have HT1 : Hid (ks.take (i + 1) = ks.take i ++ [kx]) := Lib.hid (by
        obtain ⟨h1, h2⟩ := List.getElem?_eq_some_iff.1 HX.out
        rw [List.take_succ_eq_append_getElem h1, h2])
      have HT2 : Hid ((ks.map fun k => (look l k).getD zeros).take (i + 1) = (ks.map fun k => (look l k).getD zeros).take i ++ [b]) := Lib.hid (by
        rw [← List.map_take, ← List.map_take, HT1.out, List.map_append]
        simp [HB.out])
      rw [← HT1.out, ← HT2.out] at H7
      go_wp2
      first | exact ⟨⟨i + 1, _, hlt, by go_num, H7.out⟩, by simp [intOf]; omega⟩ | (go_roundw; case rel => first | exact ⟨i + 1, _, hlt, by go_num, H7.out⟩ | ((repeat apply Exists.intro); exact ⟨⟨i + 1, _, hlt, by go_num, H7.out⟩, rfl⟩); case measure => simp [intOf]; omega)
    · have hi1 : ¬ (i : Int) < (ks.length : Int) := by omega
      have hil : i = ks.length := by omega
      have h5 := HST.out
      rw [hil, List.take_length, List.take_of_length_le (by simp)] at h5
      have H5 := Lib.hid ((h5.drop2nd).perm (List.perm_append_comm (l₁ := [_]) (l₂ := [_, _]) |>.append_right _))
      have HD := Lib.hid (S_cDone H5.out)
      clear h5 hil HST
      go_wp2_with fail
      refine HD.out.mono ?_
      clear HD H5
      rintro e w6 ⟨rfl, h6⟩
      have c0 : w6.cell? ⟨cb, 0, none⟩ = some (.pointer (some ⟨jh.jb, 0, none⟩)) := (h6.arrCell (i := 0) rfl 0).trans rfl
      have HC := Lib.hid (HP.out ks _ vs w6 HKS.out.1 HKS.out.2.1 HKS.out.2.2 (h6.perm (((List.perm_append_comm (l₁ := [_, _]) (l₂ := [_, _]))).append_right _ |>.trans (List.Perm.swap _ _ _))))
      clear h6
      go_wp2_with fail
      refine HC.out.mono ?_
      clear HC c0
      rintro e w7 ⟨⟨y, rfl⟩, hp⟩
      have HPP := Lib.hid hp
      clear hp
      go_wp2
      exact HPP.out
end
end Go.Proofs.Ytkanfpmmgaipnaa
