/-
  Commits one behind the other: JournalLong.
-/
import Derived.Test.YtkanfpmmgaipnaaJlwG
namespace Go.Proofs.Ytkanfpmmgaipnaa
set_option linter.unusedVariables false
open Go.ChangeMaps Go.MapKept Go.RowKit

/-- The cells of a row of pairs. -/
def flatP : List (Int × Int) → List Value
  | [] => []
  | p :: l => .int .i64 p.1 :: .int .i64 p.2 :: flatP l

theorem flatP_snoc : ∀ (l : List (Int × Int)) (x y : Int), flatP (l ++ [(x, y)]) = flatP l ++ [.int .i64 x, .int .i64 y]
  | [], _, _ => rfl
  | p :: l, x, y => by
    show .int .i64 p.1 :: .int .i64 p.2 :: flatP (l ++ [(x, y)]) = _
    rw [flatP_snoc l x y]; rfl

theorem flatP_get : ∀ (l : List (Int × Int)) (j : Nat) (p : Int × Int), l[j]? = some p → (flatP l)[j * 2]? = some (.int .i64 p.1) ∧ (flatP l)[j * 2 + 1]? = some (.int .i64 p.2)
  | [], _, _, h => by simp at h
  | q :: l, 0, p, h => by simp at h; subst h; exact ⟨rfl, rfl⟩
  | q :: l, j + 1, p, h => by
    obtain ⟨g1, g2⟩ := flatP_get l j p (by simpa using h)
    rw [show (j + 1) * 2 = j * 2 + 1 + 1 from by omega]
    exact ⟨g1, g2⟩

theorem nePr : ¬ U8T (82 : TypeId) := by decide
theorem neI : ¬ U8T (3 : TypeId) := by decide
theorem infoPr : (Try.prog.info? 82).map (fun i => (i.zero, i.size, i.bytes)) = some (some (.agg #[.int .i64 0, .int .i64 0]), 2, 16) := by kernel_rfl

/-- A row of pairs of one's own, as a slice that is read. -/
theorem St.pairs {w0 : Gnd} {w : World} {rs : List Res} (h : St w0 w rs) {i : Nat} {v : Value} {l : List (Int × Int)} (hr : rs[i]? = some (rowR 82 nePr 2 v l.length (flatP l))) : Pairs w v l := by
  have H1 : w.ownsRow 0 82 2 v l.length (flatP l) := h.get hr
  rcases H1.2 with ⟨e, hl⟩ | ⟨g, cap, cur, e, _, h2, _⟩
  · exact ⟨none, 0, by rw [e, hl], fun i p hp => by rw [List.getElem?_eq_none (by omega)] at hp; cases hp⟩
  · refine ⟨_, cap, e, fun j p hp => ⟨g, 0, rfl, lt_of_block h2, ?_⟩⟩
    have hrow := H1.cells (g := g) (by rw [e]; rfl)
    have add0 : ∀ m, (⟨g, 0, none⟩ : Addr).add m = ⟨g, m, none⟩ := fun m => by unfold Addr.add; split <;> simp_all
    obtain ⟨f1, f2⟩ := flatP_get l j p hp
    rw [Nat.zero_add]
    refine ⟨?_, ?_⟩
    · have := hrow _ _ f1; rw [add0] at this; exact this
    · have := hrow _ _ f2; rw [add0] at this; exact this

theorem St.pairsPre {w0 : Gnd} {w : World} {rs pre : List Res} {v : Value} {l : List (Int × Int)} (h : St w0 w (pre ++ rowR 82 nePr 2 v l.length (flatP l) :: rs)) : Pairs w v l :=
  h.pairs (i := pre.length) (by rw [List.getElem?_append_right (Nat.le_refl _), Nat.sub_self]; rfl)

theorem St.rowLen {w0 : Gnd} {w : World} {rs : List Res} (h : St w0 w rs) {i : Nat} {t : TypeId} {ht : ¬ U8T t} {s n : Nat} {v : Value} {xs : List Value} (hr : rs[i]? = some (rowR t ht s v n xs)) : ∃ a cap, v = .slice a n cap := by
  have H1 : w.ownsRow 0 t s v n xs := h.get hr
  rcases H1.2 with ⟨e, hl⟩ | ⟨g, cap, cur, e, _⟩
  · exact ⟨none, 0, by rw [e, hl]⟩
  · exact ⟨_, _, e⟩

/-- The elements of a row that was just made. -/
theorem elems_new (w : World) (c : Array Value) (t : TypeId) (xs : List Value) (cap : Nat) (h : c.toList = xs) : Elems (w.alloc (.cells c t (0, 0))) (.slice (some ⟨w.heap.size, 0, none⟩) xs.length cap) xs := by
  subst h
  refine ⟨_, cap, rfl, fun i x hx => ⟨w.heap.size, 0, rfl, lt_of_block (block_alloc_new _ _), ?_⟩⟩
  rw [Nat.zero_add, cell_of_block (block_alloc_new _ _), ← Array.getElem?_toList]
  exact hx

/-- The changes of a commit of JournalLong. -/
def longL (c i : Nat) (k : Nat) : List (Int × Int) := (List.range k).map fun k : Nat => ((c : Int) + (k : Int) * 3, (i : Int) + (k : Int))
theorem longL_length (c i k : Nat) : (longL c i k).length = k := by simp [longL]
theorem longL_succ (c i k : Nat) : longL c i (k + 1) = longL c i k ++ [((c : Int) + (k : Int) * 3, (i : Int) + (k : Int))] := by
  unfold longL; rw [List.range_succ, List.map_append]; rfl
theorem longL_ok (c i k : Nat) (h : c ≤ 1000 ∧ i ≤ 1000 ∧ k ≤ 1000) : ∀ p ∈ longL c i k, okI p.1 ∧ okI p.2 := fun p hp => by
  obtain ⟨j, hj, rfl⟩ := List.mem_map.1 hp
  have := List.mem_range.1 hj
  exact ⟨(okI_iff _).2 (by simp only; omega), (okI_iff _).2 (by simp only; omega)⟩

/-- A journal that lives, not cut; its homes are the state f. -/
def LRel (i : Nat) (J : JSt) (D : DSt) (f : Nat → Int) : Prop := ∃ s, Live 275 1 i J D s ∧ D.lim = none ∧ D.ops ≤ 100 + 200 * i ∧ isTo s f 30 = true

theorem LRel.start {J : JSt} {D : DSt} (h : Live 275 1 0 J D (fun _ => zeros)) (hlim : D.lim = none) (hops : D.ops ≤ 100) : LRel 0 J D zeroS := ⟨_, h, hlim, by omega, isTo_zero⟩

/-- A commit of changes to a state. -/
theorem S_CommitS {w0 : Gnd} {w : World} {rs : List Res} {H : Hdl} {jh : JHdl} {J : JSt} (h : St w0 w (jrn H jh J :: rs)) (a iv : Nat) {D : DSt} (hr : rs[a]? = some (dev H D)) {v : Value} {vs : List Value} {R : List Nat × List Int × (Nat → Int)} (hl : rs[iv]? = some (chgs v ((chK R).map fun k : Nat => (k : Int)) vs (chD R)))
    {i : Nat} {f : Nat → Int} (hR : ChOk 275 f R) (hL : LRel i J D f) (hi : i ≤ 1000) (q : iv ≠ a) :
    Calls Try.prog 47 #[.pointer (some ⟨jh.jb, 0, none⟩), v] w fun e w' => ∃ jh' J' D', jh'.jb = jh.jb ∧ e = .returned (.int .i64 0) ∧ St w0 w' (jrn H jh' J' :: rs.set a (dev H D')) ∧ LRel (i + 1) J' D' R.2.2 := by
  obtain ⟨s, hl1, hlim, hops, hto⟩ := hL
  refine (S_CommitL h a iv hr hl hl1 (hR.may (by omega)) (chD_512 R) (by omega) (by omega) (by omega) (by omega) (by omega) hlim q).mono ?_
  rintro e w' ⟨jh', J', D', hjb, he, hst, hl2, hlim2, hops2⟩
  exact ⟨jh', J', D', hjb, he, hst, _, hl2, hlim2, by omega, isTo_over hR hto⟩

/-- Is the state told? -/
theorem S_isS {w0 : Gnd} {w : World} {rs : List Res} {H : Hdl} {jh : JHdl} {J : JSt} (h : St w0 w (jrn H jh J :: rs)) (a : Nat) {D : DSt} (hr : rs[a]? = some (dev H D)) {i : Nat} {f : Nat → Int} (hL : LRel i J D f) (hi : i ≤ 1000) :
    Calls Try.prog 48 #[.pointer (some ⟨jh.jb, 0, none⟩), .agg (stC 30 f)] w fun e w' => e = .returned (.bool true) ∧ St w0 w' (jrn H jh J :: rs) := by
  obtain ⟨s, hl1, hlim, hops, hto⟩ := hL
  have := S_is h a hr hl1 (by omega) (by omega) (by omega) f
  rwa [hto] at this

/-- A crash, and opening for good: what both leave. -/
theorem S_openedS {w0 : Gnd} {w : World} {rs : List Res} {H' : Hdl} {J : JSt} {D : DSt} {i : Nat} {f : Nat → Int} (hL : LRel i J D f) (hi : i ≤ 1000) (picks : List Int) (h : St w0 w (dev H' (D.crash picks) :: rs)) :
    Calls Try.prog 55 #[.pointer (some ⟨H'.b, 0, none⟩), .slice none 0 0, .slice none 0 0] w fun e w' => ∃ H2 jh J2 D2, e = .returned (.tuple #[.pointer (some ⟨H2.b, 0, none⟩), .pointer (some ⟨jh.jb, 0, none⟩), .bool true]) ∧ St w0 w' (jrn H2 jh J2 :: dev H2 D2 :: voidR :: rs) ∧ LRel i J2 D2 f := by
  obtain ⟨s, hl1, hlim, hops, hto⟩ := hL
  obtain ⟨p1, p2, p3, p4, p5, p6⟩ := hl1.wf' picks
  refine (S_opened h 0 rfl p1 p2 p3 p4 (by omega) (by omega) (by omega) (by omega) p5 _ _ [] [] ⟨none, 0, rfl, fun i x hx => by simp at hx⟩ ⟨none, 0, rfl, fun i x hx => by simp at hx⟩ (fun _ h => by cases h) (fun _ h => by cases h) (by decide)).mono ?_
  rintro e w' ⟨H2, jh, J2, D2, he, hst, hl2, hlim2, hops2⟩
  have h0 : (D.crash picks).ops = 0 := rfl
  exact ⟨H2, jh, J2, D2, he, hst, s, hl2, hlim2, by omega, hto⟩

theorem LRel.opsLe {i : Nat} {J : JSt} {D : DSt} {f : Nat → Int} (h : LRel i J D f) : D.ops ≤ 100 + 200 * i := by
  obtain ⟨s, _, _, h3, _⟩ := h
  exact h3

set_option maxHeartbeats 1000000 in
set_option maxRecDepth 100000 in
theorem journalLong_any (w : World) (n each crash : Int) (hn : okI n) (he : okI each) (hc : okI crash) :
    Calls Try.prog 17 #[.int .i64 n, .int .i64 each, .int .i64 crash] w fun e w' => e = .returned (.bool true) ∧ Frm NoB w w' := by
  have hcb := (okI_iff _).1 hc
  clear hn he hc
  by_cases hg : n < 0 ∨ 60 < n ∨ each < 1 ∨ 12 < each
  · clear hcb
    by_cases h0 : n < 0
    · clear hg
      go_enter Try.func17, Try.ntmps17
      go_wp2_with fail
      refine (awake4_any (St.start w)).mono ?_
      rintro e w5 ⟨rfl, h5⟩
      have HF5 := Lib.hid h5.base
      clear h5
      go_wp2
      go_ret
      exact ⟨rfl, HF5.out⟩
    by_cases h1 : 60 < n
    · clear hg
      go_enter Try.func17, Try.ntmps17
      go_wp2_with fail
      refine (awake4_any (St.start w)).mono ?_
      rintro e w5 ⟨rfl, h5⟩
      have HF5 := Lib.hid h5.base
      clear h5
      go_wp2
      go_ret
      exact ⟨rfl, HF5.out⟩
    by_cases h2 : each < 1
    · clear hg
      go_enter Try.func17, Try.ntmps17
      go_wp2_with fail
      refine (awake4_any (St.start w)).mono ?_
      rintro e w5 ⟨rfl, h5⟩
      have HF5 := Lib.hid h5.base
      clear h5
      go_wp2
      go_ret
      exact ⟨rfl, HF5.out⟩
    have h3 : 12 < each := by omega
    · clear hg
      go_enter Try.func17, Try.ntmps17
      go_wp2_with fail
      refine (awake4_any (St.start w)).mono ?_
      rintro e w5 ⟨rfl, h5⟩
      have HF5 := Lib.hid h5.base
      clear h5
      go_wp2
      go_ret
      exact ⟨rfl, HF5.out⟩
  obtain ⟨m, rfl⟩ : ∃ m : Nat, n = m := ⟨n.toNat, by omega⟩
  obtain ⟨q, rfl⟩ : ∃ q : Nat, each = q := ⟨each.toNat, by omega⟩
  have hm0 : ¬ (m : Int) < 0 := by omega
  have hm60 : ¬ 60 < (m : Int) := by omega
  have hq1 : ¬ (q : Int) < 1 := by omega
  have hq12 : ¬ 12 < (q : Int) := by omega
  have HF := Lib.hid (S_fresh (St.start w))
  clear hg
  go_enter Try.func17, Try.ntmps17
  go_wp2_with fail
  refine HF.out.mono ?_
  clear HF
  rintro e w1 ⟨H, jh, J, D, rfl, h1, hl1, hlim1, hops1⟩
  have HR1 := Lib.hid (LRel.start hl1 hlim1 hops1)
  have H1 := Lib.hid h1
  clear h1 hl1 hlim1 hops1
  go_upto_region 7 with (fail)
  have H2 := Lib.hid (H1.out.newArr #[.int .i64 0, .int .i64 0, .int .i64 0, .int .i64 0, .int .i64 0, .int .i64 0, .int .i64 0, .int .i64 0, .int .i64 0, .int .i64 0, .int .i64 0, .int .i64 0, .int .i64 0, .int .i64 0, .int .i64 0, .int .i64 0, .int .i64 0, .int .i64 0, .int .i64 0, .int .i64 0, .int .i64 0, .int .i64 0, .int .i64 0, .int .i64 0, .int .i64 0, .int .i64 0, .int .i64 0, .int .i64 0, .int .i64 0, .int .i64 0] 67 neSt)
  obtain ⟨w2, hw2⟩ : ∃ w2, w2 = w1.alloc (.cells #[.int .i64 0, .int .i64 0, .int .i64 0, .int .i64 0, .int .i64 0, .int .i64 0, .int .i64 0, .int .i64 0, .int .i64 0, .int .i64 0, .int .i64 0, .int .i64 0, .int .i64 0, .int .i64 0, .int .i64 0, .int .i64 0, .int .i64 0, .int .i64 0, .int .i64 0, .int .i64 0, .int .i64 0, .int .i64 0, .int .i64 0, .int .i64 0, .int .i64 0, .int .i64 0, .int .i64 0, .int .i64 0, .int .i64 0, .int .i64 0] 67 (0, 0)) := ⟨_, rfl⟩
  rw [← hw2] at H2 ⊢
  rw [show (#[.int .i64 0, .int .i64 0, .int .i64 0, .int .i64 0, .int .i64 0, .int .i64 0, .int .i64 0, .int .i64 0, .int .i64 0, .int .i64 0, .int .i64 0, .int .i64 0, .int .i64 0, .int .i64 0, .int .i64 0, .int .i64 0, .int .i64 0, .int .i64 0, .int .i64 0, .int .i64 0, .int .i64 0, .int .i64 0, .int .i64 0, .int .i64 0, .int .i64 0, .int .i64 0, .int .i64 0, .int .i64 0, .int .i64 0, .int .i64 0] : Array Value) = stC 30 zeroS from rfl] at H2
  clear hw2 H1
  generalize w1.heap.size = sb at *
  have H2 := Lib.hid (show St w w2 (arr sb (stC 30 zeroS) 67 neSt :: jrn H jh J :: dev H D :: []) from H2.out)
  go_wp2_with fail
  go_loopw [7, 8, 11] (fun t7 t8 t11 wr => ∃ (i : Nat) (H' : Hdl) (jh' : JHdl) (J' : JSt) (D' : DSt) (f : Nat → Int), i ≤ m ∧ t7 = .pointer (some ⟨H'.b, 0, none⟩) ∧ t8 = .pointer (some ⟨jh'.jb, 0, none⟩) ∧ t11 = .int .i64 i ∧ St w wr (arr sb (stC 30 f) 67 neSt :: jrn H' jh' J' :: dev H' D' :: []) ∧ Hid (LRel i J' D' f)) (fun _ _ t _ => m - (intOf t).toNat)
  case atStart => exact ⟨0, H, jh, J, D, zeroS, Nat.zero_le _, rfl, rfl, rfl, H2.out, HR1⟩
  case round =>
    clear H2 HR1
    obtain ⟨i, H', jh', J', D', f, hi, rfl, rfl, rfl, hst, HR⟩ := hrel
    have HST := Lib.hid hst
    clear hst
    by_cases hlt : i < m
    · have hi0 : (0 : Int) ≤ (i : Int) := Int.natCast_nonneg _
      have hi1 : (i : Int) < (m : Int) := by omega
      have hi2 : (i : Int) < 60 := by omega
      obtain ⟨c, hc⟩ : ∃ c : Nat, (i : Int) * (q : Int) = c := ⟨i * q, by rw [Int.natCast_mul]⟩
      have hc2 : (c : Int) ≤ 720 := by
        rw [← hc]
        have : i * q ≤ 60 * 12 := Nat.mul_le_mul (by omega) (by omega)
        have h2 : ((i * q : Nat) : Int) = (i : Int) * (q : Int) := Int.natCast_mul i q
        omega
      have hc0 : (0 : Int) ≤ (c : Int) := Int.natCast_nonneg _
      have H3 := Lib.hid (show St w wr (rowR 82 nePr 2 (.slice none 0 0) (longL c i 0).length (flatP (longL c i 0)) :: arr sb (stC 30 f) 67 neSt :: jrn H' jh' J' :: dev H' D' :: []) from HST.out.rowNil _ nePr 2)
      clear HST
      go_wp2_with fail
      go_loopw [12, 13] (fun v t wr => ∃ k : Nat, k ≤ q ∧ t = .int .i64 k ∧ St w wr (rowR 82 nePr 2 v (longL c i k).length (flatP (longL c i k)) :: arr sb (stC 30 f) 67 neSt :: jrn H' jh' J' :: dev H' D' :: [])) (fun _ t _ => q - (intOf t).toNat)
      case atStart => exact ⟨0, Nat.zero_le _, rfl, H3.out⟩
      case round =>
        clear H3
        obtain ⟨k, hk, rfl, hst⟩ := hrel
        have HST := Lib.hid hst
        clear hst
        by_cases hkt : k < q
        · have hk0 : (0 : Int) ≤ (k : Int) := Int.natCast_nonneg _
          have hk1 : (k : Int) < (q : Int) := by omega
          obtain ⟨x, hx⟩ : ∃ x : Int, (c : Int) + (k : Int) * 3 = x := ⟨_, rfl⟩
          obtain ⟨y, hy⟩ : ∃ y : Int, (i : Int) + (k : Int) = y := ⟨_, rfl⟩
          have HLS : Hid (longL c i (k + 1) = longL c i k ++ [(x, y)]) := Lib.hid (by rw [longL_succ, hx, hy])
          have HLN : Hid ((longL c i k).length = k) := Lib.hid (longL_length c i k)
          obtain ⟨va, vc, rfl⟩ := HST.out.rowLen (i := 0) rfl
          obtain ⟨L, hL⟩ : ∃ L, longL c i k = L := ⟨_, rfl⟩
          rw [hL] at HST HLS HLN ⊢
          have hx1 : -9223372036854775808 ≤ x ∧ x ≤ 9223372036854775807 := by omega
          have HO := Lib.hid (World.ownsRow.alloc (HST.out.get (i := 0) rfl) (.cells #[.int .i64 x, .int .i64 y] 82 (0, 0)))
          have HNW : Hid (∀ (j : Nat) u, ([.int .i64 x, .int .i64 y] : List Value)[j]? = some u → (wr.alloc (.cells #[.int .i64 x, .int .i64 y] 82 (0, 0))).cell? ((⟨wr.heap.size, 0, none⟩ : Addr).add j) = some u) := Lib.hid (new_two wr _ _ _)
          obtain ⟨ii, hi0i, hz0, hz1, hz2⟩ := info_parts infoPr
          clear hL
          go_wp2_with (at_builtin; refine wpList_append_own_at _ rfl _ _ 76 rfl 0 82 ii (.agg #[.int .i64 0, .int .i64 0]) 2 16 Try.underlying76 hi0i hz0 hz1 hz2 rfl (by decide) _ _ _ rfl HO.out ⟨wr.heap.size, 0, none⟩ 1 1 [.int .i64 x, .int .i64 y] rfl rfl HNW.out ?c0 ?c1 ?c2 ?c3 ?_)
          case c0 => intro u hu; simp at hu; rcases hu with rfl | rfl <;> rfl
          case c1 => rw [HLN.out]; simp only [maxLen]; omega
          case c2 => rw [HLN.out]; omega
          try case c3 => omega
          intro v' w5 ho hg2 hnn hat
          have h7 := HST.out.rowAppend 0 rfl (.cells #[.int .i64 x, .int .i64 y] 82 (0, 0)) (m := (L ++ [(x, y)]).length) (ys := flatP (L ++ [(x, y)])) (by rw [List.length_append, flatP_snoc]; exact ho) hg2 (by rw [size_alloc]; first | exact hat | (rw [size_alloc] at hat; exact hat))
          have H7 := Lib.hid (show St w w5 (rowR 82 nePr 2 v' (L ++ [(x, y)]).length (flatP (L ++ [(x, y)])) :: arr sb (stC 30 f) 67 neSt :: jrn H' jh' J' :: dev H' D' :: []) from h7)
          rw [← HLS.out] at H7
          clear ho hg2 hnn hat h7 HO HNW
          go_wp2
          first | exact ⟨⟨k + 1, hkt, by go_num, H7.out⟩, by simp [intOf]; omega⟩ | (go_roundw; case rel => first | exact ⟨k + 1, hkt, by go_num, H7.out⟩ | ((repeat apply Exists.intro); exact ⟨⟨k + 1, hkt, by go_num, H7.out⟩, rfl⟩); case measure => simp [intOf]; omega)
        · have hk1 : ¬ (k : Int) < (q : Int) := by omega
          obtain rfl : k = q := by omega
          have HOKL := Lib.hid (longL_ok c i k (by omega))
          have HLN : Hid ((longL c i k).length = k) := Lib.hid (longL_length c i k)
          obtain ⟨L, hL⟩ : ∃ L, longL c i k = L := ⟨_, rfl⟩
          obtain ⟨va, vc, rfl⟩ := HST.out.rowLen (i := 0) rfl
          rw [hL] at HST HLN HOKL ⊢
          obtain ⟨R, hR⟩ : ∃ R, chTo L f L.length = R := ⟨_, rfl⟩
          have HRK : Hid (ChOk 275 f R) := Lib.hid (hR ▸ chTo_ok 275 L f L.length)
          have HCH := Lib.hid (S_changes HST.out (.slice va L.length vc) L f (fun y pre hy => St.pairsPre hy) HOKL.out (by rw [HLN.out]; omega))
          rw [hR] at HCH
          have HG := Lib.hid (show wr.heap[sb]? = some (.cells (stC 30 f) 67 (0, 0)) from HST.out.get (i := 1) rfl)
          clear hR hL
          go_wp2_with (refine loadSt rfl _ rfl sb rfl f HG.out ?_)
          refine HCH.out.mono ?_
          clear HCH HG HST
          rintro e w4 ⟨v4, vs, rfl, h4⟩
          have HX4 := Lib.hid (h4.newArr #[.int .i64 0, .int .i64 0, .int .i64 0, .int .i64 0, .int .i64 0, .int .i64 0, .int .i64 0, .int .i64 0, .int .i64 0, .int .i64 0, .int .i64 0, .int .i64 0, .int .i64 0, .int .i64 0, .int .i64 0, .int .i64 0, .int .i64 0, .int .i64 0, .int .i64 0, .int .i64 0, .int .i64 0, .int .i64 0, .int .i64 0, .int .i64 0, .int .i64 0, .int .i64 0, .int .i64 0, .int .i64 0, .int .i64 0, .int .i64 0] 67 neSt)
          have HN4 : Hid ((w4.alloc (.cells #[.int .i64 0, .int .i64 0, .int .i64 0, .int .i64 0, .int .i64 0, .int .i64 0, .int .i64 0, .int .i64 0, .int .i64 0, .int .i64 0, .int .i64 0, .int .i64 0, .int .i64 0, .int .i64 0, .int .i64 0, .int .i64 0, .int .i64 0, .int .i64 0, .int .i64 0, .int .i64 0, .int .i64 0, .int .i64 0, .int .i64 0, .int .i64 0, .int .i64 0, .int .i64 0, .int .i64 0, .int .i64 0, .int .i64 0, .int .i64 0] 67 (0, 0))).heap[w4.heap.size]? = some (.cells #[.int .i64 0, .int .i64 0, .int .i64 0, .int .i64 0, .int .i64 0, .int .i64 0, .int .i64 0, .int .i64 0, .int .i64 0, .int .i64 0, .int .i64 0, .int .i64 0, .int .i64 0, .int .i64 0, .int .i64 0, .int .i64 0, .int .i64 0, .int .i64 0, .int .i64 0, .int .i64 0, .int .i64 0, .int .i64 0, .int .i64 0, .int .i64 0, .int .i64 0, .int .i64 0, .int .i64 0, .int .i64 0, .int .i64 0, .int .i64 0] 67 (0, 0))) := Lib.hid (block_alloc_new _ _)
          have h5 := HX4.out.setRow 0 rfl (stC 30 R.2.2)
          have H5 := Lib.hid (show St w _ (arr w4.heap.size (stC 30 R.2.2) 67 neSt :: chgs v4 ((chK R).map fun k : Nat => (k : Int)) vs (chD R) :: rowR 82 nePr 2 (.slice va L.length vc) L.length (flatP L) :: arr sb (stC 30 f) 67 neSt :: jrn H' jh' J' :: dev H' D' :: []) from h5)
          have H5 := Lib.hid (H5.out.perm ((List.perm_append_comm (l₁ := [_, _, _, _]) (l₂ := [_])).append_right [_]))
          clear h4 h5 HX4
          go_wp2_with (refine wpList_store_row rfl _ _ _ rfl w4.heap.size (stC 30 R.2.2) rfl rfl _ _ HN4.out (infoSt _) (by rw [stC_size]; rfl) (stC_one _ _) ?_)
          obtain ⟨w5, hw5⟩ : ∃ w5, w5 = (w4.alloc (.cells #[.int .i64 0, .int .i64 0, .int .i64 0, .int .i64 0, .int .i64 0, .int .i64 0, .int .i64 0, .int .i64 0, .int .i64 0, .int .i64 0, .int .i64 0, .int .i64 0, .int .i64 0, .int .i64 0, .int .i64 0, .int .i64 0, .int .i64 0, .int .i64 0, .int .i64 0, .int .i64 0, .int .i64 0, .int .i64 0, .int .i64 0, .int .i64 0, .int .i64 0, .int .i64 0, .int .i64 0, .int .i64 0, .int .i64 0, .int .i64 0] 67 (0, 0))).setRow w4.heap.size (stC 30 R.2.2) := ⟨_, rfl⟩
          rw [← hw5] at H5 ⊢
          clear hw5 HN4
          generalize w4.heap.size = tb at *
          have H5 := Lib.hid (show St w w5 (jrn H' jh' J' :: arr tb (stC 30 R.2.2) 67 neSt :: chgs v4 ((chK R).map fun k : Nat => (k : Int)) vs (chD R) :: rowR 82 nePr 2 (.slice va L.length vc) L.length (flatP L) :: arr sb (stC 30 f) 67 neSt :: dev H' D' :: []) from H5.out)
          have HCM := Lib.hid (S_CommitS H5.out 4 1 rfl rfl HRK.out HR.out (by omega) (by omega))
          clear HR HRK HOKL
          go_wp2_with fail
          refine HCM.out.mono ?_
          clear HCM
          rintro e w6 ⟨jh6, J6, D6, hjb, rfl, h6, hR6⟩
          have H6 := Lib.hid (show St w w6 (jrn H' jh6 J6 :: arr tb (stC 30 R.2.2) 67 neSt :: chgs v4 ((chK R).map fun k : Nat => (k : Int)) vs (chD R) :: rowR 82 nePr 2 (.slice va L.length vc) L.length (flatP L) :: arr sb (stC 30 f) 67 neSt :: dev H' D6 :: []) from h6)
          have HR6 := Lib.hid hR6
          have HG6 := Lib.hid (show w6.heap[tb]? = some (.cells (stC 30 R.2.2) 67 (0, 0)) from H6.out.get (i := 1) rfl)
          have HS6 := Lib.hid (show w6.heap[sb]? = some (.cells (stC 30 f) 67 (0, 0)) from H6.out.get (i := 4) rfl)
          have h7 := H6.out.setRow 4 rfl (stC 30 R.2.2)
          have H7 := Lib.hid (show St w _ (jrn H' jh6 J6 :: arr tb (stC 30 R.2.2) 67 neSt :: chgs v4 ((chK R).map fun k : Nat => (k : Int)) vs (chD R) :: rowR 82 nePr 2 (.slice va L.length vc) L.length (flatP L) :: arr sb (stC 30 R.2.2) 67 neSt :: dev H' D6 :: []) from h7)
          have H7 := Lib.hid (H7.out.drop2nd.drop2nd.drop2nd.swap)
          rw [← hjb]
          clear h6 hR6 h7 H5 H6 hjb
          go_upto_region 19 with (first | refine loadSt rfl _ rfl tb rfl R.2.2 HG6.out ?_ | refine storeSt rfl _ _ rfl sb R.2.2 rfl rfl (stC 30 f) (stC_size _ _) HS6.out ?_)
          obtain ⟨w7, hw7⟩ : ∃ w7, w7 = w6.setRow sb (stC 30 R.2.2) := ⟨_, rfl⟩
          rw [← hw7] at H7 ⊢
          clear hw7 HG6 HS6
          by_cases hcr : 0 < crash
          · obtain ⟨b, hb⟩ : ∃ b : Bool, ((i : Int) % crash == crash - 1) = b := ⟨_, rfl⟩
            cases b with
            | false =>
              go_wp2
              first | exact ⟨⟨i + 1, _, _, _, _, _, hlt, rfl, rfl, by go_num, H7.out, HR6⟩, by simp [intOf]; omega⟩ | (go_roundw; case rel => first | exact ⟨i + 1, _, _, _, _, _, hlt, rfl, rfl, by go_num, H7.out, HR6⟩ | ((repeat apply Exists.intro); exact ⟨⟨i + 1, _, _, _, _, _, hlt, rfl, rfl, by go_num, H7.out, HR6⟩, rfl⟩); case measure => simp [intOf]; omega)
            | true =>
              have HA := Lib.hid (H7.out.newArr #[.int .i64 (i : Int), .int .i64 ((i : Int) + 1), .int .i64 ((i : Int) + 2), .int .i64 1, .int .i64 0, .int .i64 2] 3 neI)
              have HE := Lib.hid (elems_new w7 #[.int .i64 (i : Int), .int .i64 ((i : Int) + 1), .int .i64 ((i : Int) + 2), .int .i64 1, .int .i64 0, .int .i64 2] 3 (([(i : Int), (i : Int) + 1, (i : Int) + 2, 1, 0, 2] : List Int).map IntK) 6 rfl)
              have HCR := Lib.hid (S_Crash HA.out 3 rfl (by have := HR6.out.opsLe; omega) _ [(i : Int), (i : Int) + 1, (i : Int) + 2, 1, 0, 2] HE.out (fun p hp => (okI_iff _).2 (by simp at hp; omega)) (by show (6 : Nat) < _; omega))
              clear HE HA
              go_wp2_with fail
              refine HCR.out.mono ?_
              clear HCR H7
              rintro e w8 ⟨H8, rfl, h8⟩
              have HOP := Lib.hid (S_openedS HR6.out (by omega) _ h8)
              clear h8 HR6
              go_wp2_with fail
              refine HOP.out.mono ?_
              clear HOP
              rintro e w9 ⟨H9, jh9, J9, D9, rfl, h9, hR9⟩
              have HX9 := Lib.hid h9
              have HR9 := Lib.hid hR9
              have HG9 := Lib.hid (show w9.heap[sb]? = some (.cells (stC 30 R.2.2) 67 (0, 0)) from HX9.out.get (i := 4) rfl)
              have HIS := Lib.hid (S_isS HX9.out 0 rfl HR9.out (by omega))
              clear h9 hR9
              go_wp2_with (refine loadSt rfl _ rfl sb rfl R.2.2 HG9.out ?_)
              refine HIS.out.mono ?_
              clear HIS HX9 HG9
              rintro e w10 ⟨rfl, h10⟩
              have HY := Lib.hid (show St w w10 (jrn H9 jh9 J9 :: dev H9 D9 :: arr sb (stC 30 R.2.2) 67 neSt :: []) from h10.sub (List.Sublist.cons_cons _ (List.Sublist.cons_cons _ (List.Sublist.cons _ (List.Sublist.cons _ (List.Sublist.cons_cons _ (List.nil_sublist _)))))))
              have HY := Lib.hid (HY.out.perm (List.perm_append_comm (l₁ := [_, _]) (l₂ := [_])))
              have HY := Lib.hid (show St w w10 (arr sb (stC 30 R.2.2) 67 neSt :: jrn H9 jh9 J9 :: dev H9 D9 :: []) from HY.out)
              clear h10
              go_wp2
              first | exact ⟨⟨i + 1, _, _, _, _, _, hlt, rfl, rfl, by go_num, HY.out, HR9⟩, by simp [intOf]; omega⟩ | (go_roundw; case rel => first | exact ⟨i + 1, _, _, _, _, _, hlt, rfl, rfl, by go_num, HY.out, HR9⟩ | ((repeat apply Exists.intro); exact ⟨⟨i + 1, _, _, _, _, _, hlt, rfl, rfl, by go_num, HY.out, HR9⟩, rfl⟩); case measure => simp [intOf]; omega)
          · go_wp2
            first | exact ⟨⟨i + 1, _, _, _, _, _, hlt, rfl, rfl, by go_num, H7.out, HR6⟩, by simp [intOf]; omega⟩ | (go_roundw; case rel => first | exact ⟨i + 1, _, _, _, _, _, hlt, rfl, rfl, by go_num, H7.out, HR6⟩ | ((repeat apply Exists.intro); exact ⟨⟨i + 1, _, _, _, _, _, hlt, rfl, rfl, by go_num, H7.out, HR6⟩, rfl⟩); case measure => simp [intOf]; omega)
    · have hi1 : ¬ (i : Int) < (m : Int) := by omega
      have HG := Lib.hid (show wr.heap[sb]? = some (.cells (stC 30 f) 67 (0, 0)) from HST.out.get (i := 0) rfl)
      have HIS := Lib.hid (S_isS HST.out.swap 1 rfl HR.out (by omega))
      clear HST
      go_wp2_with (refine loadSt rfl _ rfl sb rfl f HG.out ?_)
      refine HIS.out.mono ?_
      clear HIS HG
      rintro e w4 ⟨rfl, h4⟩
      have H4 := Lib.hid h4
      clear h4
      go_wp2_with fail
      refine (awake4_any H4.out).mono ?_
      rintro e w5 ⟨rfl, h5⟩
      have HF5 := Lib.hid h5.base
      clear h5
      go_wp2
      go_ret
      exact ⟨rfl, HF5.out⟩
end Go.Proofs.Ytkanfpmmgaipnaa
