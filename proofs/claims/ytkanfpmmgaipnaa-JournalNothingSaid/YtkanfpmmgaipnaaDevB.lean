/-
  The device's keys; last.
-/
import Derived.Test.YtkanfpmmgaipnaaDevA
import Derived.Laws.CopyOwn
namespace Go.Proofs.Ytkanfpmmgaipnaa
open Go.ChangeMaps Go.MapKept Go.RowKit

theorem zeroInt (W : World) : (zeroValue 3).run Try.prog W = .ok (.int .i64 0) W := by kernel_rfl
theorem zeroBytes (W : World) : (zeroValue 31).run Try.prog W = .ok (.slice none 0 0) W := by kernel_rfl
theorem laidOutP : laidOutB Try.prog = true := by kernel_rfl
theorem typesSz : ∃ m, Try.prog.types.size = m + 1 := ⟨Try.prog.types.size - 1, by kernel_rfl⟩
theorem cellsInt : Try.prog.cellsOf 3 = 1 := by kernel_rfl

theorem keyLits_int (d : Nat) (x : Int) (hx : (Lit.int .i64 x).wf = true) : Try.prog.keyLits (d + 1) 3 [.int .i64 x] = some [.int .i64 x] := by
  unfold Program.keyLits
  simp only [Try.underlying3, hx, and_self, if_true]

theorem keyTyPending : Try.prog.keyType 115 = true := by kernel_rfl
theorem cellsPending : Try.prog.cellsOf 115 = 2 := by kernel_rfl
theorem keyOf_pending (a b : Int) (wa : okI a) (wb : okI b) :
    keyOf Try.prog 115 (.agg #[.int .i64 a, .int .i64 b]) = some (.string (keyBytes [.int .i64 a, .int .i64 b])) := by
  obtain ⟨d, hd⟩ := typesSz
  unfold keyOf
  simp only [Try.underlying115]
  rw [if_pos (by simp [keyTyPending, Value.formed, Try.underlying115, cellsPending]), hd]
  unfold Program.keyLits
  simp only [Try.underlying115, Value.cells]
  rw [if_pos (by rw [cellsPending]; exact ⟨rfl, by decide +kernel⟩)]
  simp only [List.mapM_cons, List.mapM_nil, cellsInt, List.drop_zero, List.take_succ_cons, List.take_zero, List.drop_succ_cons, keyLits_int _ _ wa, keyLits_int _ _ wb]
  rfl

theorem kindPair : KeyKind Try.prog 115 PairK okP := by
  have K : WideMaps.KeyLaw Try.prog 115 := deep_law_laid laidOutP (m := 2) (by omega) (by decide +kernel) (by kernel_rfl) (by kernel_rfl)
  refine ⟨Go.Maps.Keyed.of_law K, fun a ha => ⟨_, keyOf_pending a.1 a.2 ha.1 ha.2⟩, fun a b h => ?_⟩
  simp only [PairK, Value.agg.injEq] at h
  have h0 := congrArg (fun x => x[0]?) h
  have h1 := congrArg (fun x => x[1]?) h
  simp at h0 h1
  exact Prod.ext h0 h1

/-- A block as a value: nil where it is noughts that nobody wrote. -/
def LastV (w : World) (v : Value) (bs : Blk) (R : Nat → Prop) : Prop := (v = .slice none 0 0 ∧ bs = zeros) ∨ BytesAt w v bs R

theorem DevAt.okn {w : World} {h : Hdl} {D : DSt} {R : Nat → Prop} (H : DevAt w h D R) {k : Int} (h0 : 0 ≤ k) (hk : k < D.n) : okI k := by
  have := H.wf.n
  rw [okI_iff]; omega

theorem last_any (w : World) (h : Hdl) (D : DSt) (R : Nat → Prop) (H : DevAt w h D R) (k : Int) (h0 : 0 ≤ k) (hk : k < D.n) (ho : D.ops < 4611686018427387904) :
    Calls Try.prog 71 #[.pointer (some ⟨h.b, 0, none⟩), .int .i64 k] w fun e w' => w = w' ∧ ∃ v, e = .returned v ∧ LastV w v (D.last k.toNat) R ∧ (D.pend k.toNat ≠ [] → BytesAt w v (D.last k.toNat) R) := by
  have hok := H.okn h0 hk
  obtain ⟨left, hb, _, _⟩ := H.blk
  obtain ⟨_, c1, c2, c3, _, _, _, _⟩ := devObj_cells h _ _ _ _ hb
  obtain ⟨nf, f, Mf, f1, f2⟩ := H.fl
  obtain ⟨ng, g, Mg, g1, _⟩ := H.wr
  obtain ⟨nm, m, Mm, m1, _⟩ := H.mn
  have hkn : ((k.toNat : Nat) : Int) = k := by omega
  have hm := m1 k.toNat (by rw [hkn]; exact hok)
  rw [hkn] at hm
  have hfew := H.wf.few k.toNat
  have l1 := Mm.lookup kindInt Try.underlying96 hok zeroInt w rfl
  have l3 := Mf.lookup kindInt Try.underlying109 hok zeroBytes w rfl
  rw [hm] at l1
  by_cases hp : D.pend k.toNat = []
  · rw [if_pos hp] at l1
    have hl : LastV w ((f k).getD (.slice none 0 0)) (D.last k.toNat) R := by
      unfold DSt.last
      rw [hp]
      cases hf : f k with
      | none => exact .inl ⟨rfl, f1 k hok hf h0 hk⟩
      | some v => exact .inr (f2 k v hok hf).2.2
    have HL := Lib.hid (And.intro hl (fun (x : D.pend k.toNat ≠ []) => (absurd hp x : BytesAt w ((f k).getD (.slice none 0 0)) (D.last k.toNat) R)))
    clear hl hm hkn hp hb f1 f2 g1 m1
    generalize (f k).getD (.slice none 0 0) = v at *
    go_enter Try.func71, Try.ntmps71
    go_wp2
    go_ret
    exact ⟨rfl, _, rfl, HL.out⟩
  · rw [if_neg hp] at l1
    obtain ⟨j, hj⟩ : ∃ j, (D.pend k.toNat).length = j + 1 := ⟨(D.pend k.toNat).length - 1, by
      have : (D.pend k.toNat).length ≠ 0 := fun e => hp (List.eq_nil_of_length_eq_zero e)
      omega⟩
    rw [hj] at l1 hfew
    obtain ⟨v, hv, hbv⟩ := g1 k.toNat j (by omega)
    have hokj : okI ((j : Int) + 1) := by rw [okI_iff]; omega
    have l2 := Mg.lookup kindPair Try.underlying110 (a := (k, (j : Int) + 1)) ⟨hok, hokj⟩ zeroBytes w rfl
    rw [hkn] at hv
    rw [hv] at l2
    have hl : BytesAt w v (D.last k.toNat) R := by
      have e1 : D.last k.toNat = (D.pend k.toNat).getD j [] := by
        unfold DSt.last
        rw [List.getLastD_eq_getLast?, List.getLast?_eq_getElem?, hj, List.getD_eq_getElem?_getD, Nat.add_sub_cancel, List.getElem?_eq_getElem (by omega)]
        rfl
      rw [e1]; exact hbv
    have HL : Hid (LastV w v (D.last k.toNat) R ∧ (D.pend k.toNat ≠ [] → BytesAt w v (D.last k.toNat) R)) := Lib.hid ⟨.inr hl, fun _ => hl⟩
    have hc : ((j + 1 : Nat) : Int) = (j : Int) + 1 := by omega
    rw [hc] at l1
    simp only [Option.getD_some] at l1 l2
    unfold PairK at l2
    have hj0 : (0 : Int) < (j : Int) + 1 := by omega
    clear hl hm hkn hp hb f1 f2 g1 m1 hc hv hbv hj l3
    go_enter Try.func71, Try.ntmps71
    go_wp2
    go_ret
    exact ⟨rfl, _, rfl, HL.out⟩
end Go.Proofs.Ytkanfpmmgaipnaa
