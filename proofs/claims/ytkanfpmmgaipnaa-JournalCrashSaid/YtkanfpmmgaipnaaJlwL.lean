/-
  Commits over a device that may be cut, of changes to a state: what is left behind a crash.
-/
import Derived.Test.YtkanfpmmgaipnaaJlwK
namespace Go.Proofs.Ytkanfpmmgaipnaa
set_option linter.unusedVariables false
open Go.ChangeMaps Go.MapKept Go.RowKit

/-- A journal that lives over a device that may be cut; its homes are the state f. -/
def CRel (i : Nat) (J : JSt) (D : DSt) (f : Nat → Int) : Prop := ∃ s, Live 275 1 i J D s ∧ D.ops ≤ 100 + 200 * i ∧ isTo s f 30 = true

/-- A device of which every crash leaves the one state or the other. -/
def Left2 (m : Nat) (D : DSt) (f g : Nat → Int) : Prop := D.Wf ∧ D.n = 275 ∧ D.ops ≤ 100 + 200 * m ∧ Safe D (fun C => ∃ s, Tells 275 1 m s C ∧ (isTo s f 30 = true ∨ isTo s g 30 = true))

theorem CRel.left {i : Nat} {J : JSt} {D : DSt} {f : Nat → Int} (h : CRel i J D f) (g : Nat → Int) : Left2 i D f g := by
  obtain ⟨s, hl, hops, hto⟩ := h
  exact ⟨hl.wf, hl.dn, hops, Safe.clean hl.clean ⟨s, hl.tells, .inl hto⟩⟩

/-- A commit of changes to a state, over a device that may be cut. -/
theorem S_CommitK {w0 w : World} {rs : List Res} {H : Hdl} {jh : JHdl} {J : JSt} (h : St w0 w (jrn H jh J :: rs)) (a iv : Nat) {D : DSt} (hr : rs[a]? = some (dev H D)) {v : Value} {vs : List Value} {R : List Nat × List Int × (Nat → Int)} (hl : rs[iv]? = some (chgs v ((chK R).map fun k : Nat => (k : Int)) vs (chD R)))
    {i : Nat} {f : Nat → Int} (hR : ChOk 275 f R) (hL : CRel i J D f) (hi : i ≤ 1000) (q : iv ≠ a) :
    Calls Try.prog 47 #[.pointer (some ⟨jh.jb, 0, none⟩), v] w fun e w' => ∃ jh' J' D', jh'.jb = jh.jb ∧ St w0 w' (jrn H jh' J' :: rs.set a (dev H D')) ∧ ((e = .returned (.int .i64 0) ∧ CRel (i + 1) J' D' R.2.2) ∨ (e = .returned (.int .i64 9) ∧ Left2 (i + 1) D' f R.2.2)) := by
  obtain ⟨s, hl1, hops, hto⟩ := hL
  refine (S_CommitC h a iv hr hl hl1 (hR.may (by omega)) (chD_512 R) (by omega) (by omega) (by omega) (by omega) (by omega) q).mono ?_
  rintro e w' ⟨jh', J', D', hjb, hst, hA, hC⟩
  have hao := hA.ops
  refine ⟨jh', J', D', hjb, hst, ?_⟩
  rcases hC with ⟨he, hL'⟩ | ⟨he, _⟩
  · exact .inl ⟨he, _, hL', by omega, isTo_over hR hto⟩
  · refine .inr ⟨he, hA.wf, hA.dn, by omega, hA.safe.mono fun C hC => ?_⟩
    rcases hC with hC | hC
    · exact ⟨_, hC, .inl hto⟩
    · exact ⟨_, hC, .inr (isTo_over hR hto)⟩

/-- A crash of what is left, and opening for good. -/
theorem S_openedK {w0 w : World} {rs : List Res} {H' : Hdl} {D : DSt} {m : Nat} {f g : Nat → Int} (hL : Left2 m D f g) (hm : m ≤ 1000) (picks : List Int) (h : St w0 w (dev H' (D.crash picks) :: rs)) :
    Calls Try.prog 55 #[.pointer (some ⟨H'.b, 0, none⟩), .slice none 0 0, .slice none 0 0] w fun e w' => ∃ H2 jh J2 D2 s, e = .returned (.tuple #[.pointer (some ⟨H2.b, 0, none⟩), .pointer (some ⟨jh.jb, 0, none⟩), .bool true]) ∧ St w0 w' (jrn H2 jh J2 :: dev H2 D2 :: voidR :: rs) ∧ Live 275 1 m J2 D2 s ∧ D2.lim = none ∧ D2.ops ≤ 61 ∧ (isTo s f 30 = true ∨ isTo s g 30 = true) := by
  obtain ⟨hw, hn, hops, hs⟩ := hL
  obtain ⟨s, hT, hto⟩ := hs _ (img_crash D picks)
  refine (S_opened h 0 rfl (DSt.crash_wf hw picks) hn (fun _ => rfl) hT (by omega) (by omega) (by omega) (show (0 : Nat) < 900000000 by omega) rfl _ _ [] [] ⟨none, 0, rfl, fun i x hx => by simp at hx⟩ ⟨none, 0, rfl, fun i x hx => by simp at hx⟩ (fun _ h => by cases h) (fun _ h => by cases h) (by decide)).mono ?_
  rintro e w' ⟨H2, jh, J2, D2, he, hst, hl2, hlim2, hops2⟩
  have h0 : (D.crash picks).ops = 0 := rfl
  exact ⟨H2, jh, J2, D2, s, he, hst, hl2, hlim2, by omega, hto⟩
end Go.Proofs.Ytkanfpmmgaipnaa
