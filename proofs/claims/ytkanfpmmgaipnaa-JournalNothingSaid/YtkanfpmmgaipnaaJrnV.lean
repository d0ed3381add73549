/-
  bollardlaw4: fresh; Open over what is known; is; awake.
-/
import Derived.Test.YtkanfpmmgaipnaaJplD
namespace Go.Proofs.Ytkanfpmmgaipnaa
set_option linter.unusedVariables false
open Go.ChangeMaps Go.MapKept Go.RowKit

/-- Open of a device that is not cut. -/
theorem S_OpenL {w0 w : World} {rs : List Res} (h : St w0 w rs) (a : Nat) {H : Hdl} {D : DSt} (hr : rs[a]? = some (dev H D)) {n g m : Nat} {s : Nat → Blk} (hw : D.Wf) (hn : D.n = n) (hp : ∀ k, D.pend k = []) (hT : Tells n g m s D.base) (h246 : 246 ≤ n) (hm : m < 18446744073709551615) (hg : g < 18446744073709551616)
    (ho : D.ops < 1000000000) (hlim : D.lim = none) :
    Calls Try.prog 49 #[.pointer (some ⟨H.b, 0, none⟩)] w fun e w' => ∃ jh J' D', e = .returned (.tuple #[.pointer (some ⟨jh.jb, 0, none⟩), .int .i64 0]) ∧ St w0 w' (jrn H jh J' :: rs.set a (dev H D')) ∧ Live n g m J' D' s ∧ D'.lim = none ∧ D'.ops ≤ D.ops + 61 := by
  obtain ⟨last, o, dt, hl, hd, a1, a2, a3, a4, a5⟩ := hT.opens hw hn hp
  refine (S_Open h a hr hd (by omega) (by omega) hg ho).mono ?_
  have hno := endD_none (openOps o dt) D hlim
  rintro e w' (⟨h0, jh, he, hst⟩ | ⟨h9, _⟩)
  · exact ⟨jh, _, _, he, hst, a5 h0, hno.2, a3⟩
  · rw [hno.1] at h9; cases h9

/-- Open of a device that may be cut: what it leaves. -/
theorem S_OpenC {w0 w : World} {rs : List Res} (h : St w0 w rs) (a : Nat) {H : Hdl} {D : DSt} (hr : rs[a]? = some (dev H D)) {n g m : Nat} {s : Nat → Blk} (hw : D.Wf) (hn : D.n = n) (hp : ∀ k, D.pend k = []) (hT : Tells n g m s D.base) (h246 : 246 ≤ n) (hm : m < 18446744073709551615) (hg : g < 18446744073709551616)
    (ho : D.ops < 1000000000) :
    Calls Try.prog 49 #[.pointer (some ⟨H.b, 0, none⟩)] w fun e w' => ∃ v x D', e = .returned (.tuple #[v, .int .i64 x]) ∧ St w0 w' (rs.set a (dev H D')) ∧ D'.Wf ∧ D'.n = n ∧ D'.ops ≤ D.ops + 61 ∧ Safe D' (Tells n g m s) := by
  obtain ⟨last, o, dt, hl, hd, a1, a2, a3, a4, a5⟩ := hT.opens hw hn hp
  refine (S_Open h a hr hd (by omega) (by omega) hg ho).mono ?_
  rintro e w' (⟨h0, jh, he, hst⟩ | ⟨h9, he, hst⟩)
  · exact ⟨_, _, _, he, hst.drop 1, a1, a2, a3, a4⟩
  · exact ⟨_, _, _, he, hst, a1, a2, a3, a4⟩

/-- What a call answers that makes a device and its journal. -/
def FreshRet (w0 : World) (rs : List Res) (n : Nat) (e : Ending) (w' : World) : Prop :=
  ∃ H jh J D, e = .returned (.tuple #[.pointer (some ⟨H.b, 0, none⟩), .pointer (some ⟨jh.jb, 0, none⟩), .bool true]) ∧ St w0 w' (jrn H jh J :: dev H D :: rs) ∧ Live n 1 0 J D (fun _ => zeros) ∧ D.lim = none ∧ D.ops ≤ 100

set_option maxRecDepth 100000 in
theorem S_fresh {w0 w : World} {rs : List Res} (h : St w0 w rs) : Calls Try.prog 46 #[] w (FreshRet w0 rs 275) := by
  have HN := Lib.hid (S_New h 275 (by omega) (by omega))
  clear h
  go_enter Try.func46, Try.ntmps46
  go_wp2_with fail
  refine HN.out.mono ?_
  clear HN
  rintro e w1 ⟨H, rfl, h1⟩
  have H1 := Lib.hid h1
  clear h1
  go_wp2_with fail
  refine (S_Format H1.out 0 rfl (by decide) (by decide) rfl (by rfl) (by decide)).mono ?_
  rintro e w2 ⟨rfl, h2⟩
  obtain ⟨f1, f2, f3⟩ := fmt_tells 275 (by omega) (by omega)
  have h2 : St w0 w2 (dev H (fmtD (DSt.new 275) 0 7) :: rs) := h2
  obtain ⟨g1, g2, g3⟩ := fmtD_ok (DSt.new 275) 0 rfl 7
  have HO := Lib.hid (S_OpenL h2 0 rfl f3 (g1.trans (show (DSt.new 275).n = 275 from rfl)) f2 f1 (by omega) (by omega) (by omega) (by rw [g2]; decide) g3)
  have HG : Hid ((fmtD (DSt.new 275) 0 7).ops = 7) := Lib.hid g2
  clear h2 f1 f2 f3 g1 g2 g3 H1
  go_wp2_with fail
  refine HO.out.mono ?_
  clear HO
  rintro e w3 ⟨jh, J', D', rfl, h3, hl, hlim, hops⟩
  have H3 := Lib.hid (show St w0 w3 (jrn H jh J' :: dev H D' :: rs) from h3)
  have HL := Lib.hid hl
  have HLI := Lib.hid hlim
  have HOP : Hid (D'.ops ≤ 100) := Lib.hid (by have := HG.out; omega)
  clear h3 hl hlim hops
  go_wp2
  go_ret3
  exact ⟨H, jh, J', D', rfl, H3.out, HL.out, HLI.out, HOP.out⟩
end Go.Proofs.Ytkanfpmmgaipnaa
