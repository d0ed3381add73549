/-
  Sync over a journal whose homes are a state: the homes stand on the device.
-/
import Derived.Test.YtkanfpmmgaipnaaJlwI
namespace Go.Proofs.Ytkanfpmmgaipnaa
set_option linter.unusedVariables false
open Go.ChangeMaps Go.MapKept Go.RowKit

/-- Behind a Sync the base is the state. -/
theorem Live.synced {n g m : Nat} {J : JSt} {D : DSt} {s : Nat → Blk} (h : Live n g m J D s) (hn : n ≤ 65536) (hg : g < 18446744073709551616) (hm : m < 18446744073709551615) (h0 : endD (writeOps J.gen J.last J.order J.data [] []) D = 0) :
    ∀ k, 245 ≤ k → k < n → (runD (writeOps J.gen J.last J.order J.data [] []) D).base k = s k := by
  obtain ⟨o, dt, hT, hK⟩ := h.disk
  have hlast := h.last
  have hge := h.gen
  rw [hge] at h0 ⊢
  have hcs := commit_safe h.clean hT hK (mayNil n) hn hg (by omega)
  obtain ⟨_, c2⟩ := hcs.2 h0
  intro k h1 h2
  have := c2.2 k h1 h2
  unfold over at this
  exact this

theorem S_SyncS {w0 : Gnd} {w : World} {rs : List Res} {H : Hdl} {jh : JHdl} {J : JSt} (h : St w0 w (jrn H jh J :: rs)) (a : Nat) {D : DSt} (hr : rs[a]? = some (dev H D)) {i : Nat} {f : Nat → Int} (hL : LRel i J D f) (hi : i ≤ 1000) :
    Calls Try.prog 54 #[.pointer (some ⟨jh.jb, 0, none⟩)] w fun e w' => ∃ jh' J' D', jh'.jb = jh.jb ∧ e = .returned (.int .i64 0) ∧ St w0 w' (jrn H jh' J' :: rs.set a (dev H D')) ∧ LRel (i + 1) J' D' f ∧ ∀ k, k < 30 → D'.base (245 + k) = blockOf (f k) := by
  obtain ⟨s, hl1, hlim, hops, hto⟩ := hL
  have hdn := hl1.dn
  obtain ⟨hA, hB⟩ := hl1.commit (mayNil 275) (fun d hd => by cases hd) (by omega) (by omega) (by omega) (by omega)
  have ho2 : over [] [] s = s := by funext k; unfold over; rfl
  rw [ho2] at hA hB
  have hno := endD_none (writeOps J.gen J.last J.order J.data [] []) D hlim
  have hsy := hl1.synced (by omega) (by omega) (by omega) hno.1
  have hao := hA.ops
  refine (S_Sync h a hr (hl1.ok (by omega) (by omega)) hl1.alive (by omega) (by omega) (by omega)).mono ?_
  rintro e w' (⟨h0, he, jh', hjb, hst⟩ | ⟨h9, _⟩)
  · exact ⟨jh', _, _, hjb, he, hst, ⟨s, hB h0, hno.2, by omega, hto⟩, fun k hk => (hsy (245 + k) (by omega) (by omega)).trans ((isTo_iff _ _ _).1 hto k hk)⟩
  · rw [hno.1] at h9; cases h9
end Go.Proofs.Ytkanfpmmgaipnaa
