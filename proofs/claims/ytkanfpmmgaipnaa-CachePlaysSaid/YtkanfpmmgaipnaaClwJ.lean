/-
  CachePlays: whatever transactions begin, write, end and are aborted, each answers as the document says.
-/
import Derived.Test.YtkanfpmmgaipnaaClwI
import Derived.Test.YtkanfpmmgaipnaaJlwP
import Derived.Deep.CutBlock
namespace Go.Proofs.Ytkanfpmmgaipnaa
set_option linter.unusedVariables false
open Go.ChangeMaps Go.MapKept Go.RowKit

theorem St.reMt {w0 : Gnd} {w : World} {m m' a b c : Res} {rs : List Res} (h : St w0 w (m' :: a :: b :: c :: m :: rs)) : St w0 w (a :: b :: c :: m' :: rs) :=
  (h.sub (List.Sublist.cons_cons _ (List.Sublist.cons_cons _ (List.Sublist.cons_cons _ (List.Sublist.cons_cons _ (List.Sublist.cons _ (List.Sublist.refl _))))))).perm (List.perm_append_comm (l₁ := [_]) (l₂ := [_, _, _]) |>.append_right _)

theorem S_dirty {w0 : Gnd} {w : World} {rs : List Res} (h : St w0 w rs) {i mb : Nat} {wl : WrL} (hr : rs[i]? = some (mtR mb wl)) :
    Calls Try.prog 60 #[.map (some mb)] w fun e w' => w = w' ∧ e = .returned (.int .i64 (wl.length : Nat)) := by
  have hln := fun ty => h.mtLen hr ty w rfl
  clear h hr
  go_enter Try.func60, Try.ntmps60
  go_wp2_with fail
  go_ret
  exact ⟨rfl, rfl⟩

/-- The first block of a number, in a code. -/
def findBlock (n : Nat) : Code → Option Code
  | .seq a b => match findBlock n a with | some c => some c | none => findBlock n b
  | .cond _ a b => match findBlock n a with | some c => some c | none => findBlock n b
  | .block m c => bif m == n then some (.block m c) else findBlock n c
  | .loop c => findBlock n c
  | .scope c => findBlock n c
  | _ => none

theorem run_make511 (W : World) : (Instr.makeSlice 31 (.int .i64 511) (.int .i64 511)).run Try.prog W = .ok (.slice (some ⟨W.heap.size, 0, none⟩) 511 511) (W.alloc (.cells (madeCells #[.int .u8 0] 511) 5 (0, 0))) := run_makeU8 511 (by omega) W

/-- What holds behind i steps. -/
def PRel (i : Nat) (op : Bool) (wl : WrL) (J : JSt) (D : DSt) (f g : Nat → Int) : Prop :=
  ∃ s, Live 325 1 i J D s ∧ isTo s f 80 = true ∧ D.lim = none ∧ D.ops ≤ 100 + 123 * i ∧ i ≤ 121 ∧ COk 325 wl ∧ (op = true → TOk wl s g) ∧ (op = false → wl = [])

theorem PRel.next {i : Nat} {op : Bool} {wl : WrL} {J : JSt} {D : DSt} {f g : Nat → Int} (h : PRel i op wl J D f g) (hi : i ≤ 120) : PRel (i + 1) op wl J D f g := by
  obtain ⟨s, h1, h2, h3, h4, h5, h6, h7, h8⟩ := h
  exact ⟨s, h1.mono (Nat.le_succ i), h2, h3, by omega, by omega, h6, h7, h8⟩

theorem PRel.shut {i : Nat} {op : Bool} {wl : WrL} {J : JSt} {D : DSt} {f g : Nat → Int} (h : PRel i op wl J D f g) (hi : i ≤ 120) : PRel (i + 1) false [] J D f g := by
  obtain ⟨s, h1, h2, h3, h4, h5, h6, h7, h8⟩ := h
  exact ⟨s, h1.mono (Nat.le_succ i), h2, h3, by omega, by omega, COk.nil 325, (fun h => by cases h), fun _ => rfl⟩

theorem PRel.begin {i : Nat} {op : Bool} {wl : WrL} {J : JSt} {D : DSt} {f g : Nat → Int} (h : PRel i op wl J D f g) (hi : i ≤ 120) : PRel (i + 1) true [] J D f f := by
  obtain ⟨s, h1, h2, h3, h4, h5, h6, h7, h8⟩ := h
  exact ⟨s, h1.mono (Nat.le_succ i), h2, h3, by omega, by omega, COk.nil 325, (fun _ => tok_nil h2), fun h => by cases h⟩

theorem PRel.write {i : Nat} {wl : WrL} {J : JSt} {D : DSt} {f g : Nat → Int} (h : PRel i true wl J D f g) (hi : i ≤ 120) (m : Nat) (hm : m < 80) (v : Int) (hr : (look wl (245 + (m : Int))).isSome = true ∨ wl.length < 60) : PRel (i + 1) true (putW wl (245 + (m : Int)) (blockOf v)) J D f (setF g m v) := by
  obtain ⟨s, h1, h2, h3, h4, h5, h6, h7, h8⟩ := h
  exact ⟨s, h1.mono (Nat.le_succ i), h2, h3, by omega, by omega, h6.put _ _ (by omega) (blockOf_length _) hr, (fun _ => (h7 rfl).put m hm v), fun h => by cases h⟩

set_option maxHeartbeats 2000000 in
set_option maxRecDepth 100000 in
theorem cplaysF {Jm Km : Act → World → Prop} {Q0 : Exit → Act → World → Prop} {w1 wr : World} {gb go ln cap cb wb sb tb i m mb' : Nat} {yv K : Int} {H : Hdl} {jh' : JHdl} {J' : JSt} {D' : DSt} {f g : Nat → Int} {ov : Bool} {z1 z2 z3 z5 z13 z14 z15 z16 z17 z18 z19 z20 z21 z22 z23 z24 z25 z26 z27 z28 z29 z30 z31 z32 z33 z34 z35 z36 z37 z38 z39 z40 z41 z42 z43 z44 z45 z46 z47 z48 z49 z50 z51 z52 z54 z55 z56 z57 z58 z59 z60 z61 z62 z63 z64 z65 z66 z67 z68 z69 z70 z71 z72 z73 z74 z75 z76 z77 z78 z79 z80 z81 z82 z83 z84 z85 z86 z87 z88 z89 z90 z91 z92 z93 z94 z95 z96 z97 z98 z99 z100 z101 z102 z103 z104 z105 z106 z107 z108 z109 z110 z111 z112 z113 z114 z115 z116 z117 z118 z119 z120 z121 z122 z123 z124 z125 z126 z127 z128 z129 z130 z131 z132 z133 z134 z135 z136 z137 z138 z139 z140 z141 z142 z143 z144 z145 z146 z147 z148 z149 z150 z151 z152 z153 z154 z155 z156 z157 z158 z159 z160 z161 z162 z163 z164 z165 z166 z167 z168 z169 z170 z171 z172 z173 z174 z175 z176 z177 z178 z179 z180 z181 z182 z183 z184 z185 z186 z187 z188 z189 z190 z191 z192 z193 z194 z195 z196 z197 z198 z199 z200 z201 z202 z203 z204 z205 z206 : Value}
    (hJ : ∀ (a' : Act) (w' : World), (∃ u2 u8 u9 u13 u14 u15 u16 u17 u18 u31 u32 u33 u34 u35 u36 u37 u38 u39 u40 u41 u42 u43 u44 u45 u46 u47 u48 u49 u50 u51 u52 u53 u54 u55 u56 u57 u58 u59 u60 u61 u62 u63 u64 u65 u66 u67 u68 u69 u70 u71 u72 u73 u74 u75 u76 u77 u78 u79 u80 u81 u82 u83 u84 u85 u86 u87 u88 u89 u90 u91 u92 u93 u94 u95 u96 u97 u98 u99 u100 u101 u102 u103 u104 u105 u106 u107 u108 u109 u110 u111 u112 u113 u114 u115 u116 u117 u118 u119 u120 u121 u122 u123 u124 u125 u126 u127 u128 u129 u130 u131 u132 u133 u134 u135 u136 u137 u138 u139 u140 u141 u142 u143 u144 u145 u146 u147 u148 u149 u150 u151 u152 u153 u154 u155 u156 u157 u158 u159 u160 u161 u162 u163 u164 u165 u166 u167 u168 u169 u170 u171 u172 u173 u174 u175 u176 u177 u178 u179 u180 u181 u182 u183 u184 u185 u186 u187 u188 u189 u190 u191 u192 u193 u194 u195 u196 u197 u198 u199 u200 u201 u202 u203 u204 u205, (∃ (op : Bool) (wl : WrL) (jh' : JHdl) (J' : JSt) (D' : DSt) (mb' : Nat) (f g : Nat → Int) (ov : Bool), u8 = .bool op ∧ u9 = .map (some mb') ∧ Hid (PRel (i + 1) op wl J' D' f g) ∧ St w1 w' (cst cb jh'.jb op ov wb :: wrt wb wl :: jrn H jh' J' :: mtR mb' wl :: arr sb (stC 80 f) 95 neS5 :: arr tb (stC 80 g) 95 neS5 :: dev H D' :: [])) ∧ a' = { tmps := #[.slice (some ⟨gb, go, none⟩) ln cap, z1, u2, z3, .pointer (some ⟨cb, 0, none⟩), z5, .pointer (some ⟨sb, 0, none⟩), .pointer (some ⟨tb, 0, none⟩), u8, u9, .int .i64 i, .int .i64 m, .int .i64 yv, u13, u14, u15, u16, u17, u18, z19, z20, z21, z22, z23, z24, z25, z26, z27, z28, z29, z30, u31, u32, u33, u34, u35, u36, u37, u38, u39, u40, u41, u42, u43, u44, u45, u46, u47, u48, u49, u50, u51, u52, u53, u54, u55, u56, u57, u58, u59, u60, u61, u62, u63, u64, u65, u66, u67, u68, u69, u70, u71, u72, u73, u74, u75, u76, u77, u78, u79, u80, u81, u82, u83, u84, u85, u86, u87, u88, u89, u90, u91, u92, u93, u94, u95, u96, u97, u98, u99, u100, u101, u102, u103, u104, u105, u106, u107, u108, u109, u110, u111, u112, u113, u114, u115, u116, u117, u118, u119, u120, u121, u122, u123, u124, u125, u126, u127, u128, u129, u130, u131, u132, u133, u134, u135, u136, u137, u138, u139, u140, u141, u142, u143, u144, u145, u146, u147, u148, u149, u150, u151, u152, u153, u154, u155, u156, u157, u158, u159, u160, u161, u162, u163, u164, u165, u166, u167, u168, u169, u170, u171, u172, u173, u174, u175, u176, u177, u178, u179, u180, u181, u182, u183, u184, u185, u186, u187, u188, u189, u190, u191, u192, u193, u194, u195, u196, u197, u198, u199, u200, u201, u202, u203, u204, u205, z206], defers := [] }) → Jm a' w') (hK : ∀ (a' : Act) (w' : World), Met Jm a' w' → Km a' w')
    (HST : Hid (St w1 wr (cst cb jh'.jb false ov wb :: wrt wb [] :: jrn H jh' J' :: mtR mb' [] :: arr sb (stC 80 f) 95 neS5 :: arr tb (stC 80 g) 95 neS5 :: dev H D' :: []))) (HR : Hid (PRel i false [] J' D' f g)) (HI : Hid (i ≤ 120)) (HC0 : Hid (∀ W rs', St w1 W rs' → W.cell? ⟨gb, go + i * 3, none⟩ = some (.int .i64 K))) (HM : Hid (m < 80)) (HMO : Hid (okI (m : Int))) (hm0 : (0 : Int) ≤ (m : Int)) (hm1 : (m : Int) < 80) (hy0 : 0 ≤ yv) (hy1 : yv < 250) (hi0 : (0 : Int) ≤ (i : Int)) (hi1 : (i : Int) < (ln : Int))
    (c : Code) (hc : findBlock 2 ((Try.f22).body.getD .skip) = some c) :
    c.wp Try.prog (Exit.then Km Q0) { tmps := #[.slice (some ⟨gb, go, none⟩) ln cap, z1, z2, z3, .pointer (some ⟨cb, 0, none⟩), z5, .pointer (some ⟨sb, 0, none⟩), .pointer (some ⟨tb, 0, none⟩), .bool false, .map (some mb'), .int .i64 i, .int .i64 m, .int .i64 yv, z13, z14, z15, z16, z17, z18, z19, z20, z21, z22, z23, z24, z25, z26, z27, z28, z29, z30, z31, z32, z33, z34, z35, z36, z37, z38, z39, z40, z41, z42, z43, z44, z45, z46, z47, z48, z49, z50, z51, z52, .int .i64 K, z54, z55, z56, z57, z58, z59, z60, z61, z62, z63, z64, z65, z66, z67, z68, z69, z70, z71, z72, z73, z74, z75, z76, z77, z78, z79, z80, z81, z82, z83, z84, z85, z86, z87, z88, z89, z90, z91, z92, z93, z94, z95, z96, z97, z98, z99, z100, z101, z102, z103, z104, z105, z106, z107, z108, z109, z110, z111, z112, z113, z114, z115, z116, z117, z118, z119, z120, z121, z122, z123, z124, z125, z126, z127, z128, z129, z130, z131, z132, z133, z134, z135, z136, z137, z138, z139, z140, z141, z142, z143, z144, z145, z146, z147, z148, z149, z150, z151, z152, z153, z154, z155, z156, z157, z158, z159, z160, z161, z162, z163, z164, z165, z166, z167, z168, z169, z170, z171, z172, z173, z174, z175, z176, z177, z178, z179, z180, z181, z182, z183, z184, z185, z186, z187, z188, z189, z190, z191, z192, z193, z194, z195, z196, z197, z198, z199, z200, z201, z202, z203, z204, z205, z206], defers := [] } wr := by
  have hmk : ∀ W, (Instr.makeMap 96 none).run Try.prog W = .ok (.map (some W.heap.size)) (W.alloc (.map #[] 0)) := fun W => rfl
  obtain rfl := Option.some.inj (hc.symm.trans (rfl : findBlock 2 ((Try.f22).body.getD .skip) = some _))
  clear hc
  by_cases e1 : (K == 1) = true
  · go_wp2_with fail
    refine (S_cBegin HST.out).mono ?_
    rintro e w3 ⟨rfl, h3⟩
    have H3 := (show St w1 w3 (cst cb jh'.jb true false wb :: wrt wb [] :: jrn H jh' J' :: mtR mb' [] :: arr sb (stC 80 f) 95 neS5 :: arr tb (stC 80 g) 95 neS5 :: dev H D' :: []) from h3)
    have HGS := Lib.hid (show w3.heap[sb]? = some (.cells (stC 80 f) 95 (0, 0)) from H3.get (i := 4) rfl)
    have HGT := Lib.hid (show w3.heap[tb]? = some (.cells (stC 80 g) 95 (0, 0)) from H3.get (i := 5) rfl)
    have H6 := Lib.hid (show St w1 (w3.setRow tb (stC 80 f)) (cst cb jh'.jb true false wb :: wrt wb [] :: jrn H jh' J' :: mtR mb' [] :: arr sb (stC 80 f) 95 neS5 :: arr tb (stC 80 f) 95 neS5 :: dev H D' :: []) from H3.setRow 5 rfl (stC 80 f))
    have HR7 := Lib.hid (HR.out.begin HI.out)
    clear h3 H3 HST
    go_upto_region 20 with (first | refine loadS5 rfl _ rfl sb rfl f HGS.out ?_ | refine storeS5 rfl _ _ rfl tb f rfl rfl (stC 80 g) (stC_size _ _) HGT.out ?_)
    obtain ⟨w6, hw6⟩ : ∃ w6, w6 = w3.setRow tb (stC 80 f) := ⟨_, rfl⟩
    rw [← hw6] at H6 ⊢
    clear hw6 HGS HGT
    have h7 := (show St w1 w6 (cst cb jh'.jb true false wb :: wrt wb [] :: jrn H jh' J' :: mtR mb' [] :: arr sb (stC 80 f) 95 neS5 :: arr tb (stC 80 f) 95 neS5 :: dev H D' :: []) from H6.out).mtNew.reMt
    have H7 := Lib.hid h7
    clear H6 h7
    go_wp2_with fail
    go_meet
    first | exact ⟨true, [], jh', J', D', w6.heap.size, f, f, false, rfl, rfl, HR7, H7.out⟩ | (case rel => exact ⟨true, [], jh', J', D', w6.heap.size, f, f, false, rfl, rfl, HR7, H7.out⟩)
  have e1 : (K == 1) = false := by simpa using e1
  by_cases e2 : (K == 2) = true
  · go_wp2_with fail
    refine (S_Block HST.out yv).mono ?_
    rintro e w3 ⟨u, rfl, h3⟩
    have H3 := Lib.hid (show St w1 w3 (cst cb jh'.jb false ov wb :: wrt wb [] :: jrn H jh' J'   :: byt u (blockOf yv) :: mtR mb' [] :: arr sb (stC 80 f) 95 neS5 :: arr tb (stC 80 g) 95 neS5 :: dev H D' :: []) from h3.perm (List.perm_append_comm (l₁ := [_]) (l₂ := [_, _, _]) |>.append_right _))
    clear h3 HST
    go_wp2_with fail
    refine (S_cWriteShut H3.out _ _).mono ?_
    rintro e w5 ⟨rfl, h5⟩
    have H7 := Lib.hid (show St w1 w5 (cst cb jh'.jb false ov wb :: wrt wb [] :: jrn H jh' J' :: mtR mb' [] :: arr sb (stC 80 f) 95 neS5 :: arr tb (stC 80 g) 95 neS5 :: dev H D' :: []) from h5.sub (List.Sublist.cons_cons _ (List.Sublist.cons_cons _ (List.Sublist.cons_cons _ (List.Sublist.cons _ (List.Sublist.refl _))))))
    have hlk := H7.out.mtLook (i := 3) rfl HMO.out (s := false) rfl w5 rfl
    have HR7 := Lib.hid (HR.out.next HI.out)
    clear h5 H3
    go_wp2_with fail
    go_meet
    first | exact ⟨false, [], jh', J', D', mb', f, g, ov, rfl, rfl, HR7, H7.out⟩ | (case rel => exact ⟨false, [], jh', J', D', mb', f, g, ov, rfl, rfl, HR7, H7.out⟩)
  have e2 : (K == 2) = false := by simpa using e2
  by_cases e3 : (K == 3) = true
  · have k0 := HC0.out wr _ HST.out
    go_wp2_with fail
    refine (S_cCommitShut HST.out).mono ?_
    rintro e w5 ⟨rfl, h5⟩
    have H6 := Lib.hid (show St w1 w5 (cst cb jh'.jb false ov wb :: wrt wb [] :: jrn H jh' J' :: mtR mb' [] :: arr sb (stC 80 f) 95 neS5 :: arr tb (stC 80 g) 95 neS5 :: dev H D' :: []) from h5)
    have k0 := HC0.out w5 _ H6.out
    have HR7 := Lib.hid (HR.out.shut HI.out)
    clear h5 HST
    have h7 := (show St w1 w5 (cst cb jh'.jb false ov wb :: wrt wb [] :: jrn H jh' J' :: mtR mb' [] :: arr sb (stC 80 f) 95 neS5 :: arr tb (stC 80 g) 95 neS5 :: dev H D' :: []) from H6.out).mtNew.reMt
    have H7 := Lib.hid h7
    clear H6 h7
    go_wp2_with fail
    go_meet
    first | exact ⟨false, [], jh', J', D', w5.heap.size, f, g, ov, rfl, rfl, HR7, H7.out⟩ | (case rel => exact ⟨false, [], jh', J', D', w5.heap.size, f, g, ov, rfl, rfl, HR7, H7.out⟩)
  have e3 : (K == 3) = false := by simpa using e3
  by_cases e4 : (K == 4) = true
  · have k0 := HC0.out wr _ HST.out
    go_wp2_with fail
    refine (S_cAbort HST.out).mono ?_
    rintro e w5 ⟨rfl, h5⟩
    have H6 := Lib.hid (show St w1 w5 (cst cb jh'.jb false ov wb :: wrt wb [] :: jrn H jh' J' :: mtR mb' [] :: arr sb (stC 80 f) 95 neS5 :: arr tb (stC 80 g) 95 neS5 :: dev H D' :: []) from h5)
    have k0 := HC0.out w5 _ H6.out
    have HR7 := Lib.hid (HR.out.shut HI.out)
    clear h5 HST
    have h7 := (show St w1 w5 (cst cb jh'.jb false ov wb :: wrt wb [] :: jrn H jh' J' :: mtR mb' [] :: arr sb (stC 80 f) 95 neS5 :: arr tb (stC 80 g) 95 neS5 :: dev H D' :: []) from H6.out).mtNew.reMt
    have H7 := Lib.hid h7
    clear H6 h7
    go_wp2_with fail
    go_meet
    first | exact ⟨false, [], jh', J', D', w5.heap.size, f, g, ov, rfl, rfl, HR7, H7.out⟩ | (case rel => exact ⟨false, [], jh', J', D', w5.heap.size, f, g, ov, rfl, rfl, HR7, H7.out⟩)
  have e4 : (K == 4) = false := by simpa using e4
  by_cases e5 : (K == 5) = true
  · have hmb := run_make511
    have h3 := HST.out.frm0 ((Frm.refl NoB wr).alloc (.cells (madeCells #[.int .u8 0] 511) 5 (0, 0)))
    have H3 := Lib.hid h3
    clear h3 HST
    go_wp2_with fail
    refine (S_cWriteShut H3.out _ _).mono ?_
    rintro e w5 ⟨rfl, h5⟩
    have H7 := Lib.hid (show St w1 w5 (cst cb jh'.jb false ov wb :: wrt wb [] :: jrn H jh' J' :: mtR mb' [] :: arr sb (stC 80 f) 95 neS5 :: arr tb (stC 80 g) 95 neS5 :: dev H D' :: []) from h5)
    have HR7 := Lib.hid (HR.out.next HI.out)
    clear h5 H3 hmb
    go_wp2_with fail
    go_meet
    first | exact ⟨false, [], jh', J', D', mb', f, g, ov, rfl, rfl, HR7, H7.out⟩ | (case rel => exact ⟨false, [], jh', J', D', mb', f, g, ov, rfl, rfl, HR7, H7.out⟩)
  have e5 : (K == 5) = false := by simpa using e5
  by_cases e6 : (K == 6) = true
  · go_wp2_with fail
    refine (S_Block HST.out yv).mono ?_
    rintro e w3 ⟨u, rfl, h3⟩
    have H3 := Lib.hid (show St w1 w3 (cst cb jh'.jb false ov wb :: wrt wb [] :: jrn H jh' J'   :: byt u (blockOf yv) :: mtR mb' [] :: arr sb (stC 80 f) 95 neS5 :: arr tb (stC 80 g) 95 neS5 :: dev H D' :: []) from h3.perm (List.perm_append_comm (l₁ := [_]) (l₂ := [_, _, _]) |>.append_right _))
    clear h3 HST
    go_wp2_with fail
    refine (S_cWriteShut H3.out _ _).mono ?_
    rintro e w5 ⟨rfl, h5⟩
    have H7 := Lib.hid (show St w1 w5 (cst cb jh'.jb false ov wb :: wrt wb [] :: jrn H jh' J' :: mtR mb' [] :: arr sb (stC 80 f) 95 neS5 :: arr tb (stC 80 g) 95 neS5 :: dev H D' :: []) from h5.sub (List.Sublist.cons_cons _ (List.Sublist.cons_cons _ (List.Sublist.cons_cons _ (List.Sublist.cons _ (List.Sublist.refl _))))))
    have HR7 := Lib.hid (HR.out.next HI.out)
    clear h5 H3
    go_wp2_with fail
    go_meet
    first | exact ⟨false, [], jh', J', D', mb', f, g, ov, rfl, rfl, HR7, H7.out⟩ | (case rel => exact ⟨false, [], jh', J', D', mb', f, g, ov, rfl, rfl, HR7, H7.out⟩)
  have e6 : (K == 6) = false := by simpa using e6
  have H7 := HST
  have HR7 := Lib.hid (HR.out.next HI.out)
  clear HST
  go_wp2_with fail
  go_meet
  first | exact ⟨false, [], jh', J', D', mb', f, g, ov, rfl, rfl, HR7, H7.out⟩ | (case rel => exact ⟨false, [], jh', J', D', mb', f, g, ov, rfl, rfl, HR7, H7.out⟩)

set_option maxHeartbeats 2000000 in
set_option maxRecDepth 100000 in
theorem cplaysT {Jm Km : Act → World → Prop} {Q0 : Exit → Act → World → Prop} {w1 wr : World} {gb go ln cap cb wb sb tb i m mb' : Nat} {yv K : Int} {H : Hdl} {jh' : JHdl} {J' : JSt} {D' : DSt} {f g : Nat → Int} {ov : Bool} {wl : WrL} {z1 z2 z3 z5 z13 z14 z15 z16 z17 z18 z19 z20 z21 z22 z23 z24 z25 z26 z27 z28 z29 z30 z31 z32 z33 z34 z35 z36 z37 z38 z39 z40 z41 z42 z43 z44 z45 z46 z47 z48 z49 z50 z51 z52 z54 z55 z56 z57 z58 z59 z60 z61 z62 z63 z64 z65 z66 z67 z68 z69 z70 z71 z72 z73 z74 z75 z76 z77 z78 z79 z80 z81 z82 z83 z84 z85 z86 z87 z88 z89 z90 z91 z92 z93 z94 z95 z96 z97 z98 z99 z100 z101 z102 z103 z104 z105 z106 z107 z108 z109 z110 z111 z112 z113 z114 z115 z116 z117 z118 z119 z120 z121 z122 z123 z124 z125 z126 z127 z128 z129 z130 z131 z132 z133 z134 z135 z136 z137 z138 z139 z140 z141 z142 z143 z144 z145 z146 z147 z148 z149 z150 z151 z152 z153 z154 z155 z156 z157 z158 z159 z160 z161 z162 z163 z164 z165 z166 z167 z168 z169 z170 z171 z172 z173 z174 z175 z176 z177 z178 z179 z180 z181 z182 z183 z184 z185 z186 z187 z188 z189 z190 z191 z192 z193 z194 z195 z196 z197 z198 z199 z200 z201 z202 z203 z204 z205 z206 : Value}
    (hJ : ∀ (a' : Act) (w' : World), (∃ u2 u8 u9 u13 u14 u15 u16 u17 u18 u31 u32 u33 u34 u35 u36 u37 u38 u39 u40 u41 u42 u43 u44 u45 u46 u47 u48 u49 u50 u51 u52 u53 u54 u55 u56 u57 u58 u59 u60 u61 u62 u63 u64 u65 u66 u67 u68 u69 u70 u71 u72 u73 u74 u75 u76 u77 u78 u79 u80 u81 u82 u83 u84 u85 u86 u87 u88 u89 u90 u91 u92 u93 u94 u95 u96 u97 u98 u99 u100 u101 u102 u103 u104 u105 u106 u107 u108 u109 u110 u111 u112 u113 u114 u115 u116 u117 u118 u119 u120 u121 u122 u123 u124 u125 u126 u127 u128 u129 u130 u131 u132 u133 u134 u135 u136 u137 u138 u139 u140 u141 u142 u143 u144 u145 u146 u147 u148 u149 u150 u151 u152 u153 u154 u155 u156 u157 u158 u159 u160 u161 u162 u163 u164 u165 u166 u167 u168 u169 u170 u171 u172 u173 u174 u175 u176 u177 u178 u179 u180 u181 u182 u183 u184 u185 u186 u187 u188 u189 u190 u191 u192 u193 u194 u195 u196 u197 u198 u199 u200 u201 u202 u203 u204 u205, (∃ (op : Bool) (wl : WrL) (jh' : JHdl) (J' : JSt) (D' : DSt) (mb' : Nat) (f g : Nat → Int) (ov : Bool), u8 = .bool op ∧ u9 = .map (some mb') ∧ Hid (PRel (i + 1) op wl J' D' f g) ∧ St w1 w' (cst cb jh'.jb op ov wb :: wrt wb wl :: jrn H jh' J' :: mtR mb' wl :: arr sb (stC 80 f) 95 neS5 :: arr tb (stC 80 g) 95 neS5 :: dev H D' :: [])) ∧ a' = { tmps := #[.slice (some ⟨gb, go, none⟩) ln cap, z1, u2, z3, .pointer (some ⟨cb, 0, none⟩), z5, .pointer (some ⟨sb, 0, none⟩), .pointer (some ⟨tb, 0, none⟩), u8, u9, .int .i64 i, .int .i64 m, .int .i64 yv, u13, u14, u15, u16, u17, u18, z19, z20, z21, z22, z23, z24, z25, z26, z27, z28, z29, z30, u31, u32, u33, u34, u35, u36, u37, u38, u39, u40, u41, u42, u43, u44, u45, u46, u47, u48, u49, u50, u51, u52, u53, u54, u55, u56, u57, u58, u59, u60, u61, u62, u63, u64, u65, u66, u67, u68, u69, u70, u71, u72, u73, u74, u75, u76, u77, u78, u79, u80, u81, u82, u83, u84, u85, u86, u87, u88, u89, u90, u91, u92, u93, u94, u95, u96, u97, u98, u99, u100, u101, u102, u103, u104, u105, u106, u107, u108, u109, u110, u111, u112, u113, u114, u115, u116, u117, u118, u119, u120, u121, u122, u123, u124, u125, u126, u127, u128, u129, u130, u131, u132, u133, u134, u135, u136, u137, u138, u139, u140, u141, u142, u143, u144, u145, u146, u147, u148, u149, u150, u151, u152, u153, u154, u155, u156, u157, u158, u159, u160, u161, u162, u163, u164, u165, u166, u167, u168, u169, u170, u171, u172, u173, u174, u175, u176, u177, u178, u179, u180, u181, u182, u183, u184, u185, u186, u187, u188, u189, u190, u191, u192, u193, u194, u195, u196, u197, u198, u199, u200, u201, u202, u203, u204, u205, z206], defers := [] }) → Jm a' w') (hK : ∀ (a' : Act) (w' : World), Met Jm a' w' → Km a' w')
    (HST : Hid (St w1 wr (cst cb jh'.jb true ov wb :: wrt wb wl :: jrn H jh' J' :: mtR mb' wl :: arr sb (stC 80 f) 95 neS5 :: arr tb (stC 80 g) 95 neS5 :: dev H D' :: []))) (HR : Hid (PRel i true wl J' D' f g)) (HI : Hid (i ≤ 120)) (HC0 : Hid (∀ W rs', St w1 W rs' → W.cell? ⟨gb, go + i * 3, none⟩ = some (.int .i64 K))) (HM : Hid (m < 80)) (HMO : Hid (okI (m : Int))) (hm0 : (0 : Int) ≤ (m : Int)) (hm1 : (m : Int) < 80) (hy0 : 0 ≤ yv) (hy1 : yv < 250) (hi0 : (0 : Int) ≤ (i : Int)) (hi1 : (i : Int) < (ln : Int))
    (c : Code) (hc : findBlock 2 ((Try.f22).body.getD .skip) = some c) :
    c.wp Try.prog (Exit.then Km Q0) { tmps := #[.slice (some ⟨gb, go, none⟩) ln cap, z1, z2, z3, .pointer (some ⟨cb, 0, none⟩), z5, .pointer (some ⟨sb, 0, none⟩), .pointer (some ⟨tb, 0, none⟩), .bool true, .map (some mb'), .int .i64 i, .int .i64 m, .int .i64 yv, z13, z14, z15, z16, z17, z18, z19, z20, z21, z22, z23, z24, z25, z26, z27, z28, z29, z30, z31, z32, z33, z34, z35, z36, z37, z38, z39, z40, z41, z42, z43, z44, z45, z46, z47, z48, z49, z50, z51, z52, .int .i64 K, z54, z55, z56, z57, z58, z59, z60, z61, z62, z63, z64, z65, z66, z67, z68, z69, z70, z71, z72, z73, z74, z75, z76, z77, z78, z79, z80, z81, z82, z83, z84, z85, z86, z87, z88, z89, z90, z91, z92, z93, z94, z95, z96, z97, z98, z99, z100, z101, z102, z103, z104, z105, z106, z107, z108, z109, z110, z111, z112, z113, z114, z115, z116, z117, z118, z119, z120, z121, z122, z123, z124, z125, z126, z127, z128, z129, z130, z131, z132, z133, z134, z135, z136, z137, z138, z139, z140, z141, z142, z143, z144, z145, z146, z147, z148, z149, z150, z151, z152, z153, z154, z155, z156, z157, z158, z159, z160, z161, z162, z163, z164, z165, z166, z167, z168, z169, z170, z171, z172, z173, z174, z175, z176, z177, z178, z179, z180, z181, z182, z183, z184, z185, z186, z187, z188, z189, z190, z191, z192, z193, z194, z195, z196, z197, z198, z199, z200, z201, z202, z203, z204, z205, z206], defers := [] } wr := by
  have hmk : ∀ W, (Instr.makeMap 96 none).run Try.prog W = .ok (.map (some W.heap.size)) (W.alloc (.map #[] 0)) := fun W => rfl
  obtain rfl := Option.some.inj (hc.symm.trans (rfl : findBlock 2 ((Try.f22).body.getD .skip) = some _))
  clear hc
  by_cases e1 : (K == 1) = true
  · go_wp2_with fail
    refine (S_cBegin HST.out).mono ?_
    rintro e w3 ⟨rfl, h3⟩
    have H7 := Lib.hid (show St w1 w3 (cst cb jh'.jb true ov wb :: wrt wb wl :: jrn H jh' J' :: mtR mb' wl :: arr sb (stC 80 f) 95 neS5 :: arr tb (stC 80 g) 95 neS5 :: dev H D' :: []) from h3)
    have HR7 := Lib.hid (HR.out.next HI.out)
    clear h3 HST
    go_wp2_with fail
    go_meet
    first | exact ⟨true, wl, jh', J', D', mb', f, g, ov, rfl, rfl, HR7, H7.out⟩ | (case rel => exact ⟨true, wl, jh', J', D', mb', f, g, ov, rfl, rfl, HR7, H7.out⟩)
  have e1 : (K == 1) = false := by simpa using e1
  by_cases e2 : (K == 2) = true
  · obtain ⟨s0, hl0', _, _, hops0, hi120, hco0, _, _⟩ := HR.out
    go_wp2_with fail
    refine (S_Block HST.out yv).mono ?_
    rintro e w3 ⟨u, rfl, h3⟩
    have H3 := Lib.hid (show St w1 w3 (cst cb jh'.jb true ov wb :: wrt wb wl :: jrn H jh' J'   :: byt u (blockOf yv) :: mtR mb' wl :: arr sb (stC 80 f) 95 neS5 :: arr tb (stC 80 g) 95 neS5 :: dev H D' :: []) from h3.perm (List.perm_append_comm (l₁ := [_]) (l₂ := [_, _, _]) |>.append_right _))
    clear h3 HST
    have HWR := Lib.hid (S_cWriteIn H3.out 4 0 rfl rfl (blockOf_length _) (hl0'.ok (by omega) (by omega)) (by omega) (245 + (m : Int)) (by omega) (by rw [hl0'.dn]; omega) (by rw [hl0'.dn]; decide) (by have := hco0.few; omega) hco0.b512)
    have HCO := Lib.hid hco0.few
    clear hl0' hops0 hi120 hco0
    go_wp2_with fail
    refine HWR.out.mono ?_
    clear HWR
    rintro e w5 (⟨hroom, rfl, h5⟩ | ⟨hno, hful, rfl, h5⟩)
    · have HRM := Lib.hid hroom
      have h5 := (show St w1 w5 (cst cb jh'.jb true ov wb :: wrt wb (putW wl (245 + (m : Int)) (blockOf yv)) :: jrn H jh' J' :: mtR mb' wl :: arr sb (stC 80 f) 95 neS5 :: arr tb (stC 80 g) 95 neS5 :: dev H D' :: []) from h5.sub (List.Sublist.cons_cons _ (List.Sublist.cons_cons _ (List.Sublist.cons_cons _ (List.Sublist.cons _ (List.Sublist.refl _))))))
      have H5 := Lib.hid h5
      clear h5 hroom H3
      obtain ⟨s1, hs1⟩ : ∃ s1, (look wl (245 + (m : Int))).isSome = s1 := ⟨_, rfl⟩
      have hlk := H5.out.mtLook (i := 3) rfl HMO.out hs1 w5 rfl
      have HDD := Lib.hid (S_dirty H5.out (i := 3) rfl)
      cases s1 with
      | true =>
        clear hs1
        obtain ⟨o, q, h6⟩ := H5.out.mtPut 3 rfl HMO.out (blockOf yv)
        have H6 := Lib.hid (show St w1 (setBlock w5 mb' o) (cst cb jh'.jb true ov wb :: wrt wb (putW wl (245 + (m : Int)) (blockOf yv)) :: jrn H jh' J' :: mtR mb' (putW wl (245 + (m : Int)) (blockOf yv)) :: arr sb (stC 80 f) 95 neS5 :: arr tb (stC 80 g) 95 neS5 :: dev H D' :: []) from h6)
        clear h6
        go_upto_region 28 with (fail)
        obtain ⟨w6, hw6⟩ : ∃ w6, w6 = setBlock w5 mb' o := ⟨_, rfl⟩
        rw [← hw6] at H6 ⊢
        clear hw6 q hlk
        have ct : ∃ u, w6.cell? ⟨tb, m, none⟩ = some u := ⟨_, (H6.out.arrCell (i := 5) rfl m).trans (stC_get 80 g m HM.out)⟩
        obtain ⟨ut, ct⟩ := ct
        have ft : w6.frozen? ⟨tb, m, none⟩ = false := H6.out.arrFree (i := 5) rfl m
        have h7 := H6.out.setArr 5 rfl m (.int .i64 yv)
        rw [stC_setF 80 g m yv HM.out] at h7
        have h7 := (show St w1 (w6.setCell ⟨tb, m, none⟩ (.int .i64 yv)) (cst cb jh'.jb true ov wb :: wrt wb (putW wl (245 + (m : Int)) (blockOf yv)) :: jrn H jh' J' :: mtR mb' (putW wl (245 + (m : Int)) (blockOf yv)) :: arr sb (stC 80 f) 95 neS5 :: arr tb (stC 80 (setF g m yv)) 95 neS5 :: dev H D' :: []) from h7)
        have HR7 := Lib.hid (HR.out.write HI.out m HM.out yv HRM.out)
        have H7 := Lib.hid h7
        clear H6 H5 h7
        go_wp2_with fail
        go_meet
        first | exact ⟨true, (putW wl (245 + (m : Int)) (blockOf yv)), jh', J', D', mb', f, (setF g m yv), ov, rfl, rfl, HR7, H7.out⟩ | (case rel => exact ⟨true, (putW wl (245 + (m : Int)) (blockOf yv)), jh', J', D', mb', f, (setF g m yv), ov, rfl, rfl, HR7, H7.out⟩)
      | false =>
        have h60 : ¬ (60 : Int) ≤ ((wl.length : Nat) : Int) := by
          rcases HRM.out with h | h
          · rw [hs1] at h; cases h
          · omega
        clear hs1
        obtain ⟨o, q, h6⟩ := H5.out.mtPut 3 rfl HMO.out (blockOf yv)
        have H6 := Lib.hid (show St w1 (setBlock w5 mb' o) (cst cb jh'.jb true ov wb :: wrt wb (putW wl (245 + (m : Int)) (blockOf yv)) :: jrn H jh' J' :: mtR mb' (putW wl (245 + (m : Int)) (blockOf yv)) :: arr sb (stC 80 f) 95 neS5 :: arr tb (stC 80 g) 95 neS5 :: dev H D' :: []) from h6)
        clear h6
        go_upto_region 28 with ((go_at_call 60; refine HDD.out.mono ?_; rintro e wz ⟨rfl, rfl⟩))
        obtain ⟨w6, hw6⟩ : ∃ w6, w6 = setBlock w5 mb' o := ⟨_, rfl⟩
        rw [← hw6] at H6 ⊢
        clear hw6 q hlk
        have ct : ∃ u, w6.cell? ⟨tb, m, none⟩ = some u := ⟨_, (H6.out.arrCell (i := 5) rfl m).trans (stC_get 80 g m HM.out)⟩
        obtain ⟨ut, ct⟩ := ct
        have ft : w6.frozen? ⟨tb, m, none⟩ = false := H6.out.arrFree (i := 5) rfl m
        have h7 := H6.out.setArr 5 rfl m (.int .i64 yv)
        rw [stC_setF 80 g m yv HM.out] at h7
        have h7 := (show St w1 (w6.setCell ⟨tb, m, none⟩ (.int .i64 yv)) (cst cb jh'.jb true ov wb :: wrt wb (putW wl (245 + (m : Int)) (blockOf yv)) :: jrn H jh' J' :: mtR mb' (putW wl (245 + (m : Int)) (blockOf yv)) :: arr sb (stC 80 f) 95 neS5 :: arr tb (stC 80 (setF g m yv)) 95 neS5 :: dev H D' :: []) from h7)
        have HR7 := Lib.hid (HR.out.write HI.out m HM.out yv HRM.out)
        have H7 := Lib.hid h7
        clear H6 H5 h7
        go_wp2_with fail
        go_meet
        first | exact ⟨true, (putW wl (245 + (m : Int)) (blockOf yv)), jh', J', D', mb', f, (setF g m yv), ov, rfl, rfl, HR7, H7.out⟩ | (case rel => exact ⟨true, (putW wl (245 + (m : Int)) (blockOf yv)), jh', J', D', mb', f, (setF g m yv), ov, rfl, rfl, HR7, H7.out⟩)
    · have h60 : (60 : Int) ≤ ((wl.length : Nat) : Int) := by omega
      have H7 := Lib.hid (show St w1 w5 (cst cb jh'.jb true true wb :: wrt wb wl :: jrn H jh' J' :: mtR mb' wl :: arr sb (stC 80 f) 95 neS5 :: arr tb (stC 80 g) 95 neS5 :: dev H D' :: []) from h5.sub (List.Sublist.cons_cons _ (List.Sublist.cons_cons _ (List.Sublist.cons_cons _ (List.Sublist.cons _ (List.Sublist.refl _))))))
      have hlk := H7.out.mtLook (i := 3) rfl HMO.out (s := false) (by rw [hno]; rfl) w5 rfl
      have HDD := Lib.hid (S_dirty H7.out (i := 3) rfl)
      have HR7 := Lib.hid (HR.out.next HI.out)
      clear h5 hno hful H3
      go_wp2_with (go_at_call 60; refine HDD.out.mono ?_; rintro e wz ⟨rfl, rfl⟩)
      go_meet
      first | exact ⟨true, wl, jh', J', D', mb', f, g, true, rfl, rfl, HR7, H7.out⟩ | (case rel => exact ⟨true, wl, jh', J', D', mb', f, g, true, rfl, rfl, HR7, H7.out⟩)
  have e2 : (K == 2) = false := by simpa using e2
  by_cases e3 : (K == 3) = true
  · obtain ⟨s0, hl0', hto0, hlim0, hops0, hi120, hco0, htk0, _⟩ := HR.out
    have k0 := HC0.out wr _ HST.out
    have HCM := Lib.hid (S_cCommitL HST.out 3 rfl hl0' hco0 (by omega) (by omega) (by omega) (by omega) (by omega) hlim0)
    have HTK := Lib.hid (htk0 rfl)
    have HO0 := Lib.hid (And.intro hops0 HI.out)
    clear hl0' hto0 hlim0 hops0 hi120 hco0 htk0
    go_wp2_with fail
    refine HCM.out.mono ?_
    clear HCM HST
    rintro e w5 ⟨jh4, J4, D4, hjb, rfl, h5, hl4, hlim4, hops4⟩
    rw [← hjb] at h5
    have H5 := (show St w1 w5 (cst cb jh4.jb false ov wb :: wrt wb [] :: jrn H jh4 J4 :: mtR mb' wl :: arr sb (stC 80 f) 95 neS5 :: arr tb (stC 80 g) 95 neS5 :: dev H D4 :: []) from h5)
    have k0 := HC0.out w5 _ H5
    have HGS := Lib.hid (show w5.heap[sb]? = some (.cells (stC 80 f) 95 (0, 0)) from H5.get (i := 4) rfl)
    have HGT := Lib.hid (show w5.heap[tb]? = some (.cells (stC 80 g) 95 (0, 0)) from H5.get (i := 5) rfl)
    have H6 := Lib.hid (show St w1 (w5.setRow sb (stC 80 g)) (cst cb jh4.jb false ov wb :: wrt wb [] :: jrn H jh4 J4 :: mtR mb' wl :: arr sb (stC 80 g) 95 neS5 :: arr tb (stC 80 g) 95 neS5 :: dev H D4 :: []) from H5.setRow 4 rfl (stC 80 g))
    have HR7 : Hid (PRel (i + 1) false [] J4 D4 g g) := Lib.hid ⟨_, hl4, HTK.out.isTo, hlim4, by have := HO0.out.1; omega, by have := HO0.out.2; omega, COk.nil 325, (fun h => by cases h), fun _ => rfl⟩
    clear h5 H5 hjb hl4 hlim4 hops4
    go_upto_region 45 with (first | refine loadS5 rfl _ rfl tb rfl g HGT.out ?_ | refine storeS5 rfl _ _ rfl sb g rfl rfl (stC 80 f) (stC_size _ _) HGS.out ?_)
    obtain ⟨w6, hw6⟩ : ∃ w6, w6 = w5.setRow sb (stC 80 g) := ⟨_, rfl⟩
    rw [← hw6] at H6 ⊢
    clear hw6 HGS HGT k0
    have h7 := (show St w1 w6 (cst cb jh4.jb false ov wb :: wrt wb [] :: jrn H jh4 J4 :: mtR mb' wl :: arr sb (stC 80 g) 95 neS5 :: arr tb (stC 80 g) 95 neS5 :: dev H D4 :: []) from H6.out).mtNew.reMt
    have H7 := Lib.hid h7
    clear H6 h7
    go_wp2_with fail
    go_meet
    first | exact ⟨false, [], jh4, J4, D4, w6.heap.size, g, g, ov, rfl, rfl, HR7, H7.out⟩ | (case rel => exact ⟨false, [], jh4, J4, D4, w6.heap.size, g, g, ov, rfl, rfl, HR7, H7.out⟩)
  have e3 : (K == 3) = false := by simpa using e3
  by_cases e4 : (K == 4) = true
  · have k0 := HC0.out wr _ HST.out
    go_wp2_with fail
    refine (S_cAbort HST.out).mono ?_
    rintro e w5 ⟨rfl, h5⟩
    have H6 := Lib.hid (show St w1 w5 (cst cb jh'.jb false ov wb :: wrt wb [] :: jrn H jh' J' :: mtR mb' wl :: arr sb (stC 80 f) 95 neS5 :: arr tb (stC 80 g) 95 neS5 :: dev H D' :: []) from h5)
    have k0 := HC0.out w5 _ H6.out
    have HR7 := Lib.hid (HR.out.shut HI.out)
    clear h5 HST
    have h7 := (show St w1 w5 (cst cb jh'.jb false ov wb :: wrt wb [] :: jrn H jh' J' :: mtR mb' wl :: arr sb (stC 80 f) 95 neS5 :: arr tb (stC 80 g) 95 neS5 :: dev H D' :: []) from H6.out).mtNew.reMt
    have H7 := Lib.hid h7
    clear H6 h7
    go_wp2_with fail
    go_meet
    first | exact ⟨false, [], jh', J', D', w5.heap.size, f, g, ov, rfl, rfl, HR7, H7.out⟩ | (case rel => exact ⟨false, [], jh', J', D', w5.heap.size, f, g, ov, rfl, rfl, HR7, H7.out⟩)
  have e4 : (K == 4) = false := by simpa using e4
  by_cases e5 : (K == 5) = true
  · obtain ⟨s0, hl0', _, _, hops0, hi120, hco0, _, _⟩ := HR.out
    have hmb := run_make511
    have h3 := HST.out.mkByt ((Frm.refl NoB wr).alloc (.cells (madeCells #[.int .u8 0] 511) 5 (0, 0))) (noughts_at wr 511)
    have H3 := Lib.hid (show St w1 _ (cst cb jh'.jb true ov wb :: wrt wb wl :: jrn H jh' J'   :: byt (.slice (some ⟨wr.heap.size, 0, none⟩) (511 : Nat) (511 : Nat)) (noughts 511) :: mtR mb' wl :: arr sb (stC 80 f) 95 neS5 :: arr tb (stC 80 g) 95 neS5 :: dev H D' :: []) from h3.perm (List.perm_append_comm (l₁ := [_]) (l₂ := [_, _, _]) |>.append_right _))
    have HWR := Lib.hid (S_cWriteLen H3.out 4 0 rfl rfl (by rw [noughts_length]; omega) (hl0'.ok (by omega) (by omega)) (by omega) (245 + (m : Int)) (by omega) (by rw [hl0'.dn]; omega))
    clear h3 HST hl0' hops0 hi120 hco0
    go_wp2_with fail
    refine HWR.out.mono ?_
    clear HWR H3
    rintro e w5 ⟨rfl, h5⟩
    have H7 := Lib.hid (show St w1 w5 (cst cb jh'.jb true ov wb :: wrt wb wl :: jrn H jh' J' :: mtR mb' wl :: arr sb (stC 80 f) 95 neS5 :: arr tb (stC 80 g) 95 neS5 :: dev H D' :: []) from h5.sub (List.Sublist.cons_cons _ (List.Sublist.cons_cons _ (List.Sublist.cons_cons _ (List.Sublist.cons _ (List.Sublist.refl _))))))
    have HR7 := Lib.hid (HR.out.next HI.out)
    clear h5 hmb
    go_wp2_with fail
    go_meet
    first | exact ⟨true, wl, jh', J', D', mb', f, g, ov, rfl, rfl, HR7, H7.out⟩ | (case rel => exact ⟨true, wl, jh', J', D', mb', f, g, ov, rfl, rfl, HR7, H7.out⟩)
  have e5 : (K == 5) = false := by simpa using e5
  by_cases e6 : (K == 6) = true
  · obtain ⟨s0, hl0', _, _, hops0, hi120, hco0, _, _⟩ := HR.out
    have hdn0 := hl0'.dn
    clear hl0' hops0 hi120 hco0
    go_wp2_with fail
    refine (S_Block HST.out yv).mono ?_
    rintro e w3 ⟨u, rfl, h3⟩
    have H3 := Lib.hid (show St w1 w3 (cst cb jh'.jb true ov wb :: wrt wb wl :: jrn H jh' J'   :: byt u (blockOf yv) :: mtR mb' wl :: arr sb (stC 80 f) 95 neS5 :: arr tb (stC 80 g) 95 neS5 :: dev H D' :: []) from h3.perm (List.perm_append_comm (l₁ := [_]) (l₂ := [_, _, _]) |>.append_right _))
    clear h3 HST
    have HWR := Lib.hid (S_cWriteFar H3.out 4 rfl (325 + (m : Int)) (.inr (by rw [hdn0]; omega)) u)
    clear hdn0
    go_wp2_with fail
    refine HWR.out.mono ?_
    clear HWR H3
    rintro e w5 ⟨rfl, h5⟩
    have H7 := Lib.hid (show St w1 w5 (cst cb jh'.jb true ov wb :: wrt wb wl :: jrn H jh' J' :: mtR mb' wl :: arr sb (stC 80 f) 95 neS5 :: arr tb (stC 80 g) 95 neS5 :: dev H D' :: []) from h5.sub (List.Sublist.cons_cons _ (List.Sublist.cons_cons _ (List.Sublist.cons_cons _ (List.Sublist.cons _ (List.Sublist.refl _))))))
    have HR7 := Lib.hid (HR.out.next HI.out)
    clear h5
    go_wp2_with fail
    go_meet
    first | exact ⟨true, wl, jh', J', D', mb', f, g, ov, rfl, rfl, HR7, H7.out⟩ | (case rel => exact ⟨true, wl, jh', J', D', mb', f, g, ov, rfl, rfl, HR7, H7.out⟩)
  have e6 : (K == 6) = false := by simpa using e6
  have H7 := HST
  have HR7 := Lib.hid (HR.out.next HI.out)
  clear HST
  go_wp2_with fail
  go_meet
  first | exact ⟨true, wl, jh', J', D', mb', f, g, ov, rfl, rfl, HR7, H7.out⟩ | (case rel => exact ⟨true, wl, jh', J', D', mb', f, g, ov, rfl, rfl, HR7, H7.out⟩)

set_option maxHeartbeats 2000000 in
set_option maxRecDepth 100000 in
theorem cachePlays_any (w : World) (v : Value) (l : List (Int × Int × Int)) (hv : Trips w v l) (hk : ∀ p ∈ l, okI p.1 ∧ okI p.2.1 ∧ okI p.2.2) :
    Calls Try.prog 22 #[v] w fun e w' => e = .returned (.bool true) ∧ Frm NoB w w' := by
  obtain ⟨w1, hw1⟩ : ∃ w1, w = w1 := ⟨_, rfl⟩
  rw [hw1] at hv ⊢
  clear hw1
  obtain ⟨a, cap, rfl, hcell⟩ := hv
  have HC := Lib.hid hcell
  have HOK := Lib.hid hk
  have hl0 : (0 : Int) ≤ ((l.length : Nat) : Int) := Int.natCast_nonneg _
  clear hcell hk
  go_enter Try.func22, Try.ntmps22
  by_cases h0 : (120 : Int) < ((l.length : Nat) : Int)
  · go_wp2_with fail
    refine (awake5_any (St.start w1)).mono ?_
    rintro e w5 ⟨rfl, h5⟩
    have HF5 := Lib.hid h5.base
    clear h5
    go_wp2
    go_ret
    exact ⟨rfl, HF5.out⟩
  have hl120 : ((l.length : Nat) : Int) ≤ 120 := by omega
  have HF := Lib.hid (S_fresh5 (St.start w1))
  go_wp2_with fail
  refine HF.out.mono ?_
  clear HF h0
  rintro e w2 ⟨H, jh, J, D, cb, wb, rfl, h2, hl, hlim, hops⟩
  have H3 := Lib.hid h2
  have HR1 : Hid (PRel 0 false [] J D zeroS zeroS) := Lib.hid ⟨_, hl, isTo_zero5, hlim, hops, by omega, COk.nil 325, (fun h => by cases h), fun _ => rfl⟩
  clear h2 hl hlim hops
  have hmk : ∀ W, (Instr.makeMap 96 none).run Try.prog W = .ok (.map (some W.heap.size)) (W.alloc (.map #[] 0)) := fun W => rfl
  go_upto_region 9 with (refine allocRow rfl _ (stC 80 zeroS) zeroS5 rfl ?_)
  have H4 := Lib.hid (((H3.out.newArr (stC 80 zeroS) 95 neS5).newArr (stC 80 zeroS) 95 neS5).mtNew)
  rw [size_alloc, size_alloc] at H4
  obtain ⟨w4, hw4⟩ : ∃ w4, w4 = ((w2.alloc (.cells (stC 80 zeroS) 95 (0, 0))).alloc (.cells (stC 80 zeroS) 95 (0, 0))).alloc (.map #[] 0) := ⟨_, rfl⟩
  rw [← hw4] at H4 ⊢
  clear hw4 H3
  generalize w2.heap.size + 1 + 1 = mb at *
  generalize w2.heap.size + 1 = tb at *
  generalize w2.heap.size = sb at *
  have H4 := Lib.hid (show St w1 w4 (cst cb jh.jb false false wb :: wrt wb [] :: jrn H jh J :: mtR mb [] :: arr sb (stC 80 zeroS) 95 neS5 :: arr tb (stC 80 zeroS) 95 neS5 :: dev H D :: []) from (H4.out.perm (List.perm_append_comm (l₁ := [_, _, _]) (l₂ := [_, _, _]) |>.append_right _)).perm (List.Perm.cons _ (List.Perm.cons _ (List.Perm.cons _ (List.Perm.cons _ (List.Perm.swap _ _ _))))))
  go_wp2_with fail
  go_loopw [8, 9, 10] (fun t8 t9 t10 wr => ∃ (i : Nat) (op : Bool) (wl : WrL) (jh' : JHdl) (J' : JSt) (D' : DSt) (mb' : Nat) (f g : Nat → Int) (ov : Bool), i ≤ l.length ∧ t8 = .bool op ∧ t9 = .map (some mb') ∧ t10 = .int .i64 i ∧ St w1 wr (cst cb jh'.jb op ov wb :: wrt wb wl :: jrn H jh' J' :: mtR mb' wl :: arr sb (stC 80 f) 95 neS5 :: arr tb (stC 80 g) 95 neS5 :: dev H D' :: []) ∧ Hid (PRel i op wl J' D' f g)) (fun _ _ t _ => l.length - (intOf t).toNat)
  case atStart => exact ⟨0, false, [], jh, J, D, mb, zeroS, zeroS, false, Nat.zero_le _, rfl, rfl, rfl, H4.out, HR1⟩
  case round =>
    clear H4 HR1
    obtain ⟨i, op, wl, jh', J', D', mb', f, g, ov, hi, rfl, rfl, rfl, hst, HR⟩ := hrel
    have HST := Lib.hid hst
    clear hst
    by_cases hlt : i < l.length
    · have hi0 : (0 : Int) ≤ (i : Int) := Int.natCast_nonneg _
      have hi1 : (i : Int) < (l.length : Int) := by omega
      have HI : Hid (i ≤ 120) := Lib.hid (by omega)
      obtain ⟨p, hp⟩ : ∃ p, l[i]? = some p := ⟨_, List.getElem?_eq_getElem hlt⟩
      obtain ⟨gb, go, rfl, hgb, c0, c1, c2⟩ := HC.out i p hp
      obtain ⟨K, x, y⟩ := p
      have HC0 : Hid (∀ W rs', St w1 W rs' → W.cell? ⟨gb, go + i * 3, none⟩ = some (.int .i64 K)) := Lib.hid fun W rs' hW => (hW.base.cell hgb (fun e => e)).trans c0
      have k0 := HC0.out wr _ HST.out
      have k1 : wr.cell? ⟨gb, go + i * 3 + 1, none⟩ = some (.int .i64 x) := (HST.out.base.cell hgb (fun e => e)).trans c1
      have k2 : wr.cell? ⟨gb, go + i * 3 + 2, none⟩ = some (.int .i64 y) := (HST.out.base.cell hgb (fun e => e)).trans c2
      have HOX := Lib.hid (HOK.out _ (List.mem_of_getElem? hp))
      clear c0 c1 c2 hgb hp
      go_wp2_with fail
      refine (Round_any _ x 80 HOX.out.2.1 (by omega) (by omega)).mono ?_
      rintro e wq ⟨rfl, rfl⟩
      obtain ⟨m, hm⟩ : ∃ m : Nat, x % 80 = m := ⟨(x % 80).toNat, by omega⟩
      rw [hm]
      have hm0 : (0 : Int) ≤ (m : Int) := Int.natCast_nonneg _
      have hm1 : (m : Int) < 80 := by omega
      have HM : Hid (m < 80) := Lib.hid (by omega)
      have HMO : Hid (okI (m : Int)) := Lib.hid ((okI_iff _).2 (by omega))
      clear hm
      go_wp2_with fail
      refine (Round_any _ y 250 HOX.out.2.2 (by omega) (by omega)).mono ?_
      rintro e wq ⟨rfl, rfl⟩
      have hy0 : 0 ≤ y % 250 := Int.emod_nonneg _ (by omega)
      have hy1 : y % 250 < 250 := Int.emod_lt_of_pos _ (by omega)
      generalize y % 250 = yv at *
      go_upto_block 2 with (fail)
      clear k0 k1 k2
      go_cut [8, 9] from 31 to 205 (fun t8 t9 wx => ∃ (op : Bool) (wl : WrL) (jh' : JHdl) (J' : JSt) (D' : DSt) (mb' : Nat) (f g : Nat → Int) (ov : Bool), t8 = .bool op ∧ t9 = .map (some mb') ∧ Hid (PRel (i + 1) op wl J' D' f g) ∧ St w1 wx (cst cb jh'.jb op ov wb :: wrt wb wl :: jrn H jh' J' :: mtR mb' wl :: arr sb (stC 80 f) 95 neS5 :: arr tb (stC 80 g) 95 neS5 :: dev H D' :: []))
      case rest =>
        clear HST HR
        obtain ⟨op, wl, jh', J', D', mb', f, g, ov, rfl, rfl, HR7, hst⟩ := hcut
        cases op with
        | false =>
          obtain rfl : wl = [] := by obtain ⟨_, _, _, _, _, _, _, _, h⟩ := HR7.out; exact h rfl
          have H7 := Lib.hid (show St w1 wc (cst cb jh'.jb false ov wb :: wrt wb [] :: jrn H jh' J' :: mtR mb' [] :: arr sb (stC 80 f) 95 neS5 :: arr tb (stC 80 g) 95 neS5 :: dev H D' :: []) from hst)
          clear hst
          obtain ⟨σ, hl7, hto7, hlim7, hops7, hi7, hco7, htk7, hnl7⟩ := HR7.out
          have HIS := Lib.hid (S_is5 H7.out 3 rfl hl7 (by omega) (by omega) (by omega) hco7.b512 f)
          rw [cvw_nil, hto7] at HIS
          have HGA := Lib.hid (show wc.heap[sb]? = some (.cells (stC 80 f) 95 (0, 0)) from H7.out.get (i := 4) rfl)
          have HDT := Lib.hid (S_dirty H7.out (i := 3) rfl)
          clear hl7 hto7 hlim7 hops7 hi7 hco7 htk7 hnl7
          go_wp2_with fail
          refine (S_cOpen H7.out).mono ?_
          rintro e wq ⟨rfl, rfl⟩
          go_wp2_with fail
          refine (S_cDirty H7.out).mono ?_
          rintro e wq ⟨rfl, rfl⟩
          go_wp2_with fail
          refine HDT.out.mono ?_
          rintro e wq ⟨rfl, rfl⟩
          clear HDT H7
          go_wp2_with (first | refine loadS5 rfl _ rfl sb rfl f HGA.out ?_)
          refine HIS.out.mono ?_
          clear HIS HGA
          rintro e wq ⟨rfl, h8⟩
          have H8 := Lib.hid (show St w1 wq (cst cb jh'.jb false ov wb :: wrt wb [] :: jrn H jh' J' :: mtR mb' [] :: arr sb (stC 80 f) 95 neS5 :: arr tb (stC 80 g) 95 neS5 :: dev H D' :: []) from h8)
          clear h8
          go_wp2
          first | exact ⟨⟨i + 1, false, [], jh', J', D', mb', f, g, ov, hlt, rfl, rfl, by go_num, H8.out, HR7⟩, by simp [intOf]; omega⟩ | (go_roundw; case rel => first | exact ⟨i + 1, false, [], jh', J', D', mb', f, g, ov, hlt, rfl, rfl, by go_num, H8.out, HR7⟩ | ((repeat apply Exists.intro); exact ⟨⟨i + 1, false, [], jh', J', D', mb', f, g, ov, hlt, rfl, rfl, by go_num, H8.out, HR7⟩, rfl⟩); case measure => simp [intOf]; omega)
        | true =>
          have H7 := Lib.hid (show St w1 wc (cst cb jh'.jb true ov wb :: wrt wb wl :: jrn H jh' J' :: mtR mb' wl :: arr sb (stC 80 f) 95 neS5 :: arr tb (stC 80 g) 95 neS5 :: dev H D' :: []) from hst)
          clear hst
          obtain ⟨σ, hl7, hto7, hlim7, hops7, hi7, hco7, htk7, hnl7⟩ := HR7.out
          have HIS := Lib.hid (S_is5 H7.out 3 rfl hl7 (by omega) (by omega) (by omega) hco7.b512 g)
          rw [(htk7 rfl).isTo] at HIS
          have HGA := Lib.hid (show wc.heap[tb]? = some (.cells (stC 80 g) 95 (0, 0)) from H7.out.get (i := 5) rfl)
          have HDT := Lib.hid (S_dirty H7.out (i := 3) rfl)
          clear hl7 hto7 hlim7 hops7 hi7 hco7 htk7 hnl7
          go_wp2_with fail
          refine (S_cOpen H7.out).mono ?_
          rintro e wq ⟨rfl, rfl⟩
          go_wp2_with fail
          refine (S_cDirty H7.out).mono ?_
          rintro e wq ⟨rfl, rfl⟩
          go_wp2_with fail
          refine HDT.out.mono ?_
          rintro e wq ⟨rfl, rfl⟩
          clear HDT H7
          go_wp2_with (first | refine loadS5 rfl _ rfl tb rfl g HGA.out ?_)
          refine HIS.out.mono ?_
          clear HIS HGA
          rintro e wq ⟨rfl, h8⟩
          have H8 := Lib.hid (show St w1 wq (cst cb jh'.jb true ov wb :: wrt wb wl :: jrn H jh' J' :: mtR mb' wl :: arr sb (stC 80 f) 95 neS5 :: arr tb (stC 80 g) 95 neS5 :: dev H D' :: []) from h8)
          clear h8
          go_wp2
          first | exact ⟨⟨i + 1, true, wl, jh', J', D', mb', f, g, ov, hlt, rfl, rfl, by go_num, H8.out, HR7⟩, by simp [intOf]; omega⟩ | (go_roundw; case rel => first | exact ⟨i + 1, true, wl, jh', J', D', mb', f, g, ov, hlt, rfl, rfl, by go_num, H8.out, HR7⟩ | ((repeat apply Exists.intro); exact ⟨⟨i + 1, true, wl, jh', J', D', mb', f, g, ov, hlt, rfl, rfl, by go_num, H8.out, HR7⟩, rfl⟩); case measure => simp [intOf]; omega)
      case first =>
      cases op with
      | false =>
        obtain rfl : wl = [] := by obtain ⟨_, _, _, _, _, _, _, _, h⟩ := HR.out; exact h rfl
        have HST := Lib.hid (show St w1 wr (cst cb jh'.jb false ov wb :: wrt wb [] :: jrn H jh' J' :: mtR mb' [] :: arr sb (stC 80 f) 95 neS5 :: arr tb (stC 80 g) 95 neS5 :: dev H D' :: []) from HST.out)
        exact cplaysF (by assumption) (by assumption) HST HR HI HC0 HM HMO hm0 hm1 hy0 hy1 hi0 hi1 _ (by kernel_rfl)
      | true =>
        have HST := Lib.hid (show St w1 wr (cst cb jh'.jb true ov wb :: wrt wb wl :: jrn H jh' J' :: mtR mb' wl :: arr sb (stC 80 f) 95 neS5 :: arr tb (stC 80 g) 95 neS5 :: dev H D' :: []) from HST.out)
        exact cplaysT (by assumption) (by assumption) HST HR HI HC0 HM HMO hm0 hm1 hy0 hy1 hi0 hi1 _ (by kernel_rfl)
    · have hi1 : ¬ (i : Int) < (l.length : Int) := by omega
      go_wp2_with fail
      refine (awake5_any HST.out).mono ?_
      rintro e w5 ⟨rfl, h5⟩
      have HF5 := Lib.hid h5.base
      clear h5
      go_wp2
      go_ret
      exact ⟨rfl, HF5.out⟩
end Go.Proofs.Ytkanfpmmgaipnaa
