/-
  The catalog, from the device up, part 20.
-/
import Derived.Test.YtlemndledcmhiaaGreatDoorU19
namespace Go.Proofs.YtlemndledcmhiaaGreatDoor
set_option linter.unusedVariables false
set_option linter.unusedSimpArgs false
section
open Go.ChangeMaps Go.MapKept Go.RowKit
variable {w0:Gnd} {w:World} {rs:List Res} {fb cb next used ops:Nat} {L:List Tp}
theorem ci_Create (h:CatI w0 w fb cb next used ops L rs) (hL:L.length<20) (hn:next<100) {P:Nat} (hP:1≤P∧P≤8) (hu:used+P≤70) (ho:ops<900000) {nm:ByteArray} (hn50:nm.size≤50) (hN:Named nm true) (hno: ∀x∈L,x.nm≠nm) {p3 p4 p5:Int} {p6:Bool} {p7:Int} (hs:SetOk p3 p4 p5 p7):
    Calls Tryz.prog 11 #[.pointer (some ⟨cb,0,none⟩),.string nm,.int .i64 P,.agg (stz p3 p4 p5 p6 p7)] w fun e w'=>e= .returned (.tuple #[.agg (tpz nm next P p3 p4 p5 p6 p7),.int .i64 0])∧CatI w0 w' fb cb (next+1) (used+P) (ops+1) (insT ⟨nm,next,P,p3,p4,p5,p6,p7⟩ L) rs:=by
  obtain ⟨F,X,A,ι,mb,n,D,rfl,hf,hc,hr⟩:=h
  refine (c_Create hf hc.b hc.d hc.op hc.lim (by have:=hr.m;omega) hc.l (hr.may hL hn hP hu) hn50 hN hno p3 p4 p5 p6 p7 hs.h1 hs.h2 hs.h3 hs.h4).mono ?_
  rintro e w' ⟨he,Y,A',ι',n',mb',hf',hm⟩
  refine ⟨he,{ F with begun:=false,over:=false },Y,A',ι',mb',n',D++partNs next P,rfl,?_,⟨rfl,hc.d,hm.op,hm.l,hm.same.lim.trans hc.lim⟩,hr.made hL hn hP (t:=⟨nm,next,P,p3,p4,p5,p6,p7⟩) rfl rfl hn50 hno ?_ hm⟩
  · have:((next:Int)+1)=((next+1:Nat):Int):=by omega
    rw [this] at hf'
    exact hf'
  · have h1:=hs.h1;have h2:=hs.h2;have h3:=hs.h3;have h4:=hs.h4
    intro x hx
    simp only [Tp.nums,List.mem_cons,List.not_mem_nil,or_false] at hx
    rcases hx with rfl | rfl | rfl | rfl | rfl | rfl | rfl
    · exact i64_small (by omega)
    · exact i64_small (by omega)
    · constructor<;>omega
    · constructor<;>omega
    · constructor<;>omega
    · cases p6<;>(constructor<;>simp [bit01])
    · constructor<;>omega
theorem ci_Delete (h:CatI w0 w fb cb next used ops L rs) (ho:ops<900000) {t:Tp} (ht:t∈L) (hN:Named t.nm true):
    Calls Tryz.prog 15 #[.pointer (some ⟨cb,0,none⟩),.string t.nm] w fun e w'=>e= .returned (.int .i64 0)∧CatI w0 w' fb cb next used (ops+1) (delT t.nm L) rs:=by
  obtain ⟨F,X,A,ι,mb,n,D,rfl,hf,hc,hr⟩:=h
  refine (c_Delete hf hc hr (by have:=hr.m;omega) ht hN).mono ?_
  rintro e w' ⟨he,Y,A',mb',hf',hg⟩
  exact ⟨he,{ F with begun:=false,over:=false },Y,A',ι,mb',n,D,rfl,hf',⟨rfl,hc.d,hg.op,hg.l,hg.same.lim.trans hc.lim⟩,hr.gone ht hg⟩
theorem ci_DeleteNo (h:CatI w0 w fb cb next used ops L rs) {nm:ByteArray} (hn:nm.size≤50) (hN:Named nm true) (hno: ∀x∈L,x.nm≠nm):
    Calls Tryz.prog 15 #[.pointer (some ⟨cb,0,none⟩),.string nm] w fun e w'=>e= .returned (.int .i64 4)∧CatI w0 w' fb cb next used ops L rs:=by
  obtain ⟨F,X,A,ι,mb,n,D,rfl,hf,hc,hr⟩:=h
  refine (c_DeleteNo hf (i:=0) (j:=1) rfl rfl hr.cat hn hN hno).mono ?_
  rintro e w' ⟨he,hf'⟩
  exact ⟨he,F,X,A,ι,mb,n,D,rfl,hf',hc,hr⟩
theorem ci_Dir (h:CatI w0 w fb cb next used ops L rs) (id p:Nat) (hid:id<100) (hp:p<10) (nm:ByteArray) (p2 p3 p4 p5:Int) (p6:Bool) (p7:Int):
    Calls Tryz.prog 24 #[.pointer (some ⟨cb,0,none⟩),.agg (tpz nm id p2 p3 p4 p5 p6 p7),.int .i64 p] w fun e w'=>e= .returned (.string (pathB [cN,partN id p]))∧CatI w0 w' fb cb next used ops L rs:=by
  obtain ⟨F,X,A,ι,mb,n,D,rfl,hf,hc,hr⟩:=h
  refine (c_Dir hf (i:=0) rfl id p hid hp nm p2 p3 p4 p5 p6 p7).mono ?_
  rintro e w' ⟨he,hf'⟩
  exact ⟨he,F,X,A,ι,mb,n,D,rfl,hf',hc,hr⟩
theorem ci_StatProd (h:CatI w0 w fb cb next used ops L rs) {t:Tp} (ht:t∈L) (hn:next≤100) (id p:Nat) (hid:t.id=id) (hp:(p:Int)<t.parts) (hp10:p<10):
    Calls Tryz.prog 35 #[.pointer (some ⟨fb,0,none⟩),.string (pathB [cN,partN id p,prodN])] w fun e w'=>e= .returned (.tuple #[.agg #[.int .i64 1,.int .i64 0],.int .i64 0])∧CatI w0 w' fb cb next used ops L rs:=by
  obtain ⟨F,X,A,ι,mb,n,D,rfl,hf,hc,hr⟩:=h
  obtain ⟨id',P,q1,q2,q3,q4⟩:=hr.top t ht
  obtain rfl:id=id':=by omega
  obtain ⟨⟨m,a1⟩,a2,a3⟩:=hr.new _ (q4 p (by omega))
  have hst:statR A [cN,partN id p,prodN]= .tuple #[.agg #[.int .i64 1,.int .i64 0],.int .i64 0]:=by unfold statR;rw [a3];rfl
  have hs:=f_StatP hf [cN,partN id p,prodN] (by simp) (by
    intro x hx
    simp only [List.mem_cons,List.not_mem_nil,or_false] at hx
    rcases hx with rfl | rfl | rfl
    · exact cN_ok
    · exact partN_ok (by omega) hp10
    · exact prodN_ok) (by simp) (fun k hk _=>by
      have hk:k<3:=hk
      match k,hk with
      | 0,_=>exact hf.2.root
      | 1,_=>exact ⟨_,hr.tree.c⟩
      | 2,_=>exact ⟨_,a1⟩)
  rw [hst] at hs
  refine hs.mono ?_
  rintro e w' ⟨he,hf'⟩
  exact ⟨he,F,X,A,ι,mb,n,D,rfl,hf',hc,hr⟩
theorem nm1_ok (c:UInt8) (h:c.toNat<128∧c≠47∧c≠0∧c≠46):NameOk ⟨#[c]⟩:=
  nameOk_of _ ⟨Nat.le_refl 1,(by omega:1≤50)⟩ (by simp [h.1,h.2.1,h.2.2.1]) (by simp [h.2.2.2])
theorem setPlain:SetOk 600 (-1) (-1) 0:=⟨by decide,by decide,by decide,by decide⟩
def topA:Tp:=⟨⟨#[97]⟩,1,2,600,-1,-1,false,0⟩
theorem path_a1:pathB [cN,partN 1 1]=⟨#[47,99,47,116,49,45,49]⟩:=by decide+kernel
theorem path_a2:pathB [cN,partN 1 1,prodN]=⟨#[47,99,47,116,49,45,49,47,112,114,111,100,117,99,101,114,115]⟩:=by decide+kernel
set_option maxHeartbeats 1000000 in
set_option maxRecDepth 100000 in
theorem awake17_any (h:St w0 w rs):Calls Tryz.prog 9 #[] w fun e w'=>e= .returned (.bool true)∧St w0 w' rs:=by
  have HF:=Lib.hid (ci_fresh h)
  have KC:Hid (∀W fb cb,CatI w0 W fb cb 1 0 0 [] rs→Calls Tryz.prog 11 #[.pointer (some ⟨cb,0,none⟩),.string ⟨#[97]⟩,.int .i64 2,.agg (stz 600 (-1) (-1) false 0)] W fun e w'=>e= .returned (.tuple #[.agg (tpz ⟨#[97]⟩ 1 2 600 (-1) (-1) false 0),.int .i64 0])∧CatI w0 w' fb cb 2 2 1 [topA] rs):=Lib.hid fun W fb cb hW=>ci_Create hW (by decide) (by decide) (P:=2) (by decide) (by decide) (by decide) (nm:=⟨#[97]⟩) (by decide) (named (nm1_ok 97 (by decide))) (by simp) (p6:=false) setPlain
  have KD:Hid (∀W fb cb,CatI w0 W fb cb 2 2 1 [topA] rs→Calls Tryz.prog 24 #[.pointer (some ⟨cb,0,none⟩),.agg (tpz ⟨#[97]⟩ 1 2 600 (-1) (-1) false 0),.int .i64 1] W fun e w'=>e= .returned (.string ⟨#[47,99,47,116,49,45,49]⟩)∧CatI w0 w' fb cb 2 2 1 [topA] rs):=Lib.hid fun W fb cb hW=>by
    have:=ci_Dir hW 1 1 (by decide) (by decide) ⟨#[97]⟩ 2 600 (-1) (-1) false 0
    rw [path_a1] at this
    exact this
  have KS:Hid (∀W fb cb,CatI w0 W fb cb 2 2 1 [topA] rs→Calls Tryz.prog 35 #[.pointer (some ⟨fb,0,none⟩),.string ⟨#[47,99,47,116,49,45,49,47,112,114,111,100,117,99,101,114,115]⟩] W fun e w'=>e= .returned (.tuple #[.agg #[.int .i64 1,.int .i64 0],.int .i64 0])∧CatI w0 w' fb cb 2 2 1 [topA] rs):=Lib.hid fun W fb cb hW=>by
    have:=ci_StatProd hW (t:=topA) (List.mem_cons_self ..) (by decide) 1 1 rfl (by decide) (by decide)
    rw [path_a2] at this
    exact this
  have KE:Hid (∀W fb cb,CatI w0 W fb cb 2 2 1 [topA] rs→Calls Tryz.prog 15 #[.pointer (some ⟨cb,0,none⟩),.string ⟨#[97]⟩] W fun e w'=>e= .returned (.int .i64 0)∧CatI w0 w' fb cb 2 2 2 [] rs):=Lib.hid fun W fb cb hW=>by
    have:=ci_Delete hW (by decide) (t:=topA) (List.mem_cons_self ..) (named (nm1_ok 97 (by decide)))
    rw [show delT topA.nm [topA]= [] by simp [delT]] at this
    exact this
  have KN:Hid (∀W fb cb,CatI w0 W fb cb 2 2 2 [] rs→Calls Tryz.prog 15 #[.pointer (some ⟨cb,0,none⟩),.string ⟨#[97]⟩] W fun e w'=>e= .returned (.int .i64 4)∧CatI w0 w' fb cb 2 2 2 [] rs):=Lib.hid fun W fb cb hW=>ci_DeleteNo hW (by decide) (named (nm1_ok 97 (by decide))) (by simp)
  clear h
  go_enter Tryz.func9,Tryz.ntmps9
  go_wp2_with fail
  refine HF.out.mono ?_
  clear HF
  rintro e w1 ⟨hb,fb,cb,rfl,h1⟩
  have H1:=Lib.hid h1
  clear h1
  go_wp2_with fail
  refine (p_plain w1).mono ?_
  rintro e w2 ⟨rfl,hf⟩
  have HC:=Lib.hid (KC.out _ _ _ (H1.out.frm hf))
  clear hf H1 KC
  go_wp2_with fail
  refine HC.out.mono ?_
  clear HC
  rintro e w3 ⟨rfl,h3⟩
  have HK0:=Lib.hid (block_alloc_new w3 (.cells (tpz ByteArray.empty 0 0 0 0 0 false 0) 31 (0,0)))
  have H4:=Lib.hid (h3.frm (((Frm.refl NoB w3).alloc (.cells (tpz ByteArray.empty 0 0 0 0 0 false 0) 31 (0,0))).setRowNew (Nat.le_refl _) (tpz ⟨#[97]⟩ 1 2 600 (-1) (-1) false 0)))
  have HB4:=Lib.hid (setRow_heap _ _ _ (tpz ⟨#[97]⟩ 1 2 600 (-1) (-1) false 0) _ _ HK0.out)
  clear h3
  go_upto_region 5 with (first | (refine allocRow rfl _ _ zeroTp rfl ?_) | (refine storeTp rfl _ _ rfl w3.heap.size ⟨#[97]⟩ 1 2 600 (-1) (-1) false 0 rfl rfl _ rfl HK0.out ?_))
  clear HK0
  obtain ⟨w4,hw4⟩: ∃w4,(w3.alloc (.cells (tpz ByteArray.empty 0 0 0 0 0 false 0) 31 (0,0))).setRow w3.heap.size (tpz ⟨#[97]⟩ 1 2 600 (-1) (-1) false 0)=w4:=⟨_,rfl⟩
  obtain ⟨g4,hg4⟩: ∃g4,w3.heap.size=g4:=⟨_,rfl⟩
  show Code.wp Tryz.prog _ _ _ ((w3.alloc (.cells (tpz ByteArray.empty 0 0 0 0 0 false 0) 31 (0,0))).setRow w3.heap.size (tpz ⟨#[97]⟩ 1 2 600 (-1) (-1) false 0))
  rw [hw4] at H4 HB4 ⊢
  rw [hg4] at HB4 ⊢
  clear hw4 hg4
  have e1:w4.cell? ⟨g4,1,none⟩=some (.int .i64 1):=(cell_of_block HB4.out).trans rfl
  have HD:=Lib.hid (KD.out _ _ _ H4.out)
  clear KD H4
  go_wp2_with (refine loadTp rfl _ rfl g4 rfl ⟨#[97]⟩ 1 2 600 (-1) (-1) false 0 HB4.out ?_)
  refine HD.out.mono ?_
  clear HD HB4 e1
  rintro e w5 ⟨rfl,h5⟩
  have HS:=Lib.hid (KS.out _ _ _ h5)
  clear h5 KS
  go_wp2_with fail
  refine HS.out.mono ?_
  clear HS
  rintro e w6 ⟨rfl,h6⟩
  have H6:=Lib.hid (h6.frm ((Frm.refl NoB w6).alloc (.cells #[.int .i64 1,.int .i64 0] 82 (0,0))))
  have e7:(w6.alloc (.cells #[.int .i64 1,.int .i64 0] 82 (0,0))).cell? ⟨w6.heap.size,0,none⟩=some (.int .i64 1):=(cell_of_block (block_alloc_new w6 _)).trans rfl
  have HE:=Lib.hid (KE.out _ _ _ H6.out)
  clear h6 KE H6
  go_wp2_with fail
  refine HE.out.mono ?_
  clear HE e7
  rintro e w8 ⟨rfl,h8⟩
  have HN:=Lib.hid (KN.out _ _ _ h8)
  clear h8 KN
  go_wp2_with fail
  refine HN.out.mono ?_
  clear HN
  rintro e w9 ⟨rfl,h9⟩
  have H9:=Lib.hid h9.st
  clear h9
  go_wp2
  go_ret
  exact ⟨rfl,H9.out⟩
end
section
open Go.ChangeMaps Go.MapKept Go.RowKit
theorem Fs.st {w0:Gnd} {w:World} {rs:List Res} {X:Sys} {F:FH} {A:Path→Option Nd} {ι:Path→Nat} (h:Fs w0 w F X A ι rs):St w0 w rs:=by
  obtain ⟨⟨k,l,ha,-⟩,-⟩:=h
  exact ha.1.drop 3
theorem sihTp:Tryz.prog.stoodInHeld 31=false:=by kernel_rfl
theorem sihSt:Tryz.prog.stoodInHeld 29=false:=by kernel_rfl
theorem neqTp (W:World) (nm:ByteArray) (p1 p2 p3 p4 p5:Int) (p6:Bool) (p7:Int):
    (binOp .neq 31 (.agg #[.string nm,.int .i64 p1,.int .i64 p2,.int .i64 p3,.int .i64 p4,.int .i64 p5,.bool p6,.int .i64 p7]) (.agg #[.string nm,.int .i64 p1,.int .i64 p2,.int .i64 p3,.int .i64 p4,.int .i64 p5,.bool p6,.int .i64 p7])).run Tryz.prog W= .ok (.bool false) W:=by
  simp [go_sem,sihTp,sihSt]
def Two8 (y:World) (b1 b2:Nat) (c1 c2:Array Value):Prop:=y.heap[b1]?=some (.cells c1 31 (0,0))∧y.heap[b2]?=some (.cells c2 45 (0,0))
theorem Two8.frm {y z:World} {b1 b2:Nat} {c1 c2:Array Value} (h:Two8 y b1 b2 c1 c2) (hf:Frm NoB y z):Two8 z b1 b2 c1 c2:=
  ⟨(hf.block _ (lt_of_block h.1) (fun e=>e)).trans h.1,(hf.block _ (lt_of_block h.2) (fun e=>e)).trans h.2⟩
theorem row_cases {W:World} {base:Nat} {v:Value} {n:Nat} {xs:List Value} (h:W.ownsRow base 31 8 v n xs): ∃a c,v= .slice a n c:=by
  rcases h.2 with ⟨rfl,rfl⟩ | ⟨g,cap,cur,rfl,-⟩
  · exact ⟨none,0,rfl⟩
  · exact ⟨_,_,rfl⟩
theorem nm50 {nm:ByteArray} (h:nmB nm=true):nm.size≤50:=by
  unfold nmB at h
  simp only [Bool.and_eq_true,decide_eq_true_eq] at h
  omega
theorem namedAny {nm:ByteArray} (hs:nm.size≤300) (h:nmB nm=true):Named nm true:=by
  have:=d_NameAny nm hs
  rw [h] at this
  exact this
theorem i64_nums {nm:ByteArray} {P:Nat} (h1:1≤P) (h8:P≤8) {p3 p4 p5 p7:Int} {p6:Bool} (hs:SetOk p3 p4 p5 p7): ∀x∈(⟨nm,((1:Nat):Int),P,p3,p4,p5,p6,p7⟩:Tp).nums,I64 x:=by
  have h1:=hs.h1;have h2:=hs.h2;have h3:=hs.h3;have h4:=hs.h4
  intro x hx
  simp only [Tp.nums,List.mem_cons,List.not_mem_nil,or_false] at hx
  rcases hx with rfl | rfl | rfl | rfl | rfl | rfl | rfl
  · exact i64_small (by omega)
  · exact i64_small (by omega)
  · constructor<;>omega
  · constructor<;>omega
  · constructor<;>omega
  · cases p6<;>(constructor<;>simp [bit01])
  · constructor<;>omega
set_option maxHeartbeats 4000000 in
set_option maxRecDepth 100000 in
theorem refusesBad (w:World) (nm:ByteArray) (hs:nm.size≤300) (P:Int) (p3 p4 p5:Int) (p6:Bool) (p7:Int) (hbad:nmB nm=false∨P<1∨8<P∨¬(512≤p3∧p3≤8192∧ -1≤p4∧p4≤1099511627776∧ -1≤p5∧p5≤1125899906842624∧0≤p7∧p7≤1125899906842624)):
    Calls Tryz.prog 4 #[.string nm,.int .i64 P,.agg (stz p3 p4 p5 p6 p7)] w fun e w'=>e= .returned (.bool true)∧Frm NoB w w':=by
  obtain ⟨w1,hw1⟩: ∃w1,w=w1:=⟨_,rfl⟩
  rw [hw1]
  clear hw1
  have h0:=(St.start w1).newArr (stz p3 p4 p5 p6 p7) 29 neStg2
  obtain ⟨y0,hy0⟩: ∃y0,w1.alloc (.cells (stz p3 p4 p5 p6 p7) 29 (0,0))=y0:=⟨_,rfl⟩
  obtain ⟨bs,hbs⟩: ∃bs,w1.heap.size=bs:=⟨_,rfl⟩
  rw [hy0,hbs] at h0
  have HF:=Lib.hid (c_fresh h0)
  have HY0:=Lib.hid (And.intro hy0 hbs)
  have s0:(0:Int)≤(nm.size:Int):=Int.natCast_nonneg _
  have s1: ¬(300:Int)<(nm.size:Int):=by omega
  have HHYP:=Lib.hid (And.intro hs hbad)
  clear h0 hy0 hbs hs hbad
  go_enter Tryz.func4,Tryz.ntmps4
  go_upto_region 1 with fail
  rw [HY0.out.1,HY0.out.2]
  go_wp2_with fail
  refine HF.out.mono ?_
  clear HF
  rintro e w2 ⟨hb,F,X,A,ι,cb,mb,n,rfl,h2,hc,ht,hrt,hm,hfi,hfb⟩
  have HFR:=Lib.hid (f_Free h2)
  have HI:=Lib.hid (And.intro hc (And.intro ht (And.intro hm (And.intro hfi hfb))))
  clear h2 hc ht hrt hm hfi hfb
  go_wp2_with fail
  refine HFR.out.mono ?_
  clear HFR
  rintro e w3 ⟨rfl,h3⟩
  have h4:=h3.newArr #[.slice none 0 0,.int .i64 1] 111 neRC
  have HN:=Lib.hid (r_New w3)
  have H4:=Lib.hid h4
  clear h3 h4
  go_wp2_with fail
  refine HN.out.mono ?_
  clear HN
  rintro e w4 ⟨rfl,rfl⟩
  obtain ⟨y4,hy4⟩: ∃y4,w3.alloc (.cells #[.slice none 0 0,.int .i64 1] 111 (0,0))=y4:=⟨_,rfl⟩
  obtain ⟨rb,hrb⟩: ∃rb,w3.heap.size=rb:=⟨_,rfl⟩
  rw [hy4,hrb] at H4
  rw [hy4,hrb]
  clear hy4 hrb
  have a0:y4.cell? ⟨bs,0,none⟩=some (.int .i64 p3):=(H4.out.arrCell (i:=3) rfl 0).trans rfl
  have a1:y4.cell? ⟨bs,1,none⟩=some (.int .i64 p4):=(H4.out.arrCell (i:=3) rfl 1).trans rfl
  have a2:y4.cell? ⟨bs,2,none⟩=some (.int .i64 p5):=(H4.out.arrCell (i:=3) rfl 2).trans rfl
  have a3:y4.cell? ⟨bs,3,none⟩=some (.bool p6):=(H4.out.arrCell (i:=3) rfl 3).trans rfl
  have a4:y4.cell? ⟨bs,4,none⟩=some (.int .i64 p7):=(H4.out.arrCell (i:=3) rfl 4).trans rfl
  have HC:Hid (Calls Tryz.prog 11 #[.pointer (some ⟨cb,0,none⟩),.string nm,.int .i64 P,.agg (stz p3 p4 p5 p6 p7)] y4 fun e w'=>e= .returned (.tuple #[.agg (tpz ByteArray.empty 0 0 0 0 0 false 0),.int .i64 1])∧Fs w1 w' F X A ι (arr rb #[.slice none 0 0,.int .i64 1] 111 neRC::catS cb F.fb 1 mb::catM mb []:: [arr bs (stz p3 p4 p5 p6 p7) 29 neStg2])):=Lib.hid (by
    have hN:=d_NameAny nm HHYP.out.1
    by_cases k:nmB nm=false∨P<1∨8<P
    · exact c_CreateArg H4.out (i:=1) rfl hN P k p3 p4 p5 p6 p7
    · have k':nmB nm=true:=by cases h:nmB nm with | true=>rfl | false=>exact absurd (.inl h) k
      rw [k'] at hN
      refine c_CreateSet H4.out (i:=1) rfl hN P (by omega) (by omega) p3 p4 p5 p6 p7 ?_
      rcases HHYP.out.2 with e | e | e | e
      · exact absurd (.inl e) k
      · exact absurd (.inr (.inl e)) k
      · exact absurd (.inr (.inr e)) k
      · exact e)
  clear H4
  go_wp2_with fail
  refine HC.out.mono ?_
  clear HC a0 a1 a2 a3 a4
  rintro e w5 ⟨rfl,h5⟩
  have H5:=Lib.hid h5
  clear h5
  have HK0:=Lib.hid (block_alloc_new w5 (.cells (tpz ByteArray.empty 0 0 0 0 0 false 0) 31 (0,0)))
  go_upto_region 9 with (first | (refine allocRow rfl _ _ zeroTp rfl ?_) | (refine storeTp rfl _ _ rfl w5.heap.size ByteArray.empty 0 0 0 0 0 false 0 rfl rfl _ rfl HK0.out ?_))
  have h6:=H5.out.mkArr (((Frm.refl NoB w5).alloc (.cells (tpz ByteArray.empty 0 0 0 0 0 false 0) 31 (0,0))).setRowNew (Nat.le_refl _) (tpz ByteArray.empty 0 0 0 0 0 false 0)) neTp (setRow_heap _ _ _ (tpz ByteArray.empty 0 0 0 0 0 false 0) _ _ HK0.out) (Nat.le_refl _)
  show Code.wp Tryz.prog _ _ _ ((w5.alloc (.cells (tpz ByteArray.empty 0 0 0 0 0 false 0) 31 (0,0))).setRow w5.heap.size (tpz ByteArray.empty 0 0 0 0 0 false 0))
  obtain ⟨y6,hy6⟩: ∃y6,(w5.alloc (.cells (tpz ByteArray.empty 0 0 0 0 0 false 0) 31 (0,0))).setRow w5.heap.size (tpz ByteArray.empty 0 0 0 0 0 false 0)=y6:=⟨_,rfl⟩
  rw [hy6] at h6 ⊢
  generalize w5.heap.size=g5 at*
  have hrm:y6.heap[rb]?=some (.cells #[.slice none 0 0,.int .i64 1] 111 (0,0)):=h6.block (i:=1) rfl
  have a0:y6.cell? ⟨bs,0,none⟩=some (.int .i64 p3):=(h6.arrCell (i:=4) rfl 0).trans rfl
  have a1:y6.cell? ⟨bs,1,none⟩=some (.int .i64 p4):=(h6.arrCell (i:=4) rfl 1).trans rfl
  have a2:y6.cell? ⟨bs,2,none⟩=some (.int .i64 p5):=(h6.arrCell (i:=4) rfl 2).trans rfl
  have a3:y6.cell? ⟨bs,3,none⟩=some (.bool p6):=(h6.arrCell (i:=4) rfl 3).trans rfl
  have a4:y6.cell? ⟨bs,4,none⟩=some (.int .i64 p7):=(h6.arrCell (i:=4) rfl 4).trans rfl
  have HR:=Lib.hid (r_CreateNo y6 rb nm P p3 p4 p5 p6 p7 HHYP.out.2)
  have HG5:=Lib.hid (And.intro (h6.block (i:=0) rfl) (show g5≠rb from fun e=>by have h:=h6.block (i:=0) rfl;rw [e,hrm] at h;cases h))
  have H6:=Lib.hid h6
  clear h6 hy6 hrm HK0 H5
  go_wp2_with fail
  refine HR.out.mono ?_
  clear HR a0 a1 a2 a3 a4
  rintro e w7 ⟨rfl,hf7⟩
  have hg7:=(hf7.block g5 (lt_of_block HG5.out.1) (fun e=>e)).trans HG5.out.1
  have h7:=(H6.out.perm2 (List.Perm.swap _ _ _)).poke (hf7.mono (N:=Only rb) fun _ _ e=>e.elim)
  have HK0:=Lib.hid (block_alloc_new w7 (.cells (tpz ByteArray.empty 0 0 0 0 0 false 0) 45 (0,0)))
  have H7:=Lib.hid h7
  have HG7:=Lib.hid hg7
  clear hf7 hg7 h7 H6 HG5
  go_upto_region 10 with (first | (refine allocRow rfl _ _ zeroRT rfl ?_) | (refine storeRT rfl _ _ rfl w7.heap.size ByteArray.empty 0 0 0 0 0 false 0 rfl rfl _ rfl HK0.out ?_))
  have hf8:Frm NoB w7 ((w7.alloc (.cells (tpz ByteArray.empty 0 0 0 0 0 false 0) 45 (0,0))).setRow w7.heap.size (tpz ByteArray.empty 0 0 0 0 0 false 0)):=((Frm.refl NoB w7).alloc _).setRowNew (Nat.le_refl _) _
  have hb8:=setRow_heap _ _ _ (tpz ByteArray.empty 0 0 0 0 0 false 0) _ _ HK0.out
  show Code.wp Tryz.prog _ _ _ ((w7.alloc (.cells (tpz ByteArray.empty 0 0 0 0 0 false 0) 45 (0,0))).setRow w7.heap.size (tpz ByteArray.empty 0 0 0 0 0 false 0))
  obtain ⟨y8,hy8⟩: ∃y8,(w7.alloc (.cells (tpz ByteArray.empty 0 0 0 0 0 false 0) 45 (0,0))).setRow w7.heap.size (tpz ByteArray.empty 0 0 0 0 0 false 0)=y8:=⟨_,rfl⟩
  rw [hy8] at hf8 hb8 ⊢
  generalize w7.heap.size=g7 at*
  have H8:=Lib.hid (H7.out.frm hf8)
  have h28:Two8 y8 g5 g7 (tpz ByteArray.empty 0 0 0 0 0 false 0) (tpz ByteArray.empty 0 0 0 0 0 false 0):=⟨(hf8.block _ (lt_of_block HG7.out) (fun e=>e)).trans HG7.out,hb8⟩
  have HT8:=Lib.hid h28
  have HT8d:=Lib.hid (h28.frm (Frm.refl NoB y8).drew)
  clear hf8 hb8 hy8 h28 H7 HG7 HK0
  have KTP:Hid (∀W,Calls Tryz.prog 19 #[.agg #[.string ByteArray.empty,.int .i64 0,.int .i64 0,.int .i64 0,.int .i64 0,.int .i64 0,.bool false,.int .i64 0]] W fun e w'=>e= .returned (.agg #[.string ByteArray.empty,.int .i64 0,.int .i64 0,.int .i64 0,.int .i64 0,.int .i64 0,.bool false,.int .i64 0])∧Frm NoB W w'):=Lib.hid fun W=>l_topic W ByteArray.empty 0 0 0 0 0 false 0
  have KS:Hid (∀y,Two8 y g5 g7 (tpz ByteArray.empty 0 0 0 0 0 false 0) (tpz ByteArray.empty 0 0 0 0 0 false 0)→y.cell? ⟨g5,0,none⟩=some (.string ByteArray.empty)∧y.cell? ⟨g5,1,none⟩=some (.int .i64 0)∧y.cell? ⟨g5,2,none⟩=some (.int .i64 0)∧y.cell? ⟨g5,3,none⟩=some (.int .i64 0)∧y.cell? ⟨g5,4,none⟩=some (.int .i64 0)∧y.cell? ⟨g5,5,none⟩=some (.int .i64 0)∧y.cell? ⟨g5,6,none⟩=some (.bool false)∧y.cell? ⟨g5,7,none⟩=some (.int .i64 0)∧y.cell? ⟨g7,0,none⟩=some (.string ByteArray.empty)∧y.cell? ⟨g7,1,none⟩=some (.int .i64 0)∧y.cell? ⟨g7,2,none⟩=some (.int .i64 0)∧y.cell? ⟨g7,3,none⟩=some (.int .i64 0)∧y.cell? ⟨g7,4,none⟩=some (.int .i64 0)∧y.cell? ⟨g7,5,none⟩=some (.int .i64 0)∧y.cell? ⟨g7,6,none⟩=some (.bool false)∧y.cell? ⟨g7,7,none⟩=some (.int .i64 0)):=Lib.hid fun y h=>by
    refine ⟨(cell_of_block h.1).trans rfl,(cell_of_block h.1).trans rfl,(cell_of_block h.1).trans rfl,(cell_of_block h.1).trans rfl,(cell_of_block h.1).trans rfl,(cell_of_block h.1).trans rfl,(cell_of_block h.1).trans rfl,(cell_of_block h.1).trans rfl,(cell_of_block h.2).trans rfl,(cell_of_block h.2).trans rfl,(cell_of_block h.2).trans rfl,(cell_of_block h.2).trans rfl,(cell_of_block h.2).trans rfl,(cell_of_block h.2).trans rfl,(cell_of_block h.2).trans rfl,(cell_of_block h.2).trans rfl⟩
  have hne:=fun W=>neqTp W ByteArray.empty 0 0 0 0 0 false 0
  obtain ⟨k0,k1,k2,k3,k4,k5,k6,k7,k8,k9,k10,k11,k12,k13,k14,k15⟩:=KS.out y8 HT8.out
  go_region_held3 (fun y=>y.cell? ⟨g5,0,none⟩=some (.string ByteArray.empty)∧y.cell? ⟨g5,1,none⟩=some (.int .i64 0)∧y.cell? ⟨g5,2,none⟩=some (.int .i64 0)∧y.cell? ⟨g5,3,none⟩=some (.int .i64 0)∧y.cell? ⟨g5,4,none⟩=some (.int .i64 0)∧y.cell? ⟨g5,5,none⟩=some (.int .i64 0)∧y.cell? ⟨g5,6,none⟩=some (.bool false)∧y.cell? ⟨g5,7,none⟩=some (.int .i64 0)∧y.cell? ⟨g7,0,none⟩=some (.string ByteArray.empty)∧y.cell? ⟨g7,1,none⟩=some (.int .i64 0)∧y.cell? ⟨g7,2,none⟩=some (.int .i64 0)∧y.cell? ⟨g7,3,none⟩=some (.int .i64 0)∧y.cell? ⟨g7,4,none⟩=some (.int .i64 0)∧y.cell? ⟨g7,5,none⟩=some (.int .i64 0)∧y.cell? ⟨g7,6,none⟩=some (.bool false)∧y.cell? ⟨g7,7,none⟩=some (.int .i64 0))
    (first | exact KS.out _ HT8.out | exact KS.out _ HT8d.out | exact KS.out _ (HT8d.out.frm hf9))
    (first | (go_at_call 19;(with_reducible refine (KTP.out _).mono ?_);rintro e w9 ⟨rfl,hf9⟩))
  have h9:=H8.out.frm ((Frm.refl NoB y8).drew.trans hf9 fun _ _ e=>e)
  have HFR:=Lib.hid (f_Free h9)
  clear k0 k1 k2 k3 k4 k5 k6 k7 k8 k9 k10 k11 k12 k13 k14 k15 hf9 h9 H8 HT8 HT8d KS KTP hne
  go_wp2_with fail
  refine HFR.out.mono ?_
  clear HFR
  rintro e w10 ⟨rfl,h10⟩
  have HL:=Lib.hid (c_List h10 (i:=1) (j:=2) rfl rfl catL0 (by decide))
  have H10:=Lib.hid h10
  clear h10
  go_wp2_with fail
  refine HL.out.mono ?_
  clear HL
  rintro e w11 ⟨v,rfl,hrow,hf11⟩
  obtain ⟨va,vc,rfl⟩:=row_cases hrow
  have HA:=Lib.hid (awake17_any (H10.out.frm hf11).st)
  clear hrow hf11 H10
  go_wp2_with fail
  refine HA.out.mono ?_
  clear HA
  rintro e w12 ⟨rfl,h12⟩
  have H12:=Lib.hid (h12.drop 3)
  clear h12
  go_wp2
  go_ret
  have h13:=H12.out.drop 1
  exact ⟨rfl,h13.base⟩
set_option maxHeartbeats 4000000 in
set_option maxRecDepth 100000 in
theorem refusesMade (w:World) (nm:ByteArray) (hs:nm.size≤300) (P:Nat) (p3 p4 p5:Int) (p6:Bool) (p7:Int) (hn:nmB nm=true) (hP1:1≤P) (hP8:P≤8) (hset:SetOk p3 p4 p5 p7):
    Calls Tryz.prog 4 #[.string nm,.int .i64 P,.agg (stz p3 p4 p5 p6 p7)] w fun e w'=>e= .returned (.bool true)∧Frm NoB w w':=by
  obtain ⟨w1,hw1⟩: ∃w1,w=w1:=⟨_,rfl⟩
  rw [hw1]
  clear hw1
  have h0:=(St.start w1).newArr (stz p3 p4 p5 p6 p7) 29 neStg2
  obtain ⟨y0,hy0⟩: ∃y0,w1.alloc (.cells (stz p3 p4 p5 p6 p7) 29 (0,0))=y0:=⟨_,rfl⟩
  obtain ⟨bs,hbs⟩: ∃bs,w1.heap.size=bs:=⟨_,rfl⟩
  rw [hy0,hbs] at h0
  have HF:=Lib.hid (c_fresh h0)
  have HY0:=Lib.hid (And.intro hy0 hbs)
  have s0:(0:Int)≤(nm.size:Int):=Int.natCast_nonneg _
  have s1: ¬(300:Int)<(nm.size:Int):=by omega
  have HHYP:=Lib.hid (And.intro hs (And.intro hn (And.intro hP1 (And.intro hP8 hset))))
  clear h0 hy0 hbs hs hn hP1 hP8 hset
  go_enter Tryz.func4,Tryz.ntmps4
  go_upto_region 1 with fail
  rw [HY0.out.1,HY0.out.2]
  go_wp2_with fail
  refine HF.out.mono ?_
  clear HF
  rintro e w2 ⟨hb,F,X,A,ι,cb,mb,n,rfl,h2,hc,ht,hrt,hm,hfi,hfb⟩
  have HFR:=Lib.hid (f_Free h2)
  have HI:=Lib.hid (And.intro hc (And.intro ht (And.intro hm (And.intro hfi hfb))))
  clear h2 hc ht hrt hm hfi hfb
  go_wp2_with fail
  refine HFR.out.mono ?_
  clear HFR
  rintro e w3 ⟨rfl,h3⟩
  have h4:=h3.newArr #[.slice none 0 0,.int .i64 1] 111 neRC
  have HN:=Lib.hid (r_New w3)
  have H4:=Lib.hid h4
  clear h3 h4
  go_wp2_with fail
  refine HN.out.mono ?_
  clear HN
  rintro e w4 ⟨rfl,rfl⟩
  obtain ⟨y4,hy4⟩: ∃y4,w3.alloc (.cells #[.slice none 0 0,.int .i64 1] 111 (0,0))=y4:=⟨_,rfl⟩
  obtain ⟨rb,hrb⟩: ∃rb,w3.heap.size=rb:=⟨_,rfl⟩
  rw [hy4,hrb] at H4
  rw [hy4,hrb]
  clear hy4 hrb
  have a0:y4.cell? ⟨bs,0,none⟩=some (.int .i64 p3):=(H4.out.arrCell (i:=3) rfl 0).trans rfl
  have a1:y4.cell? ⟨bs,1,none⟩=some (.int .i64 p4):=(H4.out.arrCell (i:=3) rfl 1).trans rfl
  have a2:y4.cell? ⟨bs,2,none⟩=some (.int .i64 p5):=(H4.out.arrCell (i:=3) rfl 2).trans rfl
  have a3:y4.cell? ⟨bs,3,none⟩=some (.bool p6):=(H4.out.arrCell (i:=3) rfl 3).trans rfl
  have a4:y4.cell? ⟨bs,4,none⟩=some (.int .i64 p7):=(H4.out.arrCell (i:=3) rfl 4).trans rfl
  have d8:dat (8+107*([]:List Tp).length)=1:=rfl
  have hroom:Roomy X A 1 0 0 n [] []:=⟨HI.out.2.1,catL0,catR0,(fun s hs=>by cases hs),(fun d hd=>by cases hd),rfl,by have:=HI.out.2.2.1;omega,by have:=HI.out.2.2.2.1;omega,by rw [d8];have:=HI.out.2.2.2.2;omega,by simp,fun t ht=>by cases ht⟩
  have hcr:=c_Create ((H4.out.perm2 (List.Perm.trans (List.Perm.swap _ _ _) ((List.Perm.swap _ _ _).cons _)))) HI.out.1.b HI.out.1.d HI.out.1.op HI.out.1.lim (by have:=HI.out.2.2.1;omega) HI.out.1.l (hroom.may (P:=P) (by decide) (by decide) ⟨HHYP.out.2.2.1,HHYP.out.2.2.2.1⟩ (by have:=HHYP.out.2.2.2.1;omega)) (nm50 HHYP.out.2.1) (namedAny HHYP.out.1 HHYP.out.2.1) (by simp) p3 p4 p5 p6 p7 HHYP.out.2.2.2.2.h1 HHYP.out.2.2.2.2.h2 HHYP.out.2.2.2.2.h3 HHYP.out.2.2.2.2.h4
  have HC:=Lib.hid hcr
  have HRM:=Lib.hid hroom
  clear d8 hroom hcr
  clear H4
  go_wp2_with fail
  refine HC.out.mono ?_
  clear HC a0 a1 a2 a3 a4
  rintro e w5 ⟨rfl,Y,A',ι',n',mb',h5,hmade⟩
  have h5:=h5.perm2 (List.Perm.trans ((List.Perm.swap _ _ _).cons _) (List.Perm.swap _ _ _))
  have HMD:=Lib.hid hmade
  have HRM2:=Lib.hid (HRM.out.made (by decide) (by decide) ⟨HHYP.out.2.2.1,HHYP.out.2.2.2.1⟩ (t:=⟨nm,(1:Nat),P,p3,p4,p5,p6,p7⟩) rfl rfl (nm50 HHYP.out.2.1) (by simp) (i64_nums HHYP.out.2.2.1 HHYP.out.2.2.2.1 HHYP.out.2.2.2.2) hmade)
  clear hmade
  have H5:=Lib.hid h5
  clear h5
  have HK0:=Lib.hid (block_alloc_new w5 (.cells (tpz ByteArray.empty 0 0 0 0 0 false 0) 31 (0,0)))
  go_upto_region 9 with (first | (refine allocRow rfl _ _ zeroTp rfl ?_) | (refine storeTp rfl _ _ rfl w5.heap.size nm 1 P p3 p4 p5 p6 p7 rfl rfl _ rfl HK0.out ?_))
  have h6:=H5.out.mkArr (((Frm.refl NoB w5).alloc (.cells (tpz ByteArray.empty 0 0 0 0 0 false 0) 31 (0,0))).setRowNew (Nat.le_refl _) (tpz nm 1 P p3 p4 p5 p6 p7)) neTp (setRow_heap _ _ _ (tpz nm 1 P p3 p4 p5 p6 p7) _ _ HK0.out) (Nat.le_refl _)
  show Code.wp Tryz.prog _ _ _ ((w5.alloc (.cells (tpz ByteArray.empty 0 0 0 0 0 false 0) 31 (0,0))).setRow w5.heap.size (tpz nm 1 P p3 p4 p5 p6 p7))
  obtain ⟨y6,hy6⟩: ∃y6,(w5.alloc (.cells (tpz ByteArray.empty 0 0 0 0 0 false 0) 31 (0,0))).setRow w5.heap.size (tpz nm 1 P p3 p4 p5 p6 p7)=y6:=⟨_,rfl⟩
  rw [hy6] at h6 ⊢
  generalize w5.heap.size=g5 at*
  have hrm:y6.heap[rb]?=some (.cells #[.slice none 0 0,.int .i64 1] 111 (0,0)):=h6.block (i:=1) rfl
  have a0:y6.cell? ⟨bs,0,none⟩=some (.int .i64 p3):=(h6.arrCell (i:=4) rfl 0).trans rfl
  have a1:y6.cell? ⟨bs,1,none⟩=some (.int .i64 p4):=(h6.arrCell (i:=4) rfl 1).trans rfl
  have a2:y6.cell? ⟨bs,2,none⟩=some (.int .i64 p5):=(h6.arrCell (i:=4) rfl 2).trans rfl
  have a3:y6.cell? ⟨bs,3,none⟩=some (.bool p6):=(h6.arrCell (i:=4) rfl 3).trans rfl
  have a4:y6.cell? ⟨bs,4,none⟩=some (.int .i64 p7):=(h6.arrCell (i:=4) rfl 4).trans rfl
  have HR:=Lib.hid (r_Create0 y6 rb hrm nm HHYP.out.2.1 (P:Int) (by have:=HHYP.out.2.2.1;omega) (by have:=HHYP.out.2.2.2.1;omega) p3 p4 p5 p6 p7 HHYP.out.2.2.2.2.h1 HHYP.out.2.2.2.2.h2 HHYP.out.2.2.2.2.h3 HHYP.out.2.2.2.2.h4)
  have HG5:=Lib.hid (And.intro (h6.block (i:=0) rfl) (show g5≠rb from fun e=>by have h:=h6.block (i:=0) rfl;rw [e,hrm] at h;cases h))
  have H6:=Lib.hid h6
  clear h6 hy6 hrm HK0 H5
  go_wp2_with fail
  refine HR.out.mono ?_
  clear HR a0 a1 a2 a3 a4
  rintro e w7 ⟨rfl,hf7⟩
  have hg7:=(hf7.block g5 (lt_of_block HG5.out.1) (fun e=>HG5.out.2 e)).trans HG5.out.1
  have h7:=(H6.out.perm2 (List.Perm.swap _ _ _)).poke hf7
  have HK0:=Lib.hid (block_alloc_new w7 (.cells (tpz ByteArray.empty 0 0 0 0 0 false 0) 45 (0,0)))
  have H7:=Lib.hid h7
  have HG7:=Lib.hid hg7
  clear hf7 hg7 h7 H6 HG5
  go_upto_region 10 with (first | (refine allocRow rfl _ _ zeroRT rfl ?_) | (refine storeRT rfl _ _ rfl w7.heap.size nm 1 P p3 p4 p5 p6 p7 rfl rfl _ rfl HK0.out ?_))
  have hf8:Frm NoB w7 ((w7.alloc (.cells (tpz ByteArray.empty 0 0 0 0 0 false 0) 45 (0,0))).setRow w7.heap.size (tpz nm 1 P p3 p4 p5 p6 p7)):=((Frm.refl NoB w7).alloc _).setRowNew (Nat.le_refl _) _
  have hb8:=setRow_heap _ _ _ (tpz nm 1 P p3 p4 p5 p6 p7) _ _ HK0.out
  show Code.wp Tryz.prog _ _ _ ((w7.alloc (.cells (tpz ByteArray.empty 0 0 0 0 0 false 0) 45 (0,0))).setRow w7.heap.size (tpz nm 1 P p3 p4 p5 p6 p7))
  obtain ⟨y8,hy8⟩: ∃y8,(w7.alloc (.cells (tpz ByteArray.empty 0 0 0 0 0 false 0) 45 (0,0))).setRow w7.heap.size (tpz nm 1 P p3 p4 p5 p6 p7)=y8:=⟨_,rfl⟩
  rw [hy8] at hf8 hb8 ⊢
  generalize w7.heap.size=g7 at*
  have H8:=Lib.hid (H7.out.frm hf8)
  have h28:Two8 y8 g5 g7 (tpz nm 1 P p3 p4 p5 p6 p7) (tpz nm 1 P p3 p4 p5 p6 p7):=⟨(hf8.block _ (lt_of_block HG7.out) (fun e=>e)).trans HG7.out,hb8⟩
  have HT8:=Lib.hid h28
  have HT8d:=Lib.hid (h28.frm (Frm.refl NoB y8).drew)
  clear hf8 hb8 hy8 h28 H7 HG7 HK0
  have KTP:Hid (∀W,Calls Tryz.prog 19 #[.agg #[.string nm,.int .i64 1,.int .i64 P,.int .i64 p3,.int .i64 p4,.int .i64 p5,.bool p6,.int .i64 p7]] W fun e w'=>e= .returned (.agg #[.string nm,.int .i64 1,.int .i64 P,.int .i64 p3,.int .i64 p4,.int .i64 p5,.bool p6,.int .i64 p7])∧Frm NoB W w'):=Lib.hid fun W=>l_topic W nm 1 P p3 p4 p5 p6 p7
  have KS:Hid (∀y,Two8 y g5 g7 (tpz nm 1 P p3 p4 p5 p6 p7) (tpz nm 1 P p3 p4 p5 p6 p7)→y.cell? ⟨g5,0,none⟩=some (.string nm)∧y.cell? ⟨g5,1,none⟩=some (.int .i64 1)∧y.cell? ⟨g5,2,none⟩=some (.int .i64 P)∧y.cell? ⟨g5,3,none⟩=some (.int .i64 p3)∧y.cell? ⟨g5,4,none⟩=some (.int .i64 p4)∧y.cell? ⟨g5,5,none⟩=some (.int .i64 p5)∧y.cell? ⟨g5,6,none⟩=some (.bool p6)∧y.cell? ⟨g5,7,none⟩=some (.int .i64 p7)∧y.cell? ⟨g7,0,none⟩=some (.string nm)∧y.cell? ⟨g7,1,none⟩=some (.int .i64 1)∧y.cell? ⟨g7,2,none⟩=some (.int .i64 P)∧y.cell? ⟨g7,3,none⟩=some (.int .i64 p3)∧y.cell? ⟨g7,4,none⟩=some (.int .i64 p4)∧y.cell? ⟨g7,5,none⟩=some (.int .i64 p5)∧y.cell? ⟨g7,6,none⟩=some (.bool p6)∧y.cell? ⟨g7,7,none⟩=some (.int .i64 p7)):=Lib.hid fun y h=>by
    refine ⟨(cell_of_block h.1).trans rfl,(cell_of_block h.1).trans rfl,(cell_of_block h.1).trans rfl,(cell_of_block h.1).trans rfl,(cell_of_block h.1).trans rfl,(cell_of_block h.1).trans rfl,(cell_of_block h.1).trans rfl,(cell_of_block h.1).trans rfl,(cell_of_block h.2).trans rfl,(cell_of_block h.2).trans rfl,(cell_of_block h.2).trans rfl,(cell_of_block h.2).trans rfl,(cell_of_block h.2).trans rfl,(cell_of_block h.2).trans rfl,(cell_of_block h.2).trans rfl,(cell_of_block h.2).trans rfl⟩
  have hne:=fun W=>neqTp W nm 1 P p3 p4 p5 p6 p7
  obtain ⟨k0,k1,k2,k3,k4,k5,k6,k7,k8,k9,k10,k11,k12,k13,k14,k15⟩:=KS.out y8 HT8.out
  go_region_held3 (fun y=>y.cell? ⟨g5,0,none⟩=some (.string nm)∧y.cell? ⟨g5,1,none⟩=some (.int .i64 1)∧y.cell? ⟨g5,2,none⟩=some (.int .i64 P)∧y.cell? ⟨g5,3,none⟩=some (.int .i64 p3)∧y.cell? ⟨g5,4,none⟩=some (.int .i64 p4)∧y.cell? ⟨g5,5,none⟩=some (.int .i64 p5)∧y.cell? ⟨g5,6,none⟩=some (.bool p6)∧y.cell? ⟨g5,7,none⟩=some (.int .i64 p7)∧y.cell? ⟨g7,0,none⟩=some (.string nm)∧y.cell? ⟨g7,1,none⟩=some (.int .i64 1)∧y.cell? ⟨g7,2,none⟩=some (.int .i64 P)∧y.cell? ⟨g7,3,none⟩=some (.int .i64 p3)∧y.cell? ⟨g7,4,none⟩=some (.int .i64 p4)∧y.cell? ⟨g7,5,none⟩=some (.int .i64 p5)∧y.cell? ⟨g7,6,none⟩=some (.bool p6)∧y.cell? ⟨g7,7,none⟩=some (.int .i64 p7))
    (first | exact KS.out _ HT8.out | exact KS.out _ HT8d.out | exact KS.out _ (HT8d.out.frm hf9))
    (first | (go_at_call 19;(with_reducible refine (KTP.out _).mono ?_);rintro e w9 ⟨rfl,hf9⟩))
  have h9:=H8.out.frm ((Frm.refl NoB y8).drew.trans hf9 fun _ _ e=>e)
  have HFR:=Lib.hid (f_Free h9)
  clear k0 k1 k2 k3 k4 k5 k6 k7 k8 k9 k10 k11 k12 k13 k14 k15 hf9 h9 H8 HT8 HT8d KS KTP hne
  go_wp2_with fail
  refine HFR.out.mono ?_
  clear HFR
  rintro e w10 ⟨rfl,h10⟩
  have HL:=Lib.hid (c_List h10 (i:=1) (j:=2) rfl rfl HRM2.out.cat HRM2.out.few)
  have hb:=HMD.out.fb
  have hn1:=HMD.out.n1
  have hd1:=dat_mono hn1.1
  have hfi:=HMD.out.fi
  have e1:=encC_length (1:Nat) ([]:List Tp) (fun t ht=>by cases ht)
  have e2:=encC_length (((1:Nat):Int)+1) (insT ⟨nm,(1:Nat),P,p3,p4,p5,p6,p7⟩ []) HRM2.out.cat.nm
  have hd2:dat (encC ((1:Nat):Int) []).length≤dat (encC (((1:Nat):Int)+1) (insT ⟨nm,(1:Nat),P,p3,p4,p5,p6,p7⟩ [])).length:=dat_mono (by rw [e1,e2];exact Nat.add_le_add_left (Nat.mul_le_mul_left _ (Nat.zero_le _)) _)
  have b1:((Y.fi:Nat):Int)+3*(P:Int)=((X.fi:Nat):Int):=by omega
  have b2:(Y.fb:Int)<(X.fb:Int):=by have:=HHYP.out.2.2.1;omega
  have H10:=Lib.hid h10
  have b3:((X.fi:Nat):Int)≤597:=by have:=HI.out.2.2.2.1;omega
  have b4:((P:Nat):Int)≤8:=by have:=HHYP.out.2.2.2.1;omega
  have b5:(0:Int)≤((Y.fi:Nat):Int):=Int.natCast_nonneg _
  have b6:(0:Int)≤((P:Nat):Int):=Int.natCast_nonneg _
  have b7:3*((P:Nat):Int)≤((X.fi:Nat):Int)-((Y.fi:Nat):Int):=by omega
  clear h10 hb hn1 hd1 hfi e1 e2 hd2
  generalize ((X.fi:Nat):Int)=xi at*
  generalize ((Y.fi:Nat):Int)=yi at*
  generalize ((X.fb:Nat):Int)=xb at*
  generalize ((Y.fb:Nat):Int)=yb at*
  go_wp2_with fail
  refine HL.out.mono ?_
  clear HL
  rintro e w11 ⟨v,rfl,hrow,hf11⟩
  obtain ⟨va,vc,rfl⟩:=row_cases hrow
  have HA:=Lib.hid (awake17_any (H10.out.frm hf11).st)
  clear hrow hf11 H10
  go_wp2_with fail
  refine HA.out.mono ?_
  clear HA
  rintro e w12 ⟨rfl,h12⟩
  have H12:=Lib.hid (h12.drop 3)
  clear h12
  go_wp2
  go_ret
  have h13:=H12.out.drop 1
  exact ⟨rfl,h13.base⟩
set_option maxRecDepth 100000 in
theorem refusesLong (w:World) (nm:ByteArray) (hs: ¬nm.size≤300) (P p3 p4 p5:Int) (p6:Bool) (p7:Int):
    Calls Tryz.prog 4 #[.string nm,.int .i64 P,.agg (stz p3 p4 p5 p6 p7)] w fun e w'=>e= .returned (.bool true)∧Frm NoB w w':=by
  obtain ⟨w1,hw1⟩: ∃w1,w=w1:=⟨_,rfl⟩
  rw [hw1]
  clear hw1
  have h0:=(St.start w1).newArr (stz p3 p4 p5 p6 p7) 29 neStg2
  obtain ⟨y0,hy0⟩: ∃y0,w1.alloc (.cells (stz p3 p4 p5 p6 p7) 29 (0,0))=y0:=⟨_,rfl⟩
  obtain ⟨bs,hbs⟩: ∃bs,w1.heap.size=bs:=⟨_,rfl⟩
  rw [hy0,hbs] at h0
  have HA:=Lib.hid (awake17_any h0)
  have HY0:=Lib.hid (And.intro hy0 hbs)
  have s1:(300:Int)<(nm.size:Int):=by omega
  clear h0 hy0 hbs hs
  go_enter Tryz.func4,Tryz.ntmps4
  go_upto_region 1 with fail
  rw [HY0.out.1,HY0.out.2]
  go_wp2_with fail
  refine HA.out.mono ?_
  clear HA
  rintro e w12 ⟨rfl,h12⟩
  have H12:=Lib.hid (h12.drop 1)
  clear h12
  go_wp2
  go_ret
  exact ⟨rfl,H12.out.base⟩
theorem catalogRefuses_any (w:World) (nm:ByteArray) (P p3 p4 p5:Int) (p6:Bool) (p7:Int):
    Calls Tryz.prog 4 #[.string nm,.int .i64 P,.agg (stz p3 p4 p5 p6 p7)] w fun e w'=>e= .returned (.bool true)∧Frm NoB w w':=by
  by_cases hs:nm.size≤300
  · by_cases hb:nmB nm=false∨P<1∨8<P∨¬(512≤p3∧p3≤8192∧ -1≤p4∧p4≤1099511627776∧ -1≤p5∧p5≤1125899906842624∧0≤p7∧p7≤1125899906842624)
    · exact refusesBad w nm hs P p3 p4 p5 p6 p7 hb
    · have hn:nmB nm=true:=by cases h:nmB nm with | true=>rfl | false=>exact absurd (.inl h) hb
      obtain ⟨N,rfl⟩: ∃N:Nat,P=N:=⟨P.toNat,by omega⟩
      have hset:SetOk p3 p4 p5 p7:=⟨by omega,by omega,by omega,by omega⟩
      exact refusesMade w nm hs N p3 p4 p5 p6 p7 hn (by omega) (by omega) hset
  · exact refusesLong w nm hs P p3 p4 p5 p6 p7
end
end Go.Proofs.YtlemndledcmhiaaGreatDoor
