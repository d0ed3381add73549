/-
  The catalog, from the device up, part 12.
-/
import Derived.Test.YtlemndledcmhiaaGreatDoorV11
namespace Go.Proofs.YtlemndledcmhiaaGreatDoor
set_option linter.unusedVariables false
set_option linter.unusedSimpArgs false
set_option maxHeartbeats 8000000
set_option maxRecDepth 100000
open Tryz
open Lib (hid)
open Go.ChangeMaps Go.MapKept Go.RowKit
section
variable {w0:Gnd} {w:World} {rs:List Res} {X:Sys} {F:FH} {A:Path→Option Nd} {ι:Path→Nat}
attribute [local go_sem] U4 in
theorem Qf5 {cb mb n P next:Nat} {L:List Tp} {D:List ByteArray} (h:Fs w0 w F X A ι (Je cb F.fb next mb::Q8 mb L::rs)) (hb:F.begun=false) (hd:F.dead=false) (hop:X.op=false) (hlim:X.D.lim=none) (hm:X.m<1000000) (hl:X.l= []) (hc:Qar X A next L n D P) {nm:ByteArray} (hn50:nm.size≤50) (hnm:Yt nm true) (hno: ∀x∈L,x.nm≠nm) (p3 p4 p5:Int) (p6:Bool) (p7:Int)
 (h1:512≤p3∧p3≤8192) (h2: -1≤p4∧p4≤1099511627776) (h3: -1≤p5∧p5≤1125899906842624) (h4:0≤p7∧p7≤1125899906842624):
 Calls prog 11 #[.pointer (some ⟨cb,0,none⟩),.string nm,.int .i64 P,.agg (stz p3 p4 p5 p6 p7)] w fun e w'=>e= .returned (.tuple #[.agg (tpz nm next P p3 p4 p5 p6 p7),.int .i64 0])∧∃Y A' ι' n' mb',Fs w0 w' { F with begun:=false,QH:=false } Y A' ι' (Je cb F.fb ((next:Int)+1) mb'::Q8 mb' (JI ⟨nm,next,P,p3,p4,p5,p6,p7⟩ L)::rs)∧U1 X Y A A' (QB next L) (QB ((next:Int)+1) (JI ⟨nm,next,P,p3,p4,p5,p6,p7⟩ L)) next n n' P:=by
 have hh:=(((h.newArr #[.pointer (some ⟨cb,0,none⟩)] 25 J8).newArr (stz p3 p4 p5 p6 p7) 29 WA).newArr (tp0) 31 Jd);simp only [size_alloc] at hh;obtain ⟨y,hy⟩: ∃y,((w.alloc (.cells #[.pointer (some ⟨cb,0,none⟩)] 25 (0,0))).alloc (.cells (stz p3 p4 p5 p6 p7) 29 (0,0))).alloc (.cells (tp0) 31 (0,0))=y:=⟨_,rfl⟩;obtain ⟨b1,hb1⟩: ∃b1,w.heap.size=b1:=⟨_,rfl⟩;rw [hy,hb1] at hh;obtain ⟨b2,hb2⟩: ∃b2,b1+1=b2:=⟨_,rfl⟩;rw [hb2] at hh;obtain ⟨b3,hb3⟩: ∃b3,b2+1=b3:=⟨_,rfl⟩;rw [hb3] at hh;have hP:=hc.Pl;have P1:(1:Int)≤(P:Int):=by omega
 have P8:(P:Int)≤8:=by omega
 have c0:y.cell? ⟨b1,0,none⟩=some (.pointer (some ⟨cb,0,none⟩)):=(hh.arrCell (i:=2) rfl 0).trans rfl;have hnm50:Hid (nm.size≤50):=hid hn50;have HR:=hid (Y1 hh (i:=3) rfl);have HN:=hid (hnm y);have KS:Hid (∀W,Calls prog 41 #[.agg (stz p3 p4 p5 p6 p7)] W fun r w'=>r= .returned (.bool true)∧Frm NoB W w'):=hid fun W=>VB W p3 p4 p5 p6 p7 h1 h2 h3 h4
 have HY:=hid (And.intro hy (And.intro hb1 (And.intro hb2 hb3)));have HH:=hid hh;have HC:=hid hc;have HP:=hid (And.intro hno (And.intro hb (And.intro hd (And.intro hop (And.intro hlim (And.intro hm hl))))));have HSz:=hid (And.intro h1 (And.intro h2 (And.intro h3 h4)));clear h hb hd hop hlim hm hl hc hnm hn50 hno h1 h2 h3 h4 hh hy hb1 hb2 hb3 hP;go_enter func11,ntmps11;go_upto_region 1 with (refine Qg rfl _ _ JU rfl ?_)
 rw [HY.out.1,HY.out.2.1,HY.out.2.2.1,HY.out.2.2.2];clear HY;go_wp2_with fail;refine HR.out.mono ?_;clear HR;rintro e w2 ⟨rfl,rfl⟩;go_wp2_with fail;refine HN.out.mono ?_;clear HN;rintro e w2 ⟨rfl,hf⟩;have HH2:=hid (HH.out.frm hf);have s0:w2.cell? ⟨b2,0,none⟩=some (.int .i64 p3):=(HH2.out.arrCell (i:=1) rfl 0).trans rfl;have s1:w2.cell? ⟨b2,1,none⟩=some (.int .i64 p4):=(HH2.out.arrCell (i:=1) rfl 1).trans rfl;have s2:w2.cell? ⟨b2,2,none⟩=some (.int .i64 p5):=(HH2.out.arrCell (i:=1) rfl 2).trans rfl;have s3:w2.cell? ⟨b2,3,none⟩=some (.bool p6):=(HH2.out.arrCell (i:=1) rfl 3).trans rfl;have s4:w2.cell? ⟨b2,4,none⟩=some (.int .i64 p7):=(HH2.out.arrCell (i:=1) rfl 4).trans rfl;have c0':w2.cell? ⟨b1,0,none⟩=some (.pointer (some ⟨cb,0,none⟩)):=(HH2.out.arrCell (i:=2) rfl 0).trans rfl;clear HH hf c0;go_wp2_with fail;refine (KS.out _).mono ?_;clear KS s0 s1 s2 s3 s4;rintro e w3 ⟨rfl,hf⟩;have HH3:=hid (HH2.out.frm hf);have d0:w3.cell? ⟨b1,0,none⟩=some (.pointer (some ⟨cb,0,none⟩)):=(HH3.out.arrCell (i:=2) rfl 0).trans rfl;have d3:w3.cell? ⟨cb,3,none⟩=some (.map (some mb)):=(HH3.out.arrCell (i:=3) rfl 3).trans rfl;clear HH2 hf c0';go_upto_region 5 with fail
 have KL:Hid (∀W,Fs w0 W F X A ι (arr b3 (tp0) 31 Jd::arr b2 (stz p3 p4 p5 p6 p7) 29 WA::arr b1 #[.pointer (some ⟨cb,0,none⟩)] 25 J8::Je cb F.fb next mb::Q8 mb L::rs)→W.cell? ⟨b1,0,none⟩=some (.pointer (some ⟨cb,0,none⟩))∧W.cell? ⟨cb,3,none⟩=some (.map (some mb))∧(Instr.lookup 91 (.map (some mb)) (.agg ((Qj nm).map B8).toArray) true).run prog W= .ok (.tuple #[.agg #[.string ⟨#[]⟩,.int .i64 0,.int .i64 0,.int .i64 0,.int .i64 0,.int .i64 0,.bool false,.int .i64 0],.bool false]) W):=hid fun W hW=>by
  refine ⟨(hW.arrCell (i:=2) rfl 0).trans rfl,(hW.arrCell (i:=3) rfl 3).trans rfl,?_⟩;have this:=(hW.catAt (i:=4) rfl).lookup_ok YU underlying91 (a:=Qj nm) (Qr nm hnm50.out) JU W rfl;rw [WS HC.out.cat hnm50.out HP.out.1] at this;exact this
 have KO:Hid (∀W,Calls prog 42 #[.string nm] W fun e w'=>e= .returned (.agg ((Qj nm).map B8).toArray)∧Frm NoB W w'):=hid fun W=>QfK W nm hnm50.out
 have HHd:=hid (HH3.out.frm (Frm.refl NoB w3).drew);obtain ⟨k1,k2,k3⟩:=KL.out _ HH3.out;clear d0 d3;go_cut [10,11] from 36 (fun t10 t11 wx=>t11= .bool false∧Fs w0 wx F X A ι (arr b3 (tp0) 31 Jd::arr b2 (stz p3 p4 p5 p6 p7) 29 WA::arr b1 #[.pointer (some ⟨cb,0,none⟩)] 25 J8::Je cb F.fb next mb::Q8 mb L::rs))
 case first=>
  refine wp_region_held_drew (S:=(fun y=>y.cell? ⟨b1,0,none⟩=some (.pointer (some ⟨cb,0,none⟩))∧y.cell? ⟨cb,3,none⟩=some (.map (some mb))∧(Instr.lookup 91 (.map (some mb)) (.agg ((Qj nm).map B8).toArray) true).run prog y= .ok (.tuple #[.agg #[.string ⟨#[]⟩,.int .i64 0,.int .i64 0,.int .i64 0,.int .i64 0,.int .i64 0,.bool false,.int .i64 0],.bool false]) y)) (by kernel_rfl) (KL.out _ HHd.out) (fun hHeld=>?_);refine tkA (i:=0) rfl ?_
  try simp only [Act.put,tkS,tkZ,tkC]
  refine tkA (i:=1) rfl ?_
  try simp only [Act.put,tkS,tkZ,tkC]
  refine tkA (i:=2) rfl ?_
  try simp only [Act.put,tkS,tkZ,tkC]
  refine tkA (i:=3) rfl ?_
  try simp only [Act.put,tkS,tkZ,tkC]
  refine tkA (i:=4) rfl ?_
  try simp only [Act.put,tkS,tkZ,tkC]
  refine wpAnyH_ready (rs:= [5,10]) (by kernel_rfl) (by simp) ?_;refine AllReadyH.cons rfl (fun K hK=>?_) ?_
  ·go_simp;refine (KO.out _).mono ?_;rintro e w4 ⟨rfl,hf4⟩;go_wp2_with fail;have HH4:=hid (HHd.out.frm hf4);clear hf4;refine hK.out _ _ (KL.out _ HH4.out) (fun hHeld=>?_);clear hK K
   try simp only [Act.put,tkS,tkZ,tkC]
   refine tkA (i:=6) rfl ?_
   try simp only [Act.put,tkS,tkZ,tkC]
   refine tkA (i:=7) rfl ?_
   try simp only [Act.put,tkS,tkZ,tkC]
   refine tkA (i:=8) rfl ?_
   try simp only [Act.put,tkS,tkZ,tkC]
   refine tkA (i:=9) rfl ?_;change wpAnyH _ _ _ _ _ _ _ (Act.put _ (some 45) _) _
   try simp only [Act.put,tkS,tkZ,tkC]
   refine wpAnyH_ready (rs:= [10]) (by kernel_rfl) (by simp) ?_;refine AllReadyH.cons rfl (fun K hK=>?_) AllReadyH.nil;go_simp;have HA:=hid (HH4.out.newArr (tp0) 31 Jd);refine hK.out _ _ (KL.out _ (HA.out.drop 1)) (fun hHeld=>?_);clear hK K
   try simp only [Act.put,tkS,tkZ,tkC]
   refine wpAnyH_ready (rs:= [11]) (by kernel_rfl) (by simp) ?_;refine AllReadyH.cons rfl (fun K hK=>?_) AllReadyH.nil;rw [if_pos (by rfl)];refine wp_store_row 31 _ _ rfl w4.heap.size (tp0) rfl rfl _ _ (HA.out.block (i:=0) rfl) (Jz _ _ _ _ _ _ _ _) rfl (Uc _ _ _ _ _ _ _ _) ?_;have HB:=hid (HA.out.setRow 0 (c':=(tp0)) rfl);refine hK.out _ _ (KL.out _ (HB.out.drop 1)) (fun hHeld=>?_);clear hK K
   try simp only [Act.put,tkS,tkZ,tkC]
   refine tkA (i:=12) rfl ?_;change wpAnyH _ _ _ _ _ _ _ (Act.put _ (some 11) _) _
   try simp only [Act.put,tkS,tkZ,tkC]
   refine wpAnyH_done (by kernel_rfl) ?_ _;go_wp2_with fail;go_meet;exact ⟨rfl,HB.out.drop 1⟩
  ·refine AllReadyH.cons rfl (fun K hK=>?_) AllReadyH.nil;go_simp;have HA:=hid ((HH3.out.newArr (tp0) 31 Jd).frm (Frm.refl NoB _).drew);refine hK.out _ _ (KL.out _ (HA.out.drop 1)) (fun hHeld=>?_);clear hK K
   try simp only [Act.put,tkS,tkZ,tkC]
   obtain ⟨wa,hwa⟩: ∃wa,(w3.alloc (.cells (tp0) 31 (0,0))).drew=wa:=⟨_,rfl⟩;obtain ⟨ga,hga⟩: ∃ga,w3.heap.size=ga:=⟨_,rfl⟩;change wpAnyH _ _ _ _ _ _ _ _ ((w3.alloc (.cells (tp0) 31 (0,0))).drew);have hHeld2:=hHeld;clear hHeld;have hHeld:=KL.out _ (HA.out.drop 1);clear hHeld2;rw [hwa,hga] at HA;rw [hwa] at hHeld;rw [hwa,hga];clear hwa hga;refine wpAnyH_ready (rs:= [5]) (by kernel_rfl) (by simp) ?_;refine AllReadyH.cons rfl (fun K hK=>?_) AllReadyH.nil;go_simp;refine (KO.out _).mono ?_;rintro e w4 ⟨rfl,hf4⟩;go_wp2_with fail;have HH4:=hid (HA.out.frm hf4);clear hf4 HA;refine hK.out _ _ (KL.out _ (HH4.out.drop 1)) (fun hHeld=>?_);clear hK K
   try simp only [Act.put,tkS,tkZ,tkC]
   refine tkA (i:=6) rfl ?_
   try simp only [Act.put,tkS,tkZ,tkC]
   refine tkA (i:=7) rfl ?_
   try simp only [Act.put,tkS,tkZ,tkC]
   refine tkA (i:=8) rfl ?_
   try simp only [Act.put,tkS,tkZ,tkC]
   refine tkA (i:=9) rfl ?_;change wpAnyH _ _ _ _ _ _ _ (Act.put _ (some 45) _) _
   try simp only [Act.put,tkS,tkZ,tkC]
   refine wpAnyH_ready (rs:= [11]) (by kernel_rfl) (by simp) ?_;refine AllReadyH.cons rfl (fun K hK=>?_) AllReadyH.nil;rw [if_pos (by rfl)];refine wp_store_row 31 _ _ rfl ga (tp0) rfl rfl _ _ (HH4.out.block (i:=0) rfl) (Jz _ _ _ _ _ _ _ _) rfl (Uc _ _ _ _ _ _ _ _) ?_;have HB:=hid (HH4.out.setRow 0 (c':=(tp0)) rfl);refine hK.out _ _ (KL.out _ (HB.out.drop 1)) (fun hHeld=>?_);clear hK K
   try simp only [Act.put,tkS,tkZ,tkC]
   refine tkA (i:=12) rfl ?_;change wpAnyH _ _ _ _ _ _ _ (Act.put _ (some 11) _) _
   try simp only [Act.put,tkS,tkZ,tkC]
   refine wpAnyH_done (by kernel_rfl) ?_ _;go_wp2_with fail;go_meet;exact ⟨rfl,HB.out.drop 1⟩
 case rest=>
 obtain ⟨rfl,hcut⟩:=hcut;have hlen: ∀ty,(Builtin.len_ #[91] ty #[.map (some mb)]).run prog wc= .ok (goInt L.length) wc:=fun ty=>(hcut.catAt (i:=4) rfl).len underlying91 ty wc rfl
 have hl0:(0:Int)≤(L.length:Int):=Qk _;have hl20:(L.length:Int)<20:=by have:=HC.out.few;omega
 have n0:(0:Int)≤(next:Int):=Qk _;have n1:(next:Int)<100:=by have:=HC.out.id;omega
 have hwr:IntKind.i64.wrap ((next:Int)+1)=(next:Int)+1:=IntWalk.i64_in _ (by omega);have c5:wc.cell? ⟨b1,0,none⟩=some (.pointer (some ⟨cb,0,none⟩)):=(hcut.arrCell (i:=2) rfl 0).trans rfl;have d5:wc.cell? ⟨cb,3,none⟩=some (.map (some mb)):=(hcut.arrCell (i:=3) rfl 3).trans rfl;have HH5:=hid hcut;clear hcut KL HH3 HHd k1 k2 k3;go_upto_region 10 with fail
 clear hlen c5 d5;have KC:Hid (∀W A' ι' X' F' L1,Fs w0 W F' X' A' ι' (L1++(arr b3 (tp0) 31 Jd::arr b2 (stz p3 p4 p5 p6 p7) 29 WA::arr b1 #[.pointer (some ⟨cb,0,none⟩)] 25 J8::Je cb F.fb next mb::Q8 mb L::rs))→(W.cell? ⟨b1,0,none⟩=some (.pointer (some ⟨cb,0,none⟩))∧W.cell? ⟨cb,2,none⟩=some (.int .i64 next)∧W.cell? ⟨cb,3,none⟩=some (.map (some mb)))∧W.cell? ⟨b2,0,none⟩=some (.int .i64 p3)∧W.cell? ⟨b2,1,none⟩=some (.int .i64 p4)∧W.cell? ⟨b2,2,none⟩=some (.int .i64 p5)∧W.cell? ⟨b2,3,none⟩=some (.bool p6)∧W.cell? ⟨b2,4,none⟩=some (.int .i64 p7)):=hid fun W A' ι' X' F' L1 hW=>by
  have hW:=hW.sub (List.sublist_append_right L1 _);exact ⟨⟨(hW.arrCell (i:=2) rfl 0).trans rfl,(hW.arrCell (i:=3) rfl 2).trans rfl,(hW.arrCell (i:=3) rfl 3).trans rfl⟩,(hW.arrCell (i:=1) rfl 0).trans rfl,(hW.arrCell (i:=1) rfl 1).trans rfl,(hW.arrCell (i:=1) rfl 2).trans rfl,(hW.arrCell (i:=1) rfl 3).trans rfl,(hW.arrCell (i:=1) rfl 4).trans rfl⟩
 have HH5d:=hid (HH5.out.frm (Frm.refl NoB wc).drew);refine wp_region_held_drew (S:=(fun y=>(y.cell? ⟨b1,0,none⟩=some (.pointer (some ⟨cb,0,none⟩))∧y.cell? ⟨cb,2,none⟩=some (.int .i64 next)∧y.cell? ⟨cb,3,none⟩=some (.map (some mb)))∧y.cell? ⟨b2,0,none⟩=some (.int .i64 p3)∧y.cell? ⟨b2,1,none⟩=some (.int .i64 p4)∧y.cell? ⟨b2,2,none⟩=some (.int .i64 p5)∧y.cell? ⟨b2,3,none⟩=some (.bool p6)∧y.cell? ⟨b2,4,none⟩=some (.int .i64 p7))) (by kernel_rfl) (KC.out _ _ _ _ _ [] HH5d.out) (fun hHeld=>?_);refine tkA (i:=0) rfl ?_
 try simp only [Act.put,tkS,tkZ,tkC]
 refine tkA (i:=1) rfl ?_
 try simp only [Act.put,tkS,tkZ,tkC]
 refine tkA (i:=2) rfl ?_
 try simp only [Act.put,tkS,tkZ,tkC]
 refine tkA (i:=3) rfl ?_
 try simp only [Act.put,tkS,tkZ,tkC]
 refine tkA (i:=4) rfl ?_
 try simp only [Act.put,tkS,tkZ,tkC]
 refine tkA (i:=5) rfl ?_
 try simp only [Act.put,tkS,tkZ,tkC]
 refine tkA (i:=6) rfl ?_
 try simp only [Act.put,tkS,tkZ,tkC]
 refine tkA (i:=7) rfl ?_;change wpAnyH _ _ _ _ _ _ _ (Act.put _ (some 62) _) _
 try simp only [Act.put,tkS,tkZ,tkC]
 refine wpAnyH_ready (rs:= [8]) (by kernel_rfl) (by simp) ?_;refine AllReadyH.cons rfl (fun K hK=>?_) AllReadyH.nil;go_simp;have HA:=hid ((HH5.out.newArr (tp0) 31 Jd).frm (Frm.refl NoB _).drew);refine hK.out _ _ (KC.out _ _ _ _ _ [_] HA.out) (fun hHeld=>?_);clear hK K
 try simp only [Act.put,tkS,tkZ,tkC]
 obtain ⟨wa,hwa⟩: ∃wa,(wc.alloc (.cells (tp0) 31 (0,0))).drew=wa:=⟨_,rfl⟩;obtain ⟨b4,hga⟩: ∃b4,wc.heap.size=b4:=⟨_,rfl⟩;change wpAnyH _ _ _ _ _ _ _ _ ((wc.alloc (.cells (tp0) 31 (0,0))).drew);clear hHeld;have hHeld:=KC.out _ _ _ _ _ [_] HA.out;rw [hwa,hga] at HA;rw [hwa] at hHeld;rw [hwa,hga];clear hwa hga;refine wpAnyH_ready (rs:= [9]) (by kernel_rfl) (by simp) ?_;refine AllReadyH.cons rfl (fun K hK=>?_) AllReadyH.nil;rw [if_pos (by rfl)];refine wp_store_row 31 _ _ rfl b4 (tpz nm next P p3 p4 p5 p6 p7) rfl rfl _ _ (HA.out.block (i:=0) rfl) (Jz _ _ _ _ _ _ _ _) rfl (Uc _ _ _ _ _ _ _ _) ?_;have HB:=hid (HA.out.setRow 0 (c':=(tpz nm next P p3 p4 p5 p6 p7)) rfl);refine hK.out _ _ (KC.out _ _ _ _ _ [_] HB.out) (fun hHeld=>?_);clear hK K
 try simp only [Act.put,tkS,tkZ,tkC]
 refine wpAnyH_done (by kernel_rfl) ?_ _;obtain ⟨w6,hw6⟩: ∃w6,wa.setRow b4 (tpz nm next P p3 p4 p5 p6 p7)=w6:=⟨_,rfl⟩;rw [hw6] at HB ⊢;clear hw6 HA HH5 HH5d hHeld;have HCl:=hid (Qex HB.out (j:=5) rfl);obtain ⟨⟨c6,-,d6⟩,-⟩:=KC.out _ _ _ _ _ [_] HB.out;go_wp2_with fail;refine HCl.out.mono ?_;clear HCl c6 d6 HB;rintro e w7 ⟨mb',rfl,h7⟩;have HH7:=hid h7;have HH7d:=hid (h7.frm (Frm.refl NoB w7).drew);clear h7;go_upto_region 12 with fail
 have KT:Hid (∀W A' ι' X' F' L1,Fs w0 W F' X' A' ι' (L1++(arr b4 (tpz nm next P p3 p4 p5 p6 p7) 31 Jd::arr b3 (tp0) 31 Jd::arr b2 (stz p3 p4 p5 p6 p7) 29 WA::arr b1 #[.pointer (some ⟨cb,0,none⟩)] 25 J8::Je cb F.fb next mb::Q8 mb L::rs))→W.cell? ⟨b4,0,none⟩=some (.string nm)∧W.cell? ⟨b4,1,none⟩=some (.int .i64 next)∧W.cell? ⟨b4,2,none⟩=some (.int .i64 P)∧W.cell? ⟨b4,3,none⟩=some (.int .i64 p3)∧W.cell? ⟨b4,4,none⟩=some (.int .i64 p4)∧W.cell? ⟨b4,5,none⟩=some (.int .i64 p5)∧W.cell? ⟨b4,6,none⟩=some (.bool p6)∧W.cell? ⟨b4,7,none⟩=some (.int .i64 p7)):=hid fun W A' ι' X' F' L1 hW=>by
  have hW:=hW.sub (List.sublist_append_right L1 _);exact ⟨(hW.arrCell (i:=0) rfl 0).trans rfl,(hW.arrCell (i:=0) rfl 1).trans rfl,(hW.arrCell (i:=0) rfl 2).trans rfl,(hW.arrCell (i:=0) rfl 3).trans rfl,(hW.arrCell (i:=0) rfl 4).trans rfl,(hW.arrCell (i:=0) rfl 5).trans rfl,(hW.arrCell (i:=0) rfl 6).trans rfl,(hW.arrCell (i:=0) rfl 7).trans rfl⟩
 refine wp_region_held_drew (S:=(fun y=>y.cell? ⟨b4,0,none⟩=some (.string nm)∧y.cell? ⟨b4,1,none⟩=some (.int .i64 next)∧y.cell? ⟨b4,2,none⟩=some (.int .i64 P)∧y.cell? ⟨b4,3,none⟩=some (.int .i64 p3)∧y.cell? ⟨b4,4,none⟩=some (.int .i64 p4)∧y.cell? ⟨b4,5,none⟩=some (.int .i64 p5)∧y.cell? ⟨b4,6,none⟩=some (.bool p6)∧y.cell? ⟨b4,7,none⟩=some (.int .i64 p7))) (by kernel_rfl) (KT.out _ _ _ _ _ [_] HH7d.out) (fun hHeld=>?_);refine tkA (i:=0) rfl ?_
 try simp only [Act.put,tkS,tkZ,tkC]
 refine tkA (i:=1) rfl ?_
 try simp only [Act.put,tkS,tkZ,tkC]
 refine tkA (i:=3) rfl ?_;change wpAnyH _ _ _ _ _ _ _ (Act.put _ (some 71) _) _
 try simp only [Act.put,tkS,tkZ,tkC]
 refine wpAnyH_ready (rs:= [2]) (by kernel_rfl) (by simp) ?_;refine AllReadyH.cons rfl (fun K hK=>?_) AllReadyH.nil;go_simp;refine (KO.out _).mono ?_;rintro e w8 ⟨rfl,hf8⟩;go_wp2_with fail;have HH8:=hid (HH7d.out.frm hf8);clear hf8;refine hK.out _ _ (KT.out _ _ _ _ _ [_] HH8.out) (fun hHeld=>?_);clear hK K
 try simp only [Act.put,tkS,tkZ,tkC]
 obtain ⟨o,hup,h9⟩:=HH8.out.catPut 0 rfl HC.out.cat (⟨nm,next,P,p3,p4,p5,p6,p7⟩:Tp) hnm50.out HP.out.1;have hup:(Instr.mapUpdate 91 (.map (some mb')) (.agg ((Qj nm).map B8).toArray) (.agg #[.string nm,.int .i64 next,.int .i64 P,.int .i64 p3,.int .i64 p4,.int .i64 p5,.bool p6,.int .i64 p7])).run prog w8= .ok () (setBlock w8 mb' o):=hup;have HH9:=hid h9;clear h9;refine wpAnyH_ready (rs:= [4]) (by kernel_rfl) (by simp) ?_;refine AllReadyH.cons rfl (fun K hK=>?_) AllReadyH.nil;go_simp;refine hK.out _ _ (KT.out _ _ _ _ _ [_] HH9.out) (fun hHeld=>?_);clear hK K
 try simp only [Act.put,tkS,tkZ,tkC]
 refine wpAnyH_done (by kernel_rfl) ?_ _;clear hup hHeld HH7 HH7d HH8;obtain ⟨w9,hw9⟩: ∃w9,setBlock w8 mb' o=w9:=⟨_,rfl⟩;rw [hw9] at HH9 ⊢;clear hw9;have HH9d:=hid (HH9.out.frm (Frm.refl NoB w9).drew);have KCh:Hid (∀W,Fs w0 W F X A ι (Q8 mb' (JI (⟨nm,next,P,p3,p4,p5,p6,p7⟩:Tp) L)::arr b4 (tpz nm next P p3 p4 p5 p6 p7) 31 Jd::arr b3 (tp0) 31 Jd::arr b2 (stz p3 p4 p5 p6 p7) 29 WA::arr b1 #[.pointer (some ⟨cb,0,none⟩)] 25 J8::Je cb F.fb next mb::Q8 mb L::rs)→Calls prog 44 #[.pointer (some ⟨cb,0,none⟩),.int .i64 ((next:Int)+1),.map (some mb'),.func (.func 45) #[] #[.pointer (some ⟨b1,0,none⟩),.pointer (some ⟨b4,0,none⟩)]] W fun e w'=>e= .returned (.int .i64 0)∧∃Y A' ι' n',Fs w0 w' { F with begun:=false,QH:=false } Y A' ι' (Q8 mb' (JI (⟨nm,next,P,p3,p4,p5,p6,p7⟩:Tp) L)::arr b4 (tpz nm next P p3 p4 p5 p6 p7) 31 Jd::arr b3 (tp0) 31 Jd::arr b2 (stz p3 p4 p5 p6 p7) 29 WA::arr b1 #[.pointer (some ⟨cb,0,none⟩)] 25 J8::Je cb F.fb ((next:Int)+1) mb'::Q8 mb L::rs)∧U1 X Y A A' (QB next L) (QB ((next:Int)+1) (JI (⟨nm,next,P,p3,p4,p5,p6,p7⟩:Tp) L)) next n n' P):=hid fun W hW=>by
  have hsv0:=HC.out.save hW.2 HP.out.2.2.2.2.2.2 (⟨nm,next,P,p3,p4,p5,p6,p7⟩:Tp) hnm50.out ((next:Int)+1);refine (Qcb hW HP.out.2.1 HP.out.2.2.1 HP.out.2.2.2.1 HP.out.2.2.2.2.1 HP.out.2.2.2.2.2.1 (i:=5) (j:=0) rfl rfl (HC.out.cat.ins (⟨nm,next,P,p3,p4,p5,p6,p7⟩:Tp) hnm50.out HP.out.1) (by rw [YF];have:=HC.out.few;omega) hsv0.1 QdK (K:=fun X' A' ι'=> ∃X1 C1 C' n',Wd X.open' X1 (Wp X ι) C1 (QB next L) (QB ((next:Int)+1) (JI (⟨nm,next,P,p3,p4,p5,p6,p7⟩:Tp) L))∧Fold X1 X' (Q4 A [cN,lsN] (some (.file (QB ((next:Int)+1) (JI (⟨nm,next,P,p3,p4,p5,p6,p7⟩:Tp) L))))) ι A' ι' C1 C' next n n' P) (fun y X1 C1 rs' hy hsv=>?_)).mono ?_
  ·have hx1:=hsv.goes.wr;refine (QeY hy (Tx.wr (X:=X.open') ⟨rfl,rfl,HP.out.2.2.1,rfl,rfl⟩ hx1) (i0:=rs'.length+5) (i1:=rs'.length+4) (i2:=rs'.length+1) ((QaY rs' _ 5).trans rfl) (HC.out.fold hW.2 HP.out.2.2.2.2.2.2 (⟨nm,next,P,p3,p4,p5,p6,p7⟩:Tp) hnm50.out ((next:Int)+1) hsv) nm p3 p4 p5 p6 p7 ((QaY rs' _ 4).trans rfl) ((QaY rs' _ 1).trans rfl) HSz.out.1 HSz.out.2.1 HSz.out.2.2.1 HSz.out.2.2.2).mono ?_;rintro e w' ⟨rfl,X',A',ι',C',n',h',hf⟩;exact ⟨rfl,X',A',ι',h',by rw [hf.goes.wr,hx1];rfl,X1,C1,C',n',hsv,hf⟩
  ·rintro e w' ⟨rfl,X',A',ι',Y,h2,hcm,hx,X1,C1,C',n',hsv,hf⟩;exact ⟨rfl,Y,A',ι',n',h2,QjO HC.out.tree hsv hf hx hcm⟩
 clear KO HSz HP HC;obtain ⟨⟨k1,k2,-⟩,-⟩:=KC.out _ _ _ _ _ [_,_] HH9.out;go_upto_region 13 with fail
 have hnx:(w9.drew).cell? ⟨cb,2,none⟩=some (.int .i64 next):=(KC.out _ _ _ _ _ [_,_] HH9d.out).1.2.1;refine wp_region_held_drew (S:=(fun y=>y.cell? ⟨b1,0,none⟩=some (.pointer (some ⟨cb,0,none⟩)))) (by kernel_rfl) (KC.out _ _ _ _ _ [_,_] HH9d.out).1.1 (fun hHeld=>?_);refine tkA (i:=0) rfl ?_
 try simp only [Act.put,tkS,tkZ,tkC]
 refine tkA (i:=1) rfl ?_
 try simp only [Act.put,tkS,tkZ,tkC]
 refine tkA (i:=2) rfl ?_
 try simp only [Act.put,tkS,tkZ,tkC]
 refine tkA (i:=3) rfl ?_
 try simp only [Act.put,tkS,tkZ,tkC]
 refine tkA (i:=6) rfl ?_
 try simp only [Act.put,tkS,tkZ,tkC]
 refine tkA (i:=7) rfl ?_;change wpAnyH _ _ _ _ _ _ _ (Act.put _ (some 79) _) _
 try simp only [Act.put,tkS,tkZ,tkC]
 refine wpAnyH_ready (rs:= [4]) (by kernel_rfl) (by simp) ?_;refine AllReadyH.cons rfl (fun K hK=>?_) AllReadyH.nil;go_simp;refine hK.out _ _ ((KC.out _ _ _ _ _ [_,_] HH9d.out).1.1) (fun hHeld=>?_);clear hK K
 try simp only [Act.put,tkS,tkZ,tkC]
 refine tkA (i:=5) rfl ?_;change wpAnyH _ _ _ _ _ _ _ (Act.put _ (some 77) _) _
 try simp only [Act.put,tkS,tkZ,tkC]
 refine wpAnyH_ready (rs:= [8]) (by kernel_rfl) (by simp) ?_;refine AllReadyH.cons rfl (fun K hK=>?_) AllReadyH.nil;go_simp;refine (KCh.out _ HH9d.out).mono ?_;rintro e w10 ⟨rfl,Y,A',ι',n',h10,hmd⟩;go_wp2_with fail;have HL:=hid (h10.block (i:=1) rfl);have HS:=hid (h10.block (i:=2) rfl);have HX:=hid (h10.setRow 2 (c':=(tpz nm next P p3 p4 p5 p6 p7)) rfl);have HMD:=hid hmd;have hb1c:w10.cell? ⟨b1,0,none⟩=some (.pointer (some ⟨cb,0,none⟩)):=(h10.arrCell (i:=4) rfl 0).trans rfl;clear h10 hmd;refine hK.out _ _ (hb1c) (fun hHeld=>?_);clear hK K
 try simp only [Act.put,tkS,tkZ,tkC]
 refine tkA (i:=9) rfl ?_;change wpAnyH _ _ _ _ _ _ _ (Act.put _ (some 14) _) _
 try simp only [Act.put,tkS,tkZ,tkC]
 refine wpAnyH_done (by kernel_rfl) ?_ _;clear hHeld hb1c KC KT KCh HH9 HH9d hnx k1 k2;go_wp2_with (first | (refine Of rfl _ rfl b4 rfl nm next P p3 p4 p5 p6 p7 HL.out ?_) | (refine JE rfl _ _ rfl b3 nm next P p3 p4 p5 p6 p7 rfl rfl _ rfl HS.out ?_));have hld:=run_loadVar_row (P:=prog) _ b3 31 31 (tpz nm next P p3 p4 p5 p6 p7) (0,0) _ (HX.out.block (i:=2) rfl) underlying31 rfl (Jz _ _ _ _ _ _ _ _)
 (try simp only [Exit.inBlock,Exit.then])
 refine bodyPost_ret (v:= .tuple #[.agg (tpz nm next P p3 p4 p5 p6 p7),.int .i64 0]) (Qx results11 _ _ ⟨b3,0,none⟩ rfl _ hld) rfl ⟨rfl,Y,A',ι',n',mb',?_,HMD.out⟩;have hx:=HX.out;refine (hx.sub (rs':=Q8 mb' (JI (⟨nm,next,P,p3,p4,p5,p6,p7⟩:Tp) L)::Je cb F.fb ((next:Int)+1) mb'::rs) ?_).perm2 (List.Perm.swap _ _ _);exact List.Sublist.cons_cons _ (List.Sublist.cons _ (List.Sublist.cons _ (List.Sublist.cons _ (List.Sublist.cons _ (List.Sublist.cons_cons _ (List.Sublist.cons _ (List.Sublist.refl _)))))))
theorem Fs.perm (h:Fs w0 w F X A ι rs) {rs':List Res} (hp:rs.Perm rs'):Fs w0 w F X A ι rs':=by
 obtain ⟨⟨k,l,ha,hl⟩,hr⟩:=h;exact ⟨⟨k,l,ha.perm ((hp.cons _).cons _),hl⟩,hr⟩
theorem QdL:QE prog 48:=QJ func48 (by kernel_rfl) rfl
theorem Qe0 (w:World):Calls prog 48 #[] w fun e w'=>e= .returned (.int .i64 0)∧w'=w:=by
 go_enter func48,ntmps48;go_wp2;go_ret;exact ⟨rfl,rfl⟩
theorem Qdq (h:Fs w0 w F X A ι rs) {cb mb i j:Nat} {next:Int} {L:List Tp} (hr:rs[i]?=some (Je cb F.fb next mb)) (hr2:rs[j]?=some (Q8 mb L)) (hL:Q9 L) {nm:ByteArray} (hn:nm.size≤50) (hN:Yt nm true) (hno: ∀x∈L,x.nm≠nm):
 Calls prog 15 #[.pointer (some ⟨cb,0,none⟩),.string nm] w fun e w'=>e= .returned (.int .i64 4)∧Fs w0 w' F X A ι rs:=by
 have HR:=hid (Y1 h hr);have hq:QX L (Qj nm)=none:=by
  cases hq:QX L (Qj nm) with
  | none=>rfl
  | some t=>
    have h1:=(hL.map_iff _ _).1 hq;exact absurd (JO _ _ hn (hL.nm t h1.1) h1.2).symm (hno t h1.1)
 have HF:=hid (Qdr h hr hr2 hn hN hq);clear h hr hr2 hL hN hno hq;go_enter func15,ntmps15;go_wp2_with fail;refine HR.out.mono ?_;clear HR;rintro e w2 ⟨rfl,rfl⟩;go_wp2_with fail;refine HF.out.mono ?_;clear HF;rintro e w3 ⟨rfl,h3⟩;have HK0:=hid (Qb w3 (.cells (tp0) 31 (0,0)));have H3:=hid (h3.frm (((Frm.refl NoB w3).alloc (.cells (tp0) 31 (0,0))).setRowNew (Nat.le_refl _) (tp0)));clear h3;unfold Wm;go_upto_region 4 with (first | (refine Qg rfl _ _ JU rfl ?_) | (refine JE rfl _ _ rfl w3.heap.size ByteArray.empty 0 0 0 0 0 false 0 rfl rfl _ rfl HK0.out ?_))
 clear HK0;go_wp2_with fail;go_ret;exact ⟨rfl,H3.out⟩
theorem QjE (h:Fs w0 w F X A ι rs) {cb mb i j:Nat} {next:Int} {L:List Tp} (hr:rs[i]?=some (Je cb F.fb next mb)) (hr2:rs[j]?=some (Q8 mb L)) (hL:Q9 L) (hlen:L.length≤20):
 Calls prog 14 #[.pointer (some ⟨cb,0,none⟩)] w fun e w'=> ∃v,e= .returned v∧w'.ownsRow w.heap.size 31 8 v L.length (QI L)∧Frm NoB w w':=by
 have c3:w.cell? ⟨cb,3,none⟩=some (.map (some mb)):=(h.arrCell hr 3).trans rfl;have HS:=hid (O7 w mb hL (by omega) (h.catAt hr2));clear h hr hr2 hL hlen;go_enter func14,ntmps14;go_wp2_with fail;refine HS.out.mono ?_;clear HS;rintro e w2 ⟨v,rfl,hv,hf⟩;have HV:=hid (And.intro hv hf);clear hv hf;go_wp2;go_ret;exact ⟨v,rfl,HV.out⟩
end
def dgs (n k:Nat):Blk:=(List.range k).map fun i=>UInt8.ofNat (48+n/10 ^ i%10)
theorem JS (n k:Nat):(dgs n k).length=k:=by simp [dgs]
theorem Qgu (n k:Nat):dgs n (k+1)=dgs n k++ [UInt8.ofNat (48+n/10 ^ k%10)]:=by simp [dgs,List.range_succ]
theorem QhZ: ∀n,n<100→∀k,k<3→(n=0∨n/10 ^ k≠0∨(k≠0∧n/10 ^ (k-1)=0)∨(dgs n k).reverse=Lib.decDigits n):=by decide+kernel
theorem dec0:J7 0=⟨#[48]⟩:=by decide+kernel
theorem Qf3 (u:Nat): [Value.int .u8 (48+(u:Int)%10)]= [UInt8.ofNat (48+u%10)].map B8:=by
 have h:(UInt8.ofNat (48+u%10)).toNat=48+u%10:=by rw [UInt8.toNat_ofNat'];omega
 show _= [Value.int .u8 ((UInt8.ofNat (48+u%10)).toNat:Int)];rw [h];simp
theorem Ji.up {w:World} {b:Nat} {v:Value} {bs:Blk} (h:Ji w b v bs) {x:Nat} (e:v.ownBlock=some x):b≤x:=by
 rcases h.2 with ⟨rfl,-⟩ | ⟨g,cap,cur,rfl,h2,-⟩
 ·cases e
 ·cases e;exact h2
theorem Ji.cellAt {w:World} {base g n cap:Nat} {bs:Blk} (h:Ji w base (.slice (some ⟨g,0,none⟩) n cap) bs) {m:Nat} {y:UInt8} (hm:bs[m]?=some y):w.cell? ⟨g,m,none⟩=some (.int .u8 (y.toNat:Int)):=by
 rcases h.2 with ⟨e,h0⟩ | ⟨g',cap',cur,e,h2,h3,h4,h5,h6,h7⟩
 ·cases e
 ·injection e with e1 e2 e3
  injection e1 with e1
  injection e1 with e1
  subst e1;refine (Qa h3).trans ?_;have:=(List.getElem?_eq_some_iff.1 hm).1;rw [←Array.getElem?_toList,←List.getElem?_take_of_lt this,←Nat.mul_one bs.length,h7,List.getElem?_map,hm];rfl
theorem Ji.string {w:World} {base g cap:Nat} {bs:Blk} (h:Ji w base (.slice (some ⟨g,0,none⟩) bs.length cap) bs):
 (convert 76 9 (.slice (some ⟨g,0,none⟩) bs.length cap)).run prog w= .ok (.string ⟨bs.toArray⟩) w:=
 run_convert_bytes_back (P:=prog) w 76 9 5 ⟨g,0,none⟩ cap bs underlying76 underlying5 underlying9 (fun j hj=>by
  rw [Qa7];exact h.cellAt (List.getElem?_eq_getElem hj))
theorem Qjc (W:World):(zeroValue 29).run prog W= .ok (.agg (stz 0 0 0 false 0)) W:=by kernel_rfl
theorem QeJ (a b c:Int) (d:Bool) (e:Int):(prog.info? 29).map (·.size)=some (stz a b c d e).size:=by kernel_rfl
theorem Qka (a b c:Int) (d:Bool) (e:Int):((stz a b c d e).all fun x=>x.oneCell')=true:=by simp [stz,Value.oneCell']
theorem QhF {ops:Array Oper} {rest:List Oper} {o:Oper} {a:Act} {w:World} {Q:Exit→Act→World→Prop} (hgd:o.guard=none) (x y:Operand) (ho:o.op= .store 29 x y) (g:Nat) (p1 p2 p3:Int) (p4:Bool) (p5:Int) (hx:a.eval x= .pointer (some ⟨g,0,none⟩)) (hy:a.eval y= .agg (stz p1 p2 p3 p4 p5)) (old:Array Value) (hold:old.size=5)
 (hg:w.heap[g]?=some (.cells old 29 (0,0))) (h:wpList prog ops Q rest (a.put o.dst undef) (w.setRow g (stz p1 p2 p3 p4 p5))):wpList prog ops Q (o::rest) a w:=
 wpList_store_row hgd _ x y ho g (stz p1 p2 p3 p4 p5) hx hy _ old hg (QeJ _ _ _ _ _) (by rw [hold];rfl) (Qka _ _ _ _ _) h
theorem Qit (w:World):Calls prog 13 #[] w fun e w'=>e= .returned (.agg (stz 600 (-1) (-1) false 0))∧Frm NoB w w':=by
 have HK0:=hid (Qb w (.cells (stz 0 0 0 false 0) 29 (0,0)));go_enter func13,ntmps13;go_upto_region 1 with (refine Qg rfl _ _ Qjc rfl ?_)
 go_wp2_with (refine QhF rfl _ _ rfl w.heap.size 600 (-1) (-1) false 0 rfl rfl _ rfl HK0.out ?_);have hb2:=setRow_heap _ _ _ (stz 600 (-1) (-1) false 0) _ _ HK0.out;have hld:=run_loadVar_row (P:=prog) _ w.heap.size 29 29 (stz 600 (-1) (-1) false 0) (0,0) _ hb2 underlying29 rfl (QeJ _ _ _ _ _)
 (try simp only [Exit.inBlock,Exit.then])
 exact bodyPost_ret (v:= .agg (stz 600 (-1) (-1) false 0)) (YC results13 _ _ ⟨w.heap.size,0,none⟩ rfl _ hld) rfl ⟨rfl,((Frm.refl NoB w).alloc _).setRowNew (Nat.le_refl _) _⟩
theorem QaU (w:World) (n:Nat) (hn:n<100):Calls prog 12 #[.int .i64 n] w fun e w'=>e= .returned (.string (J7 n))∧Frm NoB w w':=by
 have n0:(0:Int)≤(n:Int):=Qk _;have n1:(n:Int)<100:=by omega
 by_cases hz:n=0
 ·subst hz;go_enter func12,ntmps12;go_wp2_with fail;go_ret;exact ⟨by rw [dec0];rfl,Frm.refl _ _⟩
 ·have hz': ¬(n:Int)=0:=by omega
  have hneg: ¬(n:Int)<0:=by omega
  have HN:=hid (show 0<n∧n<100 by omega);clear hz hn;go_enter func12,ntmps12;go_wp2_with fail;go_loopw [3,4] (fun t3 t4 wr=> ∃(k u:Nat) (v:Value),k≤2∧t3= .int .u64 (u:Int)∧t4=v∧Hid (n/10 ^ k=u∧(k=0∨0<n/10 ^ (k-1)))∧Hid (Ji wr w.heap.size v (dgs n k)∧Frm NoB w wr)) (fun t3 _ _=>(intOf t3).toNat)
  case atStart=>exact ⟨0,n,_,by omega,rfl,rfl,hid ⟨by simp,.inl rfl⟩,hid ⟨Ji.nil _ _,Frm.refl _ _⟩⟩
  case round=>
   obtain ⟨k,u,v,hk,rfl,rfl,HU,HR⟩:=hrel;have u0:(0:Int)≤(u:Int):=Qk _;have hul:u≤n:=by rw [←HU.out.1];exact Nat.div_le_self _ _
   have u1:(u:Int)<100:=by omega
   obtain ⟨a,cap,hv⟩:=HR.out.1.slice;rw [JS] at hv;subst hv;by_cases hu:0<u
   ·have hu':(0:Int)<(u:Int):=by omega
    obtain ⟨iu,hiu,hzu,hz1,hz2⟩:=info_parts V7;clear hul;have HH:=hid hu;clear hu;have hun:Hid (∀z,Ji wr w.heap.size (.slice a k cap) (dgs n k)→(wr.alloc z).ownsRow w.heap.size 5 1 (.slice a k cap) (dgs n k).length ((dgs n k).map B8)):=hid fun z h=>h.frm ((Frm.refl NoB wr).alloc _)
    go_wp2_with (at_builtin;refine wpList_append_own_at _ rfl _ _ 76 rfl w.heap.size 5 iu (.int .u8 0) 1 1 underlying76 hiu hzu hz1 hz2 rfl (by decide) _ _ _ rfl (hun.out _ HR.out.1) ⟨wr.heap.size,0,none⟩ 1 1 [.int .u8 (48+(u:Int)%10)] ?c9 rfl ?cn ?co ?c1 ?c2 ?c3 ?_)
    case c9=>rfl
    case cn=>
     intro j v hv
     match j,hv with
     | 0,hv=>cases hv;exact (Qa (Qb wr _)).trans rfl
     | j+1,hv=>cases hv
    case co=>intro v hv;simp at hv;subst hv;rfl
    case c1=>rw [JS];simp only [maxLen];omega
    case c2=>rw [JS];omega
    case c3=>rw [size_alloc];have:=HR.out.2.size;omega
    intro v2 w2 hown hg _ hat;have hb2:Ji w2 w.heap.size v2 (dgs n (k+1)):=by
     unfold Ji;rw [Qgu,List.length_append,List.map_append,HU.out.1,←Qf3];exact hown
    have hf2:Frm NoB w w2:=(HR.out.2.alloc _).trans (Frm.ofGrown hg) (fun x hx e=>absurd (HR.out.1.up e) (by omega));have hk3:k+1≤2:=by
     have h1:=HU.out.1;have h2:=HH.out;rcases (show k=0∨k=1∨k=2 by omega) with rfl | rfl | rfl
     ·omega
     ·omega
     ·have:n/10 ^ 2=0:=by omega
      omega
    have HN2:Hid (n/10 ^ (k+1)=u/10∧(k+1=0∨0<n/10 ^ (k+1-1))):=hid ⟨by rw [Nat.pow_succ,←Nat.div_div_eq_div_mul,HU.out.1],.inr (by rw [Nat.add_sub_cancel,HU.out.1];exact HH.out)⟩;have HB2:=hid (And.intro hb2 hf2);clear hown hg hat hb2 hf2 hun;go_wp2_with fail;exact ⟨⟨k+1,u/10,v2,hk3,by go_num,rfl,HN2,HB2⟩,by simp [intOf];omega⟩
   ·have hu': ¬(0:Int)<(u:Int):=by omega
    obtain rfl:u=0:=by omega
    have HD:Hid ((dgs n k).reverse=Lib.decDigits n):=hid (by
     rcases QhZ n HN.out.2 k (by omega) with h | h | h | h
     ·have:=HN.out.1;omega
     ·exact absurd HU.out.1 h
     ·rcases HU.out.2 with h2 | h2
      ·exact absurd h2 h.1
      ·have:=h.2;omega
     ·exact h)
    have k0:(0:Int)≤(k:Int):=Qk _;have k1:(k:Int)≤2:=by omega
    clear hul hu;obtain ⟨w9,h9⟩: ∃w9,wr=w9:=⟨_,rfl⟩;rw [h9] at HR ⊢;clear h9;go_wp2_with fail;go_loopw [5,6] (fun t5 t6 wr=> ∃(j:Nat) (v2:Value),j≤k∧t6= .int .i64 ((k:Int)-1-(j:Int))∧t5=v2∧Hid (Ji wr w9.heap.size v2 ((dgs n k).reverse.take j)∧Frm NoB w9 wr)) (fun _ t6 _=>(intOf t6+1).toNat)
    case atStart=>exact ⟨0,_,Nat.zero_le _,by simp,rfl,hid ⟨Ji.nil _ _,Frm.refl _ _⟩⟩
    case round=>
     obtain ⟨j,v2,hj,rfl,rfl,HX⟩:=hrel;obtain ⟨a2,cap2,hv2⟩:=HX.out.1.slice;have hlj:((dgs n k).reverse.take j).length=j:=by rw [List.length_take,List.length_reverse,JS];omega
     rw [hlj] at hv2;subst hv2;have HB:=hid (HR.out.1.frm HX.out.2);by_cases hjk:j<k
     ·obtain ⟨i,hi⟩: ∃i,i+j+1=k:=⟨k-1-j,by omega⟩;have e6:(k:Int)-1-(j:Int)=(i:Int):=by omega
      rw [e6];obtain ⟨x,hx⟩: ∃x,(dgs n k)[i]?=some x:=⟨(dgs n k)[i]'(by rw [JS];omega),List.getElem?_eq_getElem _⟩;obtain ⟨g,hg,hc⟩: ∃g,a=some ⟨g,0,none⟩∧∀(m:Nat) (y:UInt8),(dgs n k)[m]?=some y→wr.cell? ⟨g,m,none⟩=some (.int .u8 (y.toNat:Int)):=by
       rcases HB.out.2 with ⟨e,h0⟩ | ⟨g,cap',cur,e,h2,h3,h4,h5,h6,h7⟩
       ·rw [JS] at h0;omega
       ·injection e with e1 e2 e3
        refine ⟨g,e1,fun m y hm=>(Qa h3).trans ?_⟩;have:=(List.getElem?_eq_some_iff.1 hm).1;rw [←Array.getElem?_toList,←List.getElem?_take_of_lt this,←Nat.mul_one (dgs n k).length,h7,List.getElem?_map,hm];rfl
      subst hg;have hcx:=hc i x hx;have i0:(0:Int)≤(i:Int):=Qk _;have i1:(i:Int)<(k:Int):=by omega
      obtain ⟨iu,hiu,hzu,hz1,hz2⟩:=info_parts V7;have hun:Hid (∀z,Ji wr w9.heap.size (.slice a2 j cap2) ((dgs n k).reverse.take j)→(wr.alloc z).ownsRow w9.heap.size 5 1 (.slice a2 j cap2) ((dgs n k).reverse.take j).length (((dgs n k).reverse.take j).map B8)):=hid fun z h=>h.frm ((Frm.refl NoB wr).alloc _)
      have HI:=hid (And.intro hi (And.intro hx hlj));clear hc hx hlj hi hjk e6;go_wp2_with (at_builtin;refine wpList_append_own_at _ rfl _ _ 76 rfl w9.heap.size 5 iu (.int .u8 0) 1 1 underlying76 hiu hzu hz1 hz2 rfl (by decide) _ _ _ rfl (hun.out _ HX.out.1) ⟨wr.heap.size,0,none⟩ 1 1 [.int .u8 (x.toNat:Int)] ?d9 rfl ?dn ?dx ?d1 ?d2 ?d3 ?_)
      case d9=>rfl
      case dn=>
       intro m v hv
       match m,hv with
       | 0,hv=>cases hv;exact (Qa (Qb wr _)).trans rfl
       | m+1,hv=>cases hv
      case dx=>intro v hv;simp at hv;subst hv;rfl
      case d1=>rw [HI.out.2.2];simp only [maxLen];omega
      case d2=>rw [HI.out.2.2];omega
      case d3=>rw [size_alloc];have:=HX.out.2.size;omega
      intro v3 w3 hown hg _ hat;have hb3:Ji w3 w9.heap.size v3 ((dgs n k).reverse.take (j+1)):=by
       have e:(dgs n k).reverse.take (j+1)=(dgs n k).reverse.take j++ [x]:=by
        rw [List.take_add_one,List.getElem?_reverse (by rw [JS];have:=HI.out.1;omega),JS,show k-1-j=i by have:=HI.out.1;omega,HI.out.2.1];rfl
       unfold Ji;rw [e,List.length_append,List.map_append];simp only [List.length_take,List.length_reverse,List.length_singleton,List.map_take,List.map_reverse,List.map_cons,List.map_nil];exact hown
      have hf3:Frm NoB w9 w3:=(HX.out.2.alloc _).trans (Frm.ofGrown hg) (fun x hx e=>absurd (HX.out.1.up e) (by omega));have HB3:=hid (And.intro hb3 hf3);have hj1:j+1≤k:=by have:=HI.out.1;omega
      have e7:Hid ((i:Int)-1=(k:Int)-1-((j+1:Nat):Int)):=hid (by have:=HI.out.1;omega);clear hown hg hat hb3 hf3 hun hcx;go_wp2_with fail;refine ⟨⟨j+1,v3,hj1,by rw [←e7.out],rfl,HB3⟩,?_⟩;have h7:=e7.out;simp [intOf]<;>omega
     ·obtain rfl:j=k:=by omega
      have HFT:Hid ((dgs n j).reverse.take j=Lib.decDigits n):=hid (by rw [List.take_of_length_le (by rw [List.length_reverse,JS];omega)];exact HD.out);obtain ⟨g2,hg2⟩: ∃g2,a2=some ⟨g2,0,none⟩:=by
       rcases HX.out.1.2 with ⟨e,h0⟩ | ⟨g,cap',cur,e,-⟩
       ·rw [HFT.out] at h0;have:=HFT.out;rw [this] at hlj;rw [hlj] at h0;subst h0;have h1:=HU.out.1;have h2:=HN.out.1;rw [Nat.pow_zero,Nat.div_one] at h1;omega
       ·injection e with e1 _ _
        exact ⟨g,e1⟩
      subst hg2;have hconv:(convert 76 9 (.slice (some ⟨g2,0,none⟩) j cap2)).run prog wr= .ok (.string (J7 n)) wr:=by
       have ho:=HX.out.1;rw [HFT.out] at ho;have hl:j=(Lib.decDigits n).length:=by rw [←HFT.out];exact hlj.symm
       rw [hl] at ho ⊢;exact ho.string
      have e6:(j:Int)-1-(j:Int)= -1:=by omega
      rw [e6];have HFF:Hid (Frm NoB w wr):=hid (HR.out.2.trans HX.out.2 (fun _ _ e=>e));clear hlj hj hjk;go_wp2_with fail;go_ret;exact ⟨rfl,HFF.out⟩
section
variable {w0:Gnd} {w:World} {rs:List Res} {fb cb next used ops:Nat} {L:List Tp}
structure Oy (p3 p4 p5 p7:Int):Prop where
 h1:512≤p3∧p3≤8192
 h2: -1≤p4∧p4≤1099511627776
 h3: -1≤p5∧p5≤1125899906842624
 h4:0≤p7∧p7≤1125899906842624
theorem Qd1 (c:UInt8) (h:c.toNat<128∧c≠47∧c≠0∧c≠46):Qy ⟨#[c]⟩:=
 Vm _ ⟨Nat.le_refl 1,(by omega:1≤50)⟩ (by simp [h.1,h.2.1,h.2.2.1]) (by simp [h.2.2.2])
theorem Qhy:Oy 600 (-1) (-1) 0:=⟨by decide,by decide,by decide,by decide⟩
def Qab:Tp:=⟨⟨#[97]⟩,1,2,600,-1,-1,false,0⟩
theorem Qiv:Qd [cN,Qe 1 1]=⟨#[47,99,47,116,49,45,49]⟩:=by decide+kernel
theorem Qiy:Qd [cN,Qe 1 1,QS]=⟨#[47,99,47,116,49,45,49,47,112,114,111,100,117,99,101,114,115]⟩:=by decide+kernel
end
section
variable {w0:Gnd} {w:World} {rs:List Res} {X:Sys}
theorem At.mkRow (h:At w0 w X rs) {w':World} (hf:Frm NoB w w') {t:TypeId} {ht: ¬U8T t} {s:Nat} {v:Value} {n:Nat} {xs:List Value} (hr:w'.ownsRow w.heap.size t s v n xs):At w0 w' X (QW t ht s v n xs::rs):=by
 refine ⟨(h.1.make hf (QW t ht s v n xs) ?_ fun x hx=>?_).swap,h.2⟩
 ·refine ⟨hr.1,?_⟩;rcases hr.2 with h1 | ⟨g,cap,cur,h1,h2,h3⟩
  ·exact .inl h1
  ·exact .inr ⟨g,cap,cur,h1,Nat.zero_le _,h3⟩
 ·rcases hr.2 with ⟨rfl,_⟩ | ⟨g,cap,cur,rfl,h2,_⟩
  ·cases hx
  ·have hx:(Value.slice (some ⟨g,0,none⟩) n cap).ownBlock=some x:=hx;obtain rfl:g=x:=by simpa [Value.ownBlock] using hx
   exact h2
theorem Qhl {y:World} {kb:Nat} {s:ByteArray} (h:y.heap[kb]?=some (.cells (Jb s) 299 (0,0))):y.rangeAt kb 0 ((Qj s).map B8):=fun j u hj=>by
 rw [Nat.zero_add];refine (Qa h).trans ?_;rw [←hj];unfold Jb;rw [List.getElem?_toArray]
theorem V0 {W:World} {base base':Nat} {t:TypeId} {s:Nat} {v:Value} {n:Nat} {xs:List Value} (h:W.ownsRow base t s v n xs) (hb:base'≤base):W.ownsRow base' t s v n xs:=by
 refine ⟨h.1,?_⟩;rcases h.2 with h1 | ⟨g,cap,cur,h1,h2,h3⟩
 ·exact .inl h1
 ·exact .inr ⟨g,cap,cur,h1,Nat.le_trans hb h2,h3⟩
theorem Qgn (h:At w0 w X rs) (ho:J5 X) (d:Nat) (hd:X.live d) (hk:X.nd d 0=2) (b:Blk) (hb:X.bytes d=b) (hok:b.length%64=0) (hnm: ∀a,JJ b a≠none→∃s,NmS s∧a=Qj s):
 Calls prog 126 #[.pointer (some ⟨X.sb,0,none⟩),.int .i64 d] w fun e w'=> ∃v ss,e= .returned (.tuple #[v,.int .i64 0])∧Qc8 b ss∧At w0 w' X (QW 202 Qfu 2 v ss.length (YD ss)::rs):=by
 have h5:b.length≤5120:=by rw [←hb,Jr];exact ho.size d hd
 have HN:=hid (QbJ h ho d hd hk b hb hok _ rfl);have HB:=hid (And.intro h5 hnm);clear h ho hd hk hb hok h5 hnm;obtain ⟨fr,hfr⟩: ∃fr,((slF b (b.length/64)).map (64* ·)).getD b.length=fr:=⟨_,rfl⟩;rw [hfr] at HN;clear hfr;go_enter func126,ntmps126;go_wp2_with fail;refine HN.out.mono ?_;clear HN;rintro e w2 ⟨mb,n,rfl,h2,hm2⟩;have H2:=hid h2;have HM2:=hid hm2;clear h2 hm2;go_wp2_with (at_range;refine Vb rfl _ 293 rfl 299 297 underlying293 rfl HM2.out ?_;intro o' hrg);have hf3:Frm NoB w2 (w2.alloc o'):=(Frm.refl NoB w2).alloc _;have HBS:=hid (show w2.heap.size+1≤(w2.alloc o').heap.size by rw [size_alloc];exact Nat.le_refl _);have HMBL:=hid (show mb<w2.heap.size from HM2.out.lt);obtain ⟨y3,hy3⟩: ∃y3,w2.alloc o'=y3:=⟨_,rfl⟩;obtain ⟨r,hr⟩: ∃r,w2.heap.size=r:=⟨_,rfl⟩;rw [hy3] at hrg hf3 HBS;rw [hr] at hrg HBS HMBL;rw [hy3,hr];have HRG:=hid hrg;have HF3:=hid hf3;have HR:=hid hr;clear hrg hf3 hy3 hr;have HP0:Hid (Ud b (fun a=>(slM b (b.length/64) a).isSome=true) []):=hid (Ud.nil _ fun a _ h=>h);go_frame;go_loopw [9,10,11] (fun t9 _ _ wr=> ∃(left:Blk→Prop) (cnt:Nat) (ss:List En) (v9:Value),v9=t9∧Hid (QG JA okK wr mb r n (slM b (b.length/64)) left cnt)∧Hid (Frm NoB w2 wr)∧r+1≤wr.heap.size∧Hid (wr.ownsRow (r+1) 202 2 v9 ss.length (YD ss))∧Hid (Ud b left ss)) (fun _ _ _ wr=>wr.rangeLeft mb r)
 case atStart=>exact ⟨_,_,[],_,rfl,HRG,HF3,HBS.out,hid (World.ownsRow_nil _ _ _ _),HP0⟩
 case round=>
  clear HRG HF3 HP0 HBS;obtain ⟨left,cnt,ss,v9,rfl,HRG,HF,hsz,HW,HP⟩:=hrel;go_wp2_with (at_next;refine VA rfl _ rfl Qa2 rfl HRG.out ?_ ?_)
  ·intro hdn;have HD:=hid hdn;have HS:=hid (Qku wr (r+1) v9 ss HW.out (by have:=HP.out.few;have:=HB.out.1;omega));clear hdn;go_wp2_with fail;refine HS.out.mono ?_;clear HS;rintro e w5 ⟨rfl,ss',hp,hs,hrow,hf5⟩;have HE:=hid (HP.out.ents HD.out hp hs);have hfa:Frm NoB w2 w5:=HF.out.trans hf5 (fun x hx hup=>by have:r+1≤x:=hup;have:=HR.out;omega);have HA:=hid (H2.out.mkRow (ht:=Qfu) hfa (V0 hrow (by have:=HR.out;omega)));clear hp hs hrow hf5 hfa;go_wp2;go_ret2;exact ⟨_,ss',rfl,HE.out,HA.out⟩
  ·intro x v w4 cnt4 hxo hxl hxv hrg4 hlt hf4 hsz4 hen;obtain ⟨k,hkx,hvk⟩: ∃k,slX b (b.length/64) x=some k∧slV b k=v:=by
    rw [O0] at hxv;cases hx:slX b (b.length/64) x with
    | none=>rw [hx] at hxv;cases hxv
    | some k=>rw [hx] at hxv;exact ⟨k,rfl,by simpa using hxv⟩
   have hen1:JJ b x=some (slI b k):=by unfold JJ;rw [hkx];rfl
   obtain ⟨s,hs,rfl⟩:=HB.out.2 x (by rw [hen1];exact fun e=>by cases e);obtain ⟨iv,hiv⟩: ∃iv,slI b k=iv:=⟨_,rfl⟩;obtain rfl:v= .agg #[.int .i64 ((64*k:Nat):Int),.int .i64 iv]:=by rw [←hvk,←hiv];rfl
   rw [hiv] at hen1;have HP2:=hid (HP.out.snoc hs hxl hen1);have HSS:=hid hs;have HSZ4:=hid hsz4;have HRG4:=hid hrg4;have HF4:=hid hf4;have HLT:=hid (And.intro hlt HRG.out.left_eq);have hen:(Instr.entry (.pointer (some ⟨r,0,none⟩))).run prog w4= .ok (.tuple #[.agg ((Qj s).map B8).toArray,.agg #[.int .i64 ((64*k:Nat):Int),.int .i64 iv]]) w4:=hen;have hkl:=Qr s hs.2;have HKL:=hid hkl;have HK0:=hid (Qb w4 (.cells kc0 299 (0,0)));have hf0:(((w4.alloc (.cells kc0 299 (0,0))).alloc (.cells #[.int .i64 0,.int .i64 0] 297 (0,0))).setRow w4.heap.size ((Qj s).map B8).toArray).heap[w4.heap.size+1]?=some (.cells #[.int .i64 0,.int .i64 0] 297 (0,0)):=by
    rw [setRow_other _ _ _ _ (by omega)];have:=Qb (w4.alloc (.cells kc0 299 (0,0))) (.cells #[.int .i64 0,.int .i64 0] 297 (0,0));rw [size_alloc] at this;exact this
   have z0:(((w4.alloc (.cells kc0 299 (0,0))).alloc (.cells #[.int .i64 0,.int .i64 0] 297 (0,0))).setRow w4.heap.size ((Qj s).map B8).toArray).cell? ⟨w4.heap.size+1,0,none⟩=some (.int .i64 0):=(Qa hf0).trans rfl;have z1:(((w4.alloc (.cells kc0 299 (0,0))).alloc (.cells #[.int .i64 0,.int .i64 0] 297 (0,0))).setRow w4.heap.size ((Qj s).map B8).toArray).cell? ⟨w4.heap.size+1,1,none⟩=some (.int .i64 0):=(Qa hf0).trans rfl;have y0:(((w4.alloc (.cells kc0 299 (0,0))).alloc (.cells #[.int .i64 0,.int .i64 0] 297 (0,0))).setRow w4.heap.size ((Qj s).map B8).toArray).frozen? ⟨w4.heap.size+1,0,none⟩=false:=Qf hf0;have y1:(((w4.alloc (.cells kc0 299 (0,0))).alloc (.cells #[.int .i64 0,.int .i64 0] 297 (0,0))).setRow w4.heap.size ((Qj s).map B8).toArray).frozen? ⟨w4.heap.size+1,1,none⟩=false:=Qf hf0;have HF0:=hid hf0;clear hf0;obtain ⟨q,hq⟩: ∃q,((64*k:Nat):Int)=q:=⟨_,rfl⟩;rw [hq] at hen;clear hkx hvk hen1 hiv hxo hxl hxv hrg4 hlt hf4 hsz4 hq HP HRG hs hkl;go_upto_region 8 with (first | (refine Qg rfl _ _ OZ rfl ?_) | (refine Qg rfl _ _ Qaq rfl ?_) | (refine Eo rfl _ _ rfl w4.heap.size (Qj s) HKL.out rfl rfl _ rfl (Ql _ HK0.out) ?_))
   have hb0:((((w4.alloc (.cells kc0 299 (0,0))).alloc (.cells #[.int .i64 0,.int .i64 0] 297 (0,0))).setRow w4.heap.size ((Qj s).map B8).toArray)).heap[w4.heap.size]?=some (.cells (Jb s) 299 (0,0)):=setRow_heap _ _ _ _ _ _ (Ql _ HK0.out);have hb1:=Qo (p:=⟨w4.heap.size+1,1,none⟩) (.int .i64 iv) (Qo (p:=⟨w4.heap.size+1,0,none⟩) (.int .i64 (64*(k:Int))) hb0 (show w4.heap.size≠w4.heap.size+1 by omega)) (show w4.heap.size≠w4.heap.size+1 by omega);have hb2:=Qh (i:=1) (.int .i64 iv) (Qh (i:=0) (.int .i64 (64*(k:Int))) HF0.out);have hf5:Frm NoB w4 ((((((w4.alloc (.cells kc0 299 (0,0))).alloc (.cells #[.int .i64 0,.int .i64 0] 297 (0,0))).setRow w4.heap.size ((Qj s).map B8).toArray)).setCell ⟨w4.heap.size+1,0,none⟩ (.int .i64 (64*(k:Int)))).setCell ⟨w4.heap.size+1,1,none⟩ (.int .i64 iv)):=
    (((((Frm.refl NoB w4).alloc _).alloc _).setRowNew (Nat.le_refl _) _).setCell (.inr (Nat.le_succ _)) _).setCell (.inr (Nat.le_succ _)) _
   obtain ⟨z5,hz5⟩: ∃z5,((((((w4.alloc (.cells kc0 299 (0,0))).alloc (.cells #[.int .i64 0,.int .i64 0] 297 (0,0))).setRow w4.heap.size ((Qj s).map B8).toArray)).setCell ⟨w4.heap.size+1,0,none⟩ (.int .i64 (64*(k:Int)))).setCell ⟨w4.heap.size+1,1,none⟩ (.int .i64 iv))=z5:=⟨_,rfl⟩;rw [hz5] at hb1 hb2 hf5 ⊢;obtain ⟨kb,hkb⟩: ∃kb,w4.heap.size=kb:=⟨_,rfl⟩;rw [hkb] at hb1 hb2 ⊢;have HSZ4:Hid (kb=wr.heap.size):=hid (hkb.symm.trans HSZ4.out);have HB1:=hid hb1;have HB2:=hid hb2;have HF5:=hid hf5;have HSW:=hid (show r+1≤z5.heap.size by have:=HSZ4.out;have:=hf5.size;omega);have HRG5:=hid (HRG4.out.frm hf5 (fun e=>e) (fun e=>e));have hfw:Frm NoB w2 z5:=(HF.out.trans HF4.out fun x hx e=>by have:x=r:=e;have:=HR.out;omega).trans hf5 fun _ _ e=>e
   have HFW:=hid hfw;have KW:Hid (∀z,Frm NoB z5 z→z.ownsRow (r+1) 202 2 v9 ss.length (YD ss)):=hid fun z hz=>by
    have h4:=Js HW.out (fun g hg=>(HF4.out.trans hf5 fun _ _ e=>e.elim).block g (HW.out.lt g hg).2 (fun e=>by have:g=r:=e;have:=(HW.out.lt g hg).1;omega));exact Js h4 (fun g hg=>hz.block g (h4.lt g hg).2 (fun e=>e))
   have KS:Hid (∀z,Frm NoB z5 z→z.rangeAt kb 0 ((Qj s).map B8)∧z.cell? ⟨kb+1,1,none⟩=some (.int .i64 iv)):=hid fun z hz=>
    ⟨Qhl ((hz.block kb (lt_of_block HB1.out) (fun e=>e)).trans HB1.out),(Qa ((hz.block (kb+1) (lt_of_block HB2.out) (fun e=>e)).trans HB2.out)).trans rfl⟩
   have HGL:Hid (∀g,v9.ownBlock=some g→g<kb):=hid fun g hg=>by have:=(HW.out.lt g hg).2;have:=HSZ4.out;omega
   have KS2:Hid (∀z w9,Frm NoB z5 z→(z.alloc (.cells #[.string s,.int .i64 iv] 202 (0,0))).grownBy w9 v9.ownBlock→w9.rangeAt kb 0 ((Qj s).map B8)∧w9.cell? ⟨kb+1,1,none⟩=some (.int .i64 iv)):=hid fun z w9 hz hg=>by
    have hf:=(hz.alloc (.cells #[.string s,.int .i64 iv] 202 (0,0)));have hg2:=Frm.ofGrown hg;have e1:=(hg2.block kb (lt_of_block ((hf.block kb (lt_of_block HB1.out) (fun e=>e)).trans HB1.out)) (fun e=>by have:=HGL.out kb e;omega)).trans ((hf.block kb (lt_of_block HB1.out) (fun e=>e)).trans HB1.out);have e2:=(hg2.block (kb+1) (lt_of_block ((hf.block (kb+1) (lt_of_block HB2.out) (fun e=>e)).trans HB2.out)) (fun e=>by have:=HGL.out (kb+1) e;omega)).trans ((hf.block (kb+1) (lt_of_block HB2.out) (fun e=>e)).trans HB2.out);exact ⟨Qhl e1,(Qa e2).trans rfl⟩
   have HTX:Hid (Calls prog 215 #[.agg ((Qj s).map B8).toArray] z5.drew fun e w'=>e= .returned (.string s)∧Frm NoB z5.drew w'):=hid (Qj3 z5.drew s HSS.out.2);obtain ⟨ii,hi0i,hz0,hz1,hz2⟩:=info_parts Qh9;have hi51:(prog.info? 299).map (·.size)=some ((Qj s).map B8).length:=by rw [List.length_map,HKL.out];kernel_rfl
   have hu51:=underlying299;have hfew:=HP2.out.few;rw [List.length_append] at hfew;have HFE:=hid (And.intro hfew HB.out.1);have KB:Hid (∀z,Frm NoB z5 z→r+1≤z.heap.size):=hid fun z hz=>Nat.le_trans HSW.out hz.size
   have HL1:Hid (ss.length+1≤maxLen):=hid (by have:=HFE.out;simp only [List.length_cons,List.length_nil] at this;simp only [maxLen];omega);have HL2:Hid ((ss.length+1)*24≤140737488355328):=hid (by have:=HFE.out;simp only [List.length_cons,List.length_nil] at this;omega);have HOW8:Hid (∀z,Frm NoB z5 z→(z.alloc (.cells #[.string s,.int .i64 iv] 202 (0,0))).ownsRow (r+1) 202 2 v9 ss.length (YD ss)):=hid fun z hz=>KW.out _ (hz.alloc _)
   have HFIN:Hid (∀z v' w9,Frm NoB z5 z→w9.ownsRow (r+1) 202 2 v' (ss.length+1) (YD ss++ [.string s,.int .i64 iv])→(z.alloc (.cells #[.string s,.int .i64 iv] 202 (0,0))).grownBy w9 v9.ownBlock→QG JA okK w9 mb r n (slM b (b.length/64)) (fun y=>left y∧y≠Qj s) cnt4∧Frm NoB w2 w9∧r+1≤w9.heap.size∧w9.ownsRow (r+1) 202 2 v' (ss++ [(⟨s,(iv:Int)⟩:En)]).length (YD (ss++ [(⟨s,(iv:Int)⟩:En)]))):=hid fun z v' w9 hz ho hg=>by
    have hg2:=Frm.ofGrown hg;have hz2:=hz.alloc (.cells #[.string s,.int .i64 iv] 202 (0,0));have hown: ∀g,v9.ownBlock=some g→r+1≤g:=fun g hg=>((KW.out _ hz).lt g hg).1
    refine ⟨(HRG5.out.frm hz2 (fun e=>e) (fun e=>e)).frm hg2 (fun e=>?_) (fun e=>?_),(HFW.out.trans hz2 fun _ _ e=>e).trans hg2 fun x hx e=>?_,?_,?_⟩
    ·have:=hown mb e;have:=HMBL.out;omega
    ·have:=hown r e;omega
    ·have:=hown x e;have:=HR.out;omega
    ·have:=hg2.size;have:=hz2.size;have:=HSW.out;omega
    ·rw [Qfh,List.length_append];exact ho
   have HONE:Hid (∀u∈([.string s,.int .i64 iv]:List Value),u.oneCell'=true):=hid (by simp [Value.oneCell']);have HPOS:Hid (0<2):=hid (by decide);obtain ⟨k1,k2⟩:=KS.out z5 (Frm.refl _ _);clear hi51;have hi51:(prog.info? 299).map (·.size)=some ((Qj s).map B8).length:=by rw [List.length_map,HKL.out];kernel_rfl
   go_region_held3 (fun y=>y.rangeAt kb 0 ((Qj s).map B8)∧y.cell? ⟨kb+1,1,none⟩=some (.int .i64 iv))
    (first | exact KS.out _ (Frm.refl _ _) | exact KS.out _ (Frm.refl _ _).drew | exact KS.out _ hf8 | exact KS.out _ (hf8.alloc _) | exact KS2.out _ _ hf8 hg)
    (first
     | (go_at_call 215;(with_reducible refine HTX.out.mono ?_);rintro e w8 ⟨rfl,hf8'⟩;have hf8:=(Frm.refl NoB z5).drew.trans hf8' (fun _ _ e=>e))
     | (refine Y9 rfl _ _ 198 rfl (r+1) 202 ii (.agg (enz ByteArray.empty 0)) 2 24 underlying198 hi0i hz0 hz1 hz2 rfl HPOS.out _ _ _ rfl (HOW8.out _ hf8) ⟨w8.heap.size,0,none⟩ 1 1 [.string s,.int .i64 iv] rfl rfl (Qen _ _ _ _) HONE.out HL1.out HL2.out (KB.out _ (hf8.alloc _)) ?_;intro v' w9 ho hg hat;have h9:=HFIN.out _ _ _ hf8 ho hg)
     | fail)
   have H9:=hid h9;clear h9 ho hg hat hf8 hf8' k1 k2;go_wp2
   first
    | exact ⟨⟨_,cnt4,_,v',rfl,hid H9.out.1,hid H9.out.2.1,H9.out.2.2.1,hid H9.out.2.2.2,HP2⟩,by rw [H9.out.1.left_eq,HLT.out.2];exact HLT.out.1⟩
    | (go_roundw
       case rel=>exact ⟨_,cnt4,_,v',rfl,hid H9.out.1,hid H9.out.2.1,H9.out.2.2.1,hid H9.out.2.2.2,HP2⟩
       case measure=>rw [H9.out.1.left_eq,HLT.out.2];exact HLT.out.1)
structure YK (A:Path→Option Nd) (p:Path) (ns:List ByteArray):Prop where
 mem: ∀s,s∈ns↔A (p++ [s])≠none
 nm: ∀s∈ns,NmS s
 asc:ns.Pairwise fun x y=>QD x y=true
theorem YK.of {X:Sys} {A:Path→Option Nd} {ι:Path→Nat} (h:Rep X A ι) {p:Path} {m:Nat} (hp:A p=some (.dir m)) {ss:List En} (he:Qc8 (X.bytes (ι p)) ss):YK A p (ss.map (·.nm)):=by
 refine ⟨fun s=>?_,fun s hs=>?_,?_⟩
 ·rw [List.mem_map];constructor
  ·rintro ⟨x,hx,rfl⟩;obtain ⟨hn,i,_,hi⟩:=he.nm x hx;obtain ⟨t,ht,hk,hA⟩:=h.name p m hp (Qj x.nm) (by rw [hi];exact fun e=>by cases e);rw [JO _ _ hn.2 ht.2 hk];exact hA
  ·intro hA;have hn:=(h.up p s hA).1;have hl:=h.leads p s hA;exact he.all s hn (by rw [hl];exact fun e=>by cases e)
 ·obtain ⟨x,hx,rfl⟩:=List.mem_map.1 hs;exact (he.nm x hx).1
 ·rw [List.pairwise_map];exact he.asc
theorem YK.uniq {A:Path→Option Nd} {p:Path} {ns ms:List ByteArray} (h:YK A p ns) (hm: ∀s,s∈ms↔A (p++ [s])≠none) (ha:ms.Pairwise fun x y=>QD x y=true):ns=ms:=by
 have nd: ∀l:List ByteArray,(l.Pairwise fun x y=>QD x y=true)→l.Nodup:=fun l hl=>hl.imp fun hx e=>by rw [e,J0] at hx;cases hx
 have hp:ns.Perm ms:=(List.perm_ext_iff_of_nodup (nd _ h.asc) (nd _ ha)).2 fun s=>(h.mem s).trans (hm s).symm
 exact hp.eq_of_pairwise (le:=fun x y=>QD y x=false) (fun a b _ _ h1 h2=>UL h2 h1) (h.asc.imp fun hl=>U6 hl) (ha.imp fun hl=>U6 hl)
theorem YV {W:World} {base:Nat} {t:TypeId} {s g n cap:Nat} {xs:List Value} (h:W.ownsRow base t s (.slice (some ⟨g,0,none⟩) n cap) n xs) {j:Nat} {u:Value} (hj:xs[j]?=some u):W.cell? ⟨g,j,none⟩=some u:=by
 rcases h.2 with ⟨h1,_⟩ | ⟨g',cap',cur,h1,_,hg,_,_,_,ht⟩
 ·cases h1
 ·injection h1 with h1 h2 h3
  injection h1 with h1
  injection h1 with h1
  subst h1;refine (Qa hg).trans ?_;rw [←ht,List.getElem?_take] at hj;split at hj
  ·rw [←Array.getElem?_toList];exact hj
  ·cases hj
theorem JP {W:World} {base:Nat} {t:TypeId} {s:Nat} {v:Value} {n:Nat} {xs:List Value} (h:W.ownsRow base t s v n xs): ∃a c,v= .slice a n c∧n≤c∧(0<n→∃g,a=some ⟨g,0,none⟩):=by
 rcases h.2 with ⟨rfl,rfl⟩ | ⟨g,cap,cur,rfl,_,_,hn,_⟩
 ·exact ⟨none,0,rfl,Nat.le_refl _,fun h=>absurd h (by omega)⟩
 ·exact ⟨_,_,rfl,hn,fun _=>⟨g,rfl⟩⟩
theorem QeC: ∀(ss:List En) (i:Nat) (x:En),ss[i]?=some x→(YD ss)[i*2]?=some (.string x.nm)∧(YD ss)[i*2+1]?=some (.int .i64 x.ino)
 | [],i,x,h=>by cases h
 | a::r,0,x,h=>by cases h;exact ⟨rfl,rfl⟩
 | a::r,i+1,x,h=>by
   have e:YD (a::r)= [.string a.nm,.int .i64 a.ino]++YD r:=rfl;have:=QeC r i x h;rw [e];constructor
   ·rw [List.getElem?_append_right (by simp;omega)];rw [←this.1];congr 1;simp;omega
   ·rw [List.getElem?_append_right (by simp;omega)];rw [←this.2];congr 1;simp;omega
theorem Qc8.few {b:Blk} {ss:List En} (h:Qc8 b ss):ss.length≤b.length/64:=by
 have hnd:(ss.map fun x=>Qj x.nm).Nodup:=by
  rw [List.Nodup,List.pairwise_map];rw [List.pairwise_iff_getElem];intro i j hi hj hij e;have h1:=List.pairwise_iff_getElem.1 h.asc i j hi hj hij;rw [JO _ _ (h.nm _ (List.getElem_mem hi)).1.2 (h.nm _ (List.getElem_mem hj)).1.2 e,J0] at h1;cases h1
 have:=Ux (slK b) (b.length/64) (ss.map fun x=>Qj x.nm) hnd fun a ha=>by
  obtain ⟨x,hx,rfl⟩:=List.mem_map.1 ha;obtain ⟨_,i,_,he⟩:=h.nm x hx;unfold JJ at he;cases hk:slX b (b.length/64) (Qj x.nm) with
  | none=>rw [hk] at he;cases he
  | some k=>
    obtain ⟨q1,_,q2⟩:=Kz b _ _ k hk;exact ⟨k,q1,q2⟩
 rw [List.length_map] at this;exact this
theorem QgM:(prog.info? 9).map (fun i=>(i.zero,i.size,i.bytes))=some (some (.string ByteArray.empty),1,16):=by kernel_rfl
variable {F:FH} {A:Path→Option Nd} {ι:Path→Nat}
theorem Fs.rowAt (h:Fs w0 w F X A ι rs) {i:Nat} {t:TypeId} {ht: ¬U8T t} {s n:Nat} {v:Value} {xs:List Value} (hr:rs[i]?=some (QW t ht s v n xs)):w.ownsRow 0 t s v n xs:=by
 obtain ⟨⟨k,l,ha,hl⟩,hp⟩:=h;exact ha.1.get (i:=i+3) hr
theorem Fs.rowAppend (h:Fs w0 w F X A ι rs) (i:Nat) {t:TypeId} {ht: ¬U8T t} {s n:Nat} {v:Value} {xs:List Value} (hr:rs[i]?=some (QW t ht s v n xs)) (o:Obj) {v':Value} {w':World} {m:Nat} {ys:List Value}
 (ho:w'.ownsRow 0 t s v' m ys) (hg:(w.alloc o).grownBy w' v.ownBlock) (hat:v'.ownBlock=v.ownBlock∨v'.ownBlock=some (w.alloc o).heap.size):Fs w0 w' F X A ι (rs.set i (QW t ht s v' m ys)):=by
 obtain ⟨⟨k,l,ha,hl⟩,hp⟩:=h;exact ⟨⟨k,l,⟨ha.1.rowAppend (i+3) hr o ho hg hat,ha.2⟩,hl⟩,hp⟩
theorem Fs.rowNil (h:Fs w0 w F X A ι rs) (t:TypeId) (ht: ¬U8T t) (s:Nat):Fs w0 w F X A ι (QW t ht s (.slice none 0 0) 0 []::rs):=by
 obtain ⟨⟨k,l,ha,hl⟩,hp⟩:=h;refine ⟨⟨k,l,⟨?_,ha.2⟩,hl⟩,hp⟩;exact (ha.1.rowNil t ht s).perm ((List.Perm.swap _ _ _).trans (((List.Perm.swap _ _ _).trans ((List.Perm.swap _ _ _).cons _)).cons _))
theorem QdN (h:Fs w0 w F X A ι rs) {p:Path} {m:Nat} (hp:A p=some (.dir m)) (h0:p≠ []) (hns: ∀x∈p,Qy x) (h8:p.length≤8):
 Calls prog 56 #[.pointer (some ⟨F.fb,0,none⟩),.string (Qd p)] w fun e w'=> ∃v ns,e= .returned (.tuple #[v,.int .i64 0])∧YK A p ns∧Fs w0 w' F X A ι (QW 9 QZ 1 v ns.length (ns.map .string)::rs):=by
 have hl:=On h p h0 hns h8 (fun k hk _=>h.2.pre (by rw [hp];exact fun e=>by cases e) (p.length-k) k (by omega) (by omega));have e1:Yu A ι p= .tuple #[.int .i64 (ι p),.agg #[.int .i64 2,.int .i64 m],.int .i64 0]:=by unfold Yu;rw [hp];rfl
 rw [e1] at hl;have HL:=hid hl;have hlv:=h.2.live p _ hp;have KD:Hid (∀y rs',Fs w0 y F X A ι rs'→Calls prog 126 #[.pointer (some ⟨X.sb,0,none⟩),.int .i64 (ι p)] y fun e w'=> ∃v ss,e= .returned (.tuple #[v,.int .i64 0])∧Qc8 (X.bytes (ι p)) ss∧Fs w0 w' F X A ι (QW 202 Qfu 2 v ss.length (YD ss)::rs')):=hid fun y rs' hy=>by
  obtain ⟨⟨k,l,ha,hl⟩,hr⟩:=hy;refine (Qgn ha hr.ok (ι p) hlv.1 hlv.2.1 _ rfl (hr.dir p m hp).whole (fun a ha=>by
   obtain ⟨s,q1,q2,_⟩:=hr.name p m hp a ha;exact ⟨s,q1,q2⟩)).mono ?_
  rintro e w' ⟨v,ss,he,hen,h'⟩;exact ⟨v,ss,he,hen,⟨k,l,h'.perm ((List.Perm.swap _ _ _).trans ((List.Perm.swap _ _ _).cons _)),hl⟩,hr⟩
 have HR:=hid (And.intro h.2 hp);clear h hp h0 hns h8 hl e1 hlv;generalize Qd p=path at*
 generalize hd:ι p=d at*
 go_enter func56,ntmps56;go_wp2_with fail;refine HL.out.mono ?_;clear HL;rintro e w2 ⟨rfl,h2⟩;have c0:w2.cell? ⟨F.fb,2,none⟩=some (.pointer (some ⟨X.sb,0,none⟩)):=(h2.cells 2).trans rfl;have h3:=h2.newArr #[.int .i64 2,.int .i64 m] 82 J9;have c1:(w2.alloc (.cells #[.int .i64 2,.int .i64 m] 82 (0,0))).cell? ⟨F.fb,2,none⟩=some (.pointer (some ⟨X.sb,0,none⟩)):=(h3.cells 2).trans rfl;have HD:=hid (KD.out _ _ h3);clear h2 h3 KD;go_wp2_with fail;refine HD.out.mono ?_;clear HD c0 c1;rintro e w4 ⟨v,ss,rfl,hen,h4⟩;have h4:=h4.sub (rs':=QW 202 Qfu 2 v ss.length (YD ss)::rs) ((List.sublist_cons_self _ _).cons_cons _);obtain ⟨a,c,rfl,hnc,hag⟩:=JP (h4.rowAt (i:=0) rfl);have HN:=hid (YK.of HR.out.1 HR.out.2 (by rw [hd];exact hen));have HAG:=hid (And.intro hnc hag);have H4:=hid (h4.rowNil 9 QZ 1);have hfew:=Qc8.few hen;have HFEW:Hid (ss.length≤100):=hid (by
  have hb:=Jr X d;have:=HR.out.1.ok.size (ι p) (HR.out.1.live p _ HR.out.2).1;rw [hd] at this;omega)
 have n0:(0:Int)≤(ss.length:Int):=Qk _;have n1:(ss.length:Int)≤100:=by have:=HFEW.out;omega
 clear h4 hen hnc hag hfew;go_wp2_with fail;go_loopw [10,37] (fun t10 t37 wr=> ∃(i:Nat) (v9:Value),i≤ss.length∧v9=t10∧t37= .int .i64 i∧Hid (Fs w0 wr F X A ι (QW 9 QZ 1 v9 i ((ss.take i).map fun x=> .string x.nm)::QW 202 Qfu 2 (.slice a ss.length c) ss.length (YD ss)::rs))) (fun _ t37 _=>ss.length-(intOf t37).toNat)
 case atStart=>exact ⟨0,_,Nat.zero_le _,rfl,rfl,H4⟩
 case round=>
  clear H4;obtain ⟨i,v9,hi,rfl,rfl,H⟩:=hrel;have i0:(0:Int)≤(i:Int):=Qk _;by_cases hlt:i<ss.length
  ·obtain ⟨g,rfl⟩:=HAG.out.2 (by omega);have i1:(i:Int)<(ss.length:Int):=by omega
   obtain ⟨x,hx⟩: ∃x,ss[i]?=some x:=⟨_,List.getElem?_eq_getElem hlt⟩;obtain ⟨nm,ino⟩:=x;have hr:=H.out.rowAt (i:=1) rfl;have ex:=QeC ss i _ hx;have k0:wr.cell? ⟨g,i*2,none⟩=some (.string nm):=YV hr ex.1;have k1:wr.cell? ⟨g,i*2+1,none⟩=some (.int .i64 ino):=YV hr ex.2;have hc:(ss.length:Int)≤(c:Int):=by have:=HAG.out.1;omega
   have HX:=hid hx;clear hr ex hx;go_upto_region 11 with fail
   have h5:=H.out.newArr #[.string nm,.int .i64 ino] 202 Qfu;obtain ⟨y5,hy5⟩: ∃y5,wr.alloc (.cells #[.string nm,.int .i64 ino] 202 (0,0))=y5:=⟨_,rfl⟩;rw [hy5] at h5 ⊢;generalize wr.heap.size=eb at*
   have d0:y5.cell? ⟨eb,0,none⟩=some (.string nm):=(h5.arrCell (i:=0) rfl 0).trans rfl;have HO:=hid (World.ownsRow.alloc (h5.rowAt (i:=1) rfl) (.cells #[.string nm] 9 (0,0)));have H5:=hid h5;have HNEW:=hid (EV y5 (.string nm) 9);obtain ⟨ii,hi0i,hz0,hz1,hz2⟩:=info_parts QgM;clear h5 hy5 k0 k1 H hc;go_wp2_with (at_builtin;refine wpList_append_own_at _ rfl _ _ 70 rfl 0 9 ii (.string ByteArray.empty) 1 16 underlying70 hi0i hz0 hz1 hz2 rfl (by decide) _ _ _ rfl HO.out ⟨y5.heap.size,0,none⟩ 1 1 [.string nm] rfl rfl HNEW.out ?qa0 ?qa1 ?qa2 ?qa3 ?_)
   case qa0=>first | exact ⟨rfl,rfl⟩ | (intro x hx;simp at hx;rcases hx with rfl;rfl)
   case qa1=>have:=HFEW.out;simp only [maxLen];omega
   case qa2=>have:=HFEW.out;omega
   try case qa3=>omega
   intro v' w6 ho hg hnn hat;have h7:=H5.out.rowAppend 1 rfl (.cells #[.string nm] 9 (0,0)) (m:=i+1) (ys:=(ss.take i).map (fun x=>Value.string x.nm)++ [.string nm]) (by first | exact ho | (rw [List.map_take];exact ho)) hg (by rw [size_alloc];exact hat);have e7:(ss.take (i+1)).map (fun x=>Value.string x.nm)=(ss.take i).map (fun x=>Value.string x.nm)++ [.string nm]:=by
    obtain ⟨h1,h2⟩:=List.getElem?_eq_some_iff.1 HX.out;rw [List.take_succ_eq_append_getElem h1,h2,List.map_append];rfl
   rw [←e7] at h7;have H7:=hid (h7.drop 1);clear ho hg hnn hat h7 e7 HO HNEW H5 d0;go_wp2
   first
    | exact ⟨⟨i+1,v',hlt,rfl,by go_num,H7⟩,by simp [intOf];omega⟩
    | (go_roundw
       case rel=>exact ⟨i+1,v',hlt,rfl,by go_num,H7⟩
       case measure=>simp [intOf];omega)
  ·obtain rfl:i=ss.length:=by omega
   have h8:=H.out;rw [List.take_length] at h8;have H8:=hid (h8.sub (rs':=QW 9 QZ 1 v9 ss.length (ss.map fun x=> .string x.nm)::rs) ((List.sublist_cons_self _ _).cons_cons _));clear h8 H;go_wp2_with fail;go_ret2;refine ⟨v9,ss.map (·.nm),rfl,HN.out,?_⟩;rw [List.length_map,List.map_map];exact H8.out
theorem JT {ty:TypeId} {w:World} {base g n cap:Nat} {L:List Tp} (h:w.ownsRow base ty 8 (.slice (some ⟨g,0,none⟩) n cap) n (QI L)) {i:Nat} {nm:ByteArray} {p1 p2 p3 p4 p5 p7:Int} {p6:Bool} (hi:L[i]?=some ⟨nm,p1,p2,p3,p4,p5,p6,p7⟩) {k:Nat} (hk:i*8=k):
 w.cell? ⟨g,k,none⟩=some (.string nm)∧w.cell? ⟨g,k+1,none⟩=some (.int .i64 p1)∧w.cell? ⟨g,k+2,none⟩=some (.int .i64 p2)∧w.cell? ⟨g,k+3,none⟩=some (.int .i64 p3)∧w.cell? ⟨g,k+4,none⟩=some (.int .i64 p4)∧
 w.cell? ⟨g,k+5,none⟩=some (.int .i64 p5)∧w.cell? ⟨g,k+6,none⟩=some (.bool p6)∧w.cell? ⟨g,k+7,none⟩=some (.int .i64 p7):=by
 have hil:i<L.length:=(List.getElem?_eq_some_iff.1 hi).1;have hc: ∀j,j<8→w.cell? ⟨g,k+j,none⟩=some ((QI L)[k+j]!):=fun j hj=>by
  have hlt:k+j<(QI L).length:=by rw [QO];omega
  have:=h.cells (g:=g) rfl (k+j) _ (List.getElem?_eq_getElem hlt);have e:(⟨g,0,none⟩:Addr).add (k+j)=⟨g,k+j,none⟩:=by unfold Addr.add;split<;>simp_all
  rw [e] at this;rw [this,getElem!_pos (QI L) (k+j) hlt]
 have hv: ∀j,j<8→(QI L)[k+j]! =((tpz nm p1 p2 p3 p4 p5 p6 p7).toList)[j]!:=fun j hj=>by
  rw [ET L (k+j) (by omega),show (k+j)/8=i by omega,show (k+j)%8=j by omega,getElem!_pos L i hil,(List.getElem?_eq_some_iff.1 hi).2];rfl
 refine ⟨?_,?_,?_,?_,?_,?_,?_,?_⟩
 ·rw [←Nat.add_zero k,hc 0 (by omega),hv 0 (by omega)];rfl
 ·rw [hc 1 (by omega),hv 1 (by omega)];rfl
 ·rw [hc 2 (by omega),hv 2 (by omega)];rfl
 ·rw [hc 3 (by omega),hv 3 (by omega)];rfl
 ·rw [hc 4 (by omega),hv 4 (by omega)];rfl
 ·rw [hc 5 (by omega),hv 5 (by omega)];rfl
 ·rw [hc 6 (by omega),hv 6 (by omega)];rfl
 ·rw [hc 7 (by omega),hv 7 (by omega)];rfl
theorem QiJ {w w':World} {base n size:Nat} {e:TypeId} {v:Value} {xs:List Value} (h:w.ownsRow base e size v n xs) (hf:Frm NoB w w'):w'.ownsRow base e size v n xs:=by
 refine ⟨h.1,?_⟩;rcases h.2 with h | ⟨g,cap,cur,h1,h2,h3,h4⟩
 ·exact .inl h
 ·exact .inr ⟨g,cap,cur,h1,h2,(hf.block g (lt_of_block h3) (fun e=>e)).trans h3,h4⟩
theorem QdQ {p:Tp→Bool} {L:List Tp} {i:Nat} {t:Tp} (h:L[i]?=some t) (hp:p t=true) (hn: ∀j x,j<i→L[j]?=some x→p x=false):L.find? p=some t:=by
 induction L generalizing i with
 | nil=>simp at h
 | cons y L ih=>
   cases i with
   | zero=>
     simp at h;subst h;rw [List.find?_cons,hp]
   | succ i=>
     rw [List.find?_cons,hn 0 y (by omega) rfl];exact ih (by simpa using h) fun j x hj hx=>hn (j+1) x (by omega) (by simpa using hx)
structure Ya (w:World) (mb:Nat) (a:Option Addr) (c:Nat) (L:List Tp) (next:Int):Prop where
 cat:w.heap[mb]?=some (.cells #[.slice a L.length c,.int .i64 next] 111 (0,0))
 row:w.ownsRow 0 45 8 (.slice a L.length c) L.length (QI L)
theorem Ya.frm {w w':World} {mb c:Nat} {a:Option Addr} {L:List Tp} {next:Int} (h:Ya w mb a c L next) (hf:Frm NoB w w'):Ya w' mb a c L next:=
 ⟨(hf.block mb (lt_of_block h.cat) (fun e=>e)).trans h.cat,QiJ h.row hf⟩
theorem Ya.form {w:World} {mb c:Nat} {a:Option Addr} {L:List Tp} {next:Int} (h:Ya w mb a c L next) (h0:0<L.length): ∃g,a=some ⟨g,0,none⟩:=by
 obtain ⟨a',c',e,_,hg⟩:=JP h.row;injection e with e1 e2 e3
 subst e1;exact hg h0
theorem Ya.le {w:World} {mb c:Nat} {a:Option Addr} {L:List Tp} {next:Int} (h:Ya w mb a c L next):L.length≤c:=by
 obtain ⟨a',c',e,hc,_⟩:=JP h.row;injection e with e1 e2 e3
 subst e3;exact hc
theorem Qec (w:World) (mb c:Nat) (a:Option Addr) (L:List Tp) (next:Int) (h:Ya w mb a c L next) (hlen:L.length≤100) (nm:ByteArray):
 Calls prog 52 #[.pointer (some ⟨mb,0,none⟩),.string nm] w fun e w'=>e= .returned (Wm (L.find? fun t=>decide (t.nm=nm)))∧Frm NoB w w':=by
 have hb0:=Qb w (.cells (tp0) 45 (0,0));have hf0:=(Frm.refl NoB w).alloc (.cells (tp0) 45 (0,0));have hle:=h.le;have hr0:=h.frm hf0;obtain ⟨y,hy⟩: ∃y,w.alloc (.cells (tp0) 45 (0,0))=y:=⟨_,rfl⟩;obtain ⟨k,hk⟩: ∃k,w.heap.size=k:=⟨_,rfl⟩;have HK:=hid (show w.heap.size≤k by omega);rw [hy,hk] at hb0;rw [hy] at hf0 hr0;have c0:y.cell? ⟨mb,0,none⟩=some (.slice a L.length c):=(Qa hr0.cat).trans rfl;have HF:=hid hf0;have HB:=hid hb0;have HR:=hid hr0;have HY:=hid (And.intro hy hk);obtain ⟨o,ho⟩: ∃o,L.find? (fun t=>decide (t.nm=nm))=o:=⟨_,rfl⟩;rw [ho];have HO:=hid ho;have n2:(L.length:Int)≤100:=by omega
 have nc:(L.length:Int)≤(c:Int):=by omega
 clear hb0 hf0 hr0 hy hk h hle hlen ho;go_enter func52,ntmps52;go_upto_region 1 with (refine Qg rfl _ _ V9 rfl ?_)
 rw [HY.out.1,HY.out.2];clear HY;go_wp2_with fail;go_loopw [6] (fun t6 wr=> ∃i:Nat,t6= .int .i64 i∧i≤L.length∧y=wr∧Hid (∀j t,j<i→L[j]?=some t→t.nm≠nm)) (fun t6 _=>L.length-(intOf t6).toNat)
 case atStart=>exact ⟨0,rfl,Nat.zero_le _,rfl,hid fun j t hj=>absurd hj (Nat.not_lt_zero _)⟩
 case round=>
  obtain ⟨i,rfl,hi,rfl,HN⟩:=hrel;have i0:(0:Int)≤(i:Int):=Qk _;by_cases hlt:i<L.length
  ·obtain ⟨⟨x0,x1,x2,x3,x4,x5,x6,x7⟩,ht⟩: ∃t,L[i]?=some t:=⟨_,List.getElem?_eq_getElem hlt⟩;obtain ⟨g,rfl⟩:=HR.out.form (by omega);obtain ⟨kk,hkk⟩: ∃kk,i*8=kk:=⟨_,rfl⟩;obtain ⟨d0,d1,d2,d3,d4,d5,d6,d7⟩:=JT HR.out.row ht hkk;have i1:(i:Int)<(L.length:Int):=by omega
   have HT:=hid (And.intro ht hkk);by_cases he:x0=nm
   ·subst he;have hfd:o=some ⟨x0,x1,x2,x3,x4,x5,x6,x7⟩:=by
     rw [←HO.out];exact QdQ ht (by simp) fun j t hj hjt=>by simpa using HN.out j t hj hjt
    have HFD:=hid hfd;clear hfd HN ht;go_wp2_with (refine JV rfl _ _ rfl k x0 x1 x2 x3 x4 x5 x6 x7 rfl rfl _ rfl HB.out ?_);have hb1:=setRow_heap _ _ _ (tpz x0 x1 x2 x3 x4 x5 x6 x7) _ _ HB.out;have hld:=run_loadVar_row (P:=prog) _ k 45 45 (tpz x0 x1 x2 x3 x4 x5 x6 x7) (0,0) _ hb1 underlying45 rfl (Eb _ _ _ _ _ _ _ _)
    (try simp only [Exit.inBlock,Exit.then])
    exact bodyPost_ret (v:= .tuple #[.agg (tpz x0 x1 x2 x3 x4 x5 x6 x7),.bool true]) (Qx results52 _ _ ⟨k,0,none⟩ rfl _ hld) rfl ⟨by rw [HFD.out];rfl,HF.out.setRowNew HK.out _⟩
   ·have HN2:Hid (∀j t,j<i+1→L[j]?=some t→t.nm≠nm):=hid fun j t hj hjt=>by
     rcases Nat.lt_or_ge j i with h | h
     ·exact HN.out j t h hjt
     ·obtain rfl:j=i:=by omega
      rw [HT.out.1] at hjt;injection hjt with hjt
      subst hjt;exact he
    have hne2: ¬x0.toList=nm.toList:=fun e=>he (toList_inj e)
    have hne3:(x0.toList==nm.toList)=false:=by simpa using hne2
    clear ht HN;go_wp2_with fail;exact ⟨⟨i+1,by go_num,hlt,trivial,HN2⟩,by simp [intOf];omega⟩
  ·obtain rfl:i=L.length:=by omega
   have hfd:o=none:=by
    rw [←HO.out];refine List.find?_eq_none.2 fun t ht=>?_
    obtain ⟨j,hj,rfl⟩:=List.getElem_of_mem ht;have:=HN.out j _ hj (List.getElem?_eq_getElem hj);rw [decide_eq_false this];simp
   have HFD:=hid hfd;clear hfd;go_wp2_with (refine JV rfl _ _ rfl k ByteArray.empty 0 0 0 0 0 false 0 rfl rfl _ rfl HB.out ?_);have hb1:=setRow_heap _ _ _ (tp0) _ _ HB.out;have hld:=run_loadVar_row (P:=prog) _ k 45 45 (tp0) (0,0) _ hb1 underlying45 rfl (Eb _ _ _ _ _ _ _ _)
   (try simp only [Exit.inBlock,Exit.then])
   exact bodyPost_ret (v:= .tuple #[.agg (tp0),.bool false]) (Qx results52 _ _ ⟨k,0,none⟩ rfl _ hld) rfl ⟨by rw [HFD.out];rfl,HF.out.setRowNew HK.out _⟩
theorem WW {L:List Tp}: ∀u∈QI L,u.oneCell'=true:=fun u hu=>by
 unfold QI at hu;obtain ⟨t,_,h⟩:=List.mem_flatMap.1 hu;have:u= .string t.nm∨u= .int .i64 t.id∨u= .int .i64 t.parts∨u= .int .i64 t.seg∨u= .int .i64 t.byt∨u= .int .i64 t.age∨u= .bool t.comp∨u= .int .i64 t.delay:=by simpa [Tp.cells,tpz] using h
 rcases this with rfl | rfl | rfl | rfl | rfl | rfl | rfl | rfl<;>rfl
theorem VO (L M:List Tp):QI (L++M)=QI L++QI M:=by unfold QI;rw [List.flatMap_append]
theorem Qi0 {L A B C:List Tp} (h:L=A++B++C) {j:Nat} {u:Value} (hu:(QI B)[j]?=some u):(QI L)[A.length*8+j]?=some u:=by
 rw [h,VO,VO,List.append_assoc,List.getElem?_append_right (by rw [QO];omega),QO,Nat.add_sub_cancel_left,List.getElem?_append_left (List.getElem?_eq_some_iff.1 hu).1];exact hu
theorem QcW {w:World} {base g n c:Nat} {ty:TypeId} {L A B C:List Tp} (h:w.ownsRow base ty 8 (.slice (some ⟨g,0,none⟩) n c) n (QI L)) (hL:L=A++B++C) {o:Nat} (ho:A.length*8=o): ∀j u,(QI B)[j]?=some u→w.cell? ((⟨g,o,none⟩:Addr).add j)=some u:=fun j u hu=>by
 have:=YV h (Qi0 hL hu);rw [ho] at this;rw [show (⟨g,o,none⟩:Addr).add j=⟨g,o+j,none⟩ from by unfold Addr.add;split<;>simp_all];exact this
theorem QcT (w:World) (mb c:Nat) (a:Option Addr) (L:List Tp) (next:Int) (h:Ya w mb a c L next) (hlen:L.length≤100) (nm:ByteArray):
 Calls prog 26 #[.pointer (some ⟨mb,0,none⟩),.string nm] w fun e w'=>
  ((∀t∈L,t.nm≠nm)∧e= .returned (.int .i64 4)∧Frm NoB w w')∨
  (∃i t,L[i]?=some t∧t.nm=nm∧e= .returned (.int .i64 0)∧∃a' c',Ya w' mb a' c' (L.eraseIdx i) next∧w'.ownsRow w.heap.size 45 8 (.slice a' (L.eraseIdx i).length c') (L.eraseIdx i).length (QI (L.eraseIdx i))∧Frm (Q0 mb) w w'):=by
 have hle:=h.le;have c0:w.cell? ⟨mb,0,none⟩=some (.slice a L.length c):=(Qa h.cat).trans rfl;have HR:=hid h;have n2:(L.length:Int)≤100:=by omega
 have nc:(L.length:Int)≤(c:Int):=by omega
 have HLN:=hid hlen;clear h hle hlen;go_enter func26,ntmps26;go_wp2_with fail;go_loopw [5,6] (fun t5 _ wr=> ∃i:Nat,t5= .int .i64 i∧i≤L.length∧w=wr∧Hid (∀j t,j<i→L[j]?=some t→t.nm≠nm)) (fun t5 _ _=>L.length-(intOf t5).toNat)
 case atStart=>exact ⟨0,rfl,Nat.zero_le _,rfl,hid fun j t hj=>absurd hj (Nat.not_lt_zero _)⟩
 case round=>
  obtain ⟨i,rfl,hi,rfl,HN⟩:=hrel;have i0:(0:Int)≤(i:Int):=Qk _;by_cases hlt:i<L.length
  ·obtain ⟨⟨x0,x1,x2,x3,x4,x5,x6,x7⟩,ht⟩: ∃t,L[i]?=some t:=⟨_,List.getElem?_eq_getElem hlt⟩;obtain ⟨g,rfl⟩:=HR.out.form (by omega);obtain ⟨kk,hkk⟩: ∃kk,i*8=kk:=⟨_,rfl⟩;obtain ⟨d0,d1,d2,d3,d4,d5,d6,d7⟩:=JT HR.out.row ht hkk;have i1:(i:Int)<(L.length:Int):=by omega
   have i2:(i:Int)≤(c:Int):=by omega
   have i3:(i:Int)+1≤(L.length:Int):=by omega
   have HT:=hid (And.intro ht hkk);by_cases he:x0=nm
   ·subst he;obtain ⟨ii,hi0i,hz0,hz1,hz2⟩:=info_parts QeH;have hsp:L=L.take i++([⟨x0,x1,x2,x3,x4,x5,x6,x7⟩]++L.drop (i+1)):=by
     rw [List.singleton_append];obtain ⟨q1,q2⟩:=List.getElem?_eq_some_iff.1 ht;rw [←q2,List.getElem_cons_drop,List.take_append_drop]
    have hlt1:(L.take i).length=i:=by rw [List.length_take];omega
    have HN1:=hid (QcW (A:= []) (B:=L.take i) (C:= [⟨x0,x1,x2,x3,x4,x5,x6,x7⟩]++L.drop (i+1)) HR.out.row (by rw [List.nil_append];exact hsp) (o:=0) rfl);have HLT:=hid (And.intro hlt1 (And.intro hlt hsp));have HMB:=hid (lt_of_block HR.out.cat);clear HN ht hsp hlt1 d1 d2 d3 d4 d5 d6 d7 hlt hi;go_wp2_with (at_builtin;refine wpList_append_own_at _ rfl _ _ 109 rfl w.heap.size 45 ii (.agg (tp0)) 8 72 underlying109 hi0i hz0 hz1 hz2 rfl (by decide) _ 0 [] rfl (World.ownsRow_nil _ _ _ _) ⟨g,0,none⟩ i c (QI (L.take i)) rfl ?ra0 HN1.out WW ?ra1 ?ra2 ?ra3 ?_)
    case ra0=>rw [QO,HLT.out.1]
    case ra1=>have:=HLN.out;have:=HLT.out.2.1;simp only [maxLen];omega
    case ra2=>have:=HLN.out;have:=HLT.out.2.1;omega
    case ra3=>exact Nat.le_refl _
    intro v1 w1 ho1 hg1 _ _;have hf1:Frm NoB w w1:=(Frm.ofGrown hg1).mono fun x _ e=>by cases e
    have hr1:=HR.out.frm hf1;have HN2:=hid (QcW (A:=L.take i++ [⟨x0,x1,x2,x3,x4,x5,x6,x7⟩]) (B:=L.drop (i+1)) (C:= []) hr1.row (by rw [List.append_nil,List.append_assoc];exact HLT.out.2.2) (o:=(i+1)*8) (by rw [List.length_append,HLT.out.1];rfl));have c1:w1.cell? ⟨mb,0,none⟩=some (.slice (some ⟨g,0,none⟩) L.length c):=(Qa hr1.cat).trans rfl;have HO1:=hid (And.intro ho1 (And.intro hf1 hr1));clear ho1 hg1 hf1 hr1 HN1 c0 d0;rcases Nat.lt_or_ge (i+1) c with hcc | hcc
    ·have i4:(i:Int)+1<(c:Int):=by omega
     go_wp2_with (at_builtin;refine wpList_append_own_at _ rfl _ _ 109 rfl w.heap.size 45 ii (.agg (tp0)) 8 72 underlying109 hi0i hz0 hz1 hz2 rfl (by decide) v1 i (QI (L.take i)) rfl HO1.out.1 ⟨g,(i+1)*8,none⟩ (L.length-(i+1)) (c-(i+1)) (QI (L.drop (i+1))) rfl ?rb0 HN2.out WW ?rb1 ?rb2 ?rb3 ?_)
     case rb0=>rw [QO,List.length_drop]
     case rb1=>have:=HLN.out;simp only [maxLen];omega
     case rb2=>have:=HLN.out;omega
     case rb3=>exact HO1.out.2.1.size
     intro v2 w2 ho2 hg2 _ hat2;have hlt2:i+(L.length-(i+1))=(L.eraseIdx i).length:=by have:=HLT.out.2.1;rw [List.length_eraseIdx,if_pos (by omega)];omega
     have htp:QI (L.take i)++QI (L.drop (i+1))=QI (L.eraseIdx i):=by rw [List.eraseIdx_eq_take_drop_succ,VO]
     rw [hlt2,htp] at ho2;obtain ⟨a2,c2,rfl,hnc2,hag2⟩:=JP ho2;have hm2:w2.heap[mb]?=some (.cells #[.slice (some ⟨g,0,none⟩) L.length c,.int .i64 next] 111 (0,0)):=(hg2.block mb (lt_of_block HO1.out.2.2.cat) (fun e=>by
      have:=HMB.out;rcases HO1.out.1.2 with ⟨e1,_⟩ | ⟨x,_,_,e1,e2,_⟩
      ·rw [e1] at e;cases e
      ·rw [e1] at e;have e:some mb=some x:=e;injection e with e
       omega)).trans HO1.out.2.2.cat
     have e1:=Qh (i:=0) (.slice a2 (L.eraseIdx i).length c2) hm2;have hf2:Frm NoB w w2:=HO1.out.2.1.trans (Frm.ofGrown hg2) fun x hx e=>by
      rcases HO1.out.1.2 with ⟨e1,_⟩ | ⟨y,_,_,e1,e2,_⟩
      ·rw [e1] at e;cases e
      ·rw [e1] at e;have e:some y=some x:=e;injection e with e
       omega
     have hf3:Frm (Q0 mb) w (w2.setCell ⟨mb,0,none⟩ (.slice a2 (L.eraseIdx i).length c2)):=(hf2.mono (N:=Q0 mb) fun _ _ e=>e.elim).setCell (.inl (Q0.self mb)) _;have ho3:=Go.RowKit.ownsRow_setCell_below ho2 (a:=⟨mb,0,none⟩) HMB.out (.slice a2 (L.eraseIdx i).length c2);have HE:=hid (And.intro e1 (And.intro hf3 ho3));have m0:w2.cell? ⟨mb,0,none⟩=some (.slice (some ⟨g,0,none⟩) L.length c):=(Qa hm2).trans rfl;have f0:w2.frozen? ⟨mb,0,none⟩=false:=Qf hm2;clear hlt2 htp ho2 hg2 hat2 hnc2 hag2 hm2 e1 hf2 hf3 ho3 c1 HO1;go_wp2;go_ret;exact .inr ⟨i,_,HT.out.1,rfl,rfl,a2,c2,⟨HE.out.1,V0 HE.out.2.2 (Nat.zero_le _)⟩,HE.out.2.2,HE.out.2.1⟩
    ·obtain rfl:c=i+1:=by omega
     have HNIL:=hid (show L.drop (i+1)= [] from List.drop_eq_nil_of_le (by omega));go_wp2_with (at_builtin;refine wpList_append_own_at _ rfl _ _ 109 rfl w.heap.size 45 ii (.agg (tp0)) 8 72 underlying109 hi0i hz0 hz1 hz2 rfl (by decide) v1 i (QI (L.take i)) rfl HO1.out.1 ⟨g,0,none⟩ (L.length-(i+1)) 0 (QI (L.drop (i+1))) rfl ?rc0 (fun j u hu=>by rw [HNIL.out] at hu;simp [QI] at hu) WW ?rc1 ?rc2 ?rc3 ?_)
     case rc0=>rw [QO,List.length_drop]
     case rc1=>have:=HLN.out;simp only [maxLen];omega
     case rc2=>have:=HLN.out;omega
     case rc3=>exact HO1.out.2.1.size
     intro v2 w2 ho2 hg2 _ hat2;have hlt2:i+(L.length-(i+1))=(L.eraseIdx i).length:=by have:=HLT.out.2.1;rw [List.length_eraseIdx,if_pos (by omega)];omega
     have htp:QI (L.take i)++QI (L.drop (i+1))=QI (L.eraseIdx i):=by rw [List.eraseIdx_eq_take_drop_succ,VO]
     rw [hlt2,htp] at ho2;obtain ⟨a2,c2,rfl,hnc2,hag2⟩:=JP ho2;have hm2:w2.heap[mb]?=some (.cells #[.slice (some ⟨g,0,none⟩) L.length (i+1),.int .i64 next] 111 (0,0)):=(hg2.block mb (lt_of_block HO1.out.2.2.cat) (fun e=>by
      have:=HMB.out;rcases HO1.out.1.2 with ⟨e1,_⟩ | ⟨x,_,_,e1,e2,_⟩
      ·rw [e1] at e;cases e
      ·rw [e1] at e;have e:some mb=some x:=e;injection e with e
       omega)).trans HO1.out.2.2.cat
     have e1:=Qh (i:=0) (.slice a2 (L.eraseIdx i).length c2) hm2;have hf2:Frm NoB w w2:=HO1.out.2.1.trans (Frm.ofGrown hg2) fun x hx e=>by
      rcases HO1.out.1.2 with ⟨e1,_⟩ | ⟨y,_,_,e1,e2,_⟩
      ·rw [e1] at e;cases e
      ·rw [e1] at e;have e:some y=some x:=e;injection e with e
       omega
     have hf3:Frm (Q0 mb) w (w2.setCell ⟨mb,0,none⟩ (.slice a2 (L.eraseIdx i).length c2)):=(hf2.mono (N:=Q0 mb) fun _ _ e=>e.elim).setCell (.inl (Q0.self mb)) _;have ho3:=Go.RowKit.ownsRow_setCell_below ho2 (a:=⟨mb,0,none⟩) HMB.out (.slice a2 (L.eraseIdx i).length c2);have HE:=hid (And.intro e1 (And.intro hf3 ho3));have m0:w2.cell? ⟨mb,0,none⟩=some (.slice (some ⟨g,0,none⟩) L.length (i+1)):=(Qa hm2).trans rfl;have f0:w2.frozen? ⟨mb,0,none⟩=false:=Qf hm2;clear hlt2 htp ho2 hg2 hat2 hnc2 hag2 hm2 e1 hf2 hf3 ho3 c1 HO1;go_wp2;go_ret;exact .inr ⟨i,_,HT.out.1,rfl,rfl,a2,c2,⟨HE.out.1,V0 HE.out.2.2 (Nat.zero_le _)⟩,HE.out.2.2,HE.out.2.1⟩
   ·have HN2:Hid (∀j t,j<i+1→L[j]?=some t→t.nm≠nm):=hid fun j t hj hjt=>by
     rcases Nat.lt_or_ge j i with h | h
     ·exact HN.out j t h hjt
     ·obtain rfl:j=i:=by omega
      rw [HT.out.1] at hjt;injection hjt with hjt
      subst hjt;exact he
    have hne2: ¬x0.toList=nm.toList:=fun e=>he (toList_inj e)
    have hne3:(x0.toList==nm.toList)=false:=by simpa using hne2
    clear ht HN;go_wp2_with fail;exact ⟨⟨i+1,by go_num,hlt,trivial,HN2⟩,by simp [intOf];omega⟩
  ·obtain rfl:i=L.length:=by omega
   go_wp2;go_ret;exact .inl ⟨fun t ht=>by
    obtain ⟨j,hj,rfl⟩:=List.getElem_of_mem ht;exact HN.out j _ hj (List.getElem?_eq_getElem hj),rfl,Frm.refl _ _⟩
def WN (cur:Array Value):Nat→List Value→Array Value
 | _,[]=>cur
 | o,v::vs=>WN (cur.setIfInBounds o v) (o+1) vs
theorem Qd7 (vs:List Value): ∀(cur:Array Value) (o:Nat),(WN cur o vs).size=cur.size:=by
 induction vs with
 | nil=>intro cur o;rfl
 | cons v vs ih=>intro cur o;unfold WN;rw [ih,Array.size_setIfInBounds]
theorem WO (vs:List Value): ∀(w:World) (b o:Nat) (cur:Array Value) (ty:TypeId),w.heap[b]?=some (.cells cur ty (0,0))→(w.setCells b o vs).heap[b]?=some (.cells (WN cur o vs) ty (0,0)):=by
 induction vs with
 | nil=>intro w b o cur ty h;exact h
 | cons v vs ih=>intro w b o cur ty h;exact ih _ b (o+1) _ ty (Qh v h)
theorem KV (vs:List Value): ∀(w:World) (b o:Nat),Frm (Q0 b) w (w.setCells b o vs):=by
 induction vs with
 | nil=>intro w b o;exact Frm.refl _ _
 | cons v vs ih=>intro w b o;exact ((Frm.refl (Q0 b) w).setCell (.inl (Q0.self b)) v).trans (ih _ b (o+1)) fun x _ e=>e
theorem QhH {X ys:List Value} {o m:Nat} (h:o+ys.length≤m) (hm:m≤X.length):(X.take o++ys++X.drop (o+ys.length)).take m=(X.take m).take o++ys++(X.take m).drop (o+ys.length):=by
 have hl:(X.take o++ys).length=o+ys.length:=by rw [List.length_append,List.length_take,Nat.min_eq_left (by omega)]
 rw [List.take_append,hl,List.take_of_length_le (by omega),List.take_take,Nat.min_eq_left (by omega),List.drop_take]
theorem QiT {X:List Value} {o:Nat} {v:Value} {vs:List Value} (h:o+1+vs.length≤X.length):(X.set o v).take (o+1)++vs++(X.set o v).drop (o+1+vs.length)=X.take o++(v::vs)++X.drop (o+(vs.length+1)):=by
 rw [List.drop_set_of_lt (by omega),List.take_set,show o+1+vs.length=o+(vs.length+1) by omega];have h1:X.take (o+1)=X.take o++ [X[o]]:=List.take_succ_eq_append_getElem (by omega);have h2:(X.take o).length=o:=by rw [List.length_take,Nat.min_eq_left (by omega)]
 rw [h1,List.set_append_right _ _ (by omega),h2,Nat.sub_self];simp
theorem Qd6 (vs:List Value): ∀(cur:Array Value) (o:Nat),o+vs.length≤cur.size→(WN cur o vs).toList=cur.toList.take o++vs++cur.toList.drop (o+vs.length):=by
 induction vs with
 | nil=>intro cur o h;simp [WN]
 | cons v vs ih=>
   intro cur o h;rw [List.length_cons] at h;unfold WN;rw [ih (cur.setIfInBounds o v) (o+1) (by rw [Array.size_setIfInBounds];omega),Array.toList_setIfInBounds,List.length_cons];exact QiT (by have:cur.toList.length=cur.size:=Array.length_toList;omega)
theorem QhK {L:List Tp} {k:Nat} (hk:k<L.length) (t:Tp):QI (L.set k t)=(QI L).take (k*8)++t.cells.toList++(QI L).drop (k*8+8):=by
 rw [List.set_eq_take_append_cons_drop,if_pos hk];have h1:L=L.take k++(L[k]::L.drop (k+1)):=by rw [List.getElem_cons_drop,List.take_append_drop]
 have e:QI L=QI (L.take k)++(L[k].cells.toList++QI (L.drop (k+1))):=by
  conv=>lhs;rw [h1]
  rw [VO];rfl
 have hl:(QI (L.take k)).length=k*8:=by rw [QO,List.length_take,Nat.min_eq_left (by omega)]
 have hc:L[k].cells.toList.length=8:=rfl;rw [VO,e,←hl,List.take_left,←hc,←List.length_append,←List.append_assoc,List.drop_left,List.append_assoc];rfl
theorem Ya.apart {w:World} {mb g c:Nat} {L:List Tp} {next:Int} (h:Ya w mb (some ⟨g,0,none⟩) c L next):g≠mb:=by
 rcases h.row.2 with ⟨e,_⟩ | ⟨g',cap,cur,e,_,hg,_⟩
 ·cases e
 ·injection e with e1 e2 e3
  injection e1 with e1
  injection e1 with e1
  subst e1;intro e;have:=h.cat;rw [←e,hg] at this;injection this with this
  injection this with _ h2
  exact absurd h2 (by decide)
theorem Ya.put {w:World} {mb g c k:Nat} {L:List Tp} {next:Int} (h:Ya w mb (some ⟨g,0,none⟩) c L next) (hk:k<L.length) (t:Tp):
 Ya (w.setCells g (k*8) t.cells.toList) mb (some ⟨g,0,none⟩) c (L.set k t) next:=by
 have hne:=h.apart;have hf:=KV t.cells.toList w g (k*8);refine ⟨?_,?_⟩
 ·rw [List.length_set];exact (hf.block mb (lt_of_block h.cat) (fun e=>hne e.symm)).trans h.cat
 ·rw [List.length_set];rcases h.row.2 with ⟨e,_⟩ | ⟨g',cap,cur,e,hb,hg,h1,h2,h3,h4⟩
  ·cases e
  ·injection e with e1 e2 e3
   injection e1 with e1
   injection e1 with e1
   subst e1;subst e3;have h8:t.cells.toList.length=8:=rfl;refine ⟨by rw [QO,List.length_set],.inr ⟨g,c,_,rfl,Nat.zero_le _,WO _ _ _ _ _ _ hg,h1,h2,by rw [Qd7];exact h3,?_⟩⟩;rw [Qd6 t.cells.toList cur (k*8) (by rw [h8,h3];omega),QhK hk,←h4];have:=QhH (X:=cur.toList) (ys:=t.cells.toList) (o:=k*8) (m:=L.length*8) (by rw [h8];omega) (by have:cur.toList.length=cur.size:=Array.length_toList;omega);exact this
def sink (t:Tp) (L:List Tp) (k:Nat):List Tp:=L.take k++t::L.drop k
theorem QfS (t:Tp) (L:List Tp) {k:Nat} {x:Tp} (hx:L[k]?=some x):((sink t L (k+1)).set (k+1) x).set k t=sink t L k:=by
 obtain ⟨hk,rfl⟩:=List.getElem?_eq_some_iff.1 hx;unfold sink;have h1:L.take (k+1)=L.take k++ [L[k]]:=List.take_succ_eq_append_getElem hk;have h2:(L.take k).length=k:=by rw [List.length_take,Nat.min_eq_left (by omega)]
 rw [h1,List.append_assoc,List.set_append_right _ _ (by omega),h2,show k+1-k=1 by omega,List.set_append_right _ _ (by omega),h2,Nat.sub_self];simp
theorem QaO (t:Tp): ∀(P Q:List Tp),(∀x∈P,QD t.nm x.nm=false)→(∀x,Q[0]?=some x→QD t.nm x.nm=true)→JI t (P++Q)=P++t::Q
 | [],[],_,_=>rfl
 | [],q::Q,_,hq=>by
   show (if QD t.nm q.nm then t::q::Q else q::JI t Q)=t::q::Q;rw [if_pos (hq q rfl)]
 | p::P,Q,hp,hq=>by
   show (if QD t.nm p.nm then t::p::(P++Q) else p::JI t (P++Q))=p::(P++t::Q);rw [hp p (List.mem_cons_self ..),QaO t P Q (fun x hx=>hp x (List.mem_cons_of_mem _ hx)) hq];rfl
theorem Qc0 (t:Tp) {L:List Tp} (hL:Q9 L) {k:Nat} (hk:k≤L.length) (hd: ∀x∈L.drop k,QD t.nm x.nm=true) (hs:k=0∨∃x,L[k-1]?=some x∧QD t.nm x.nm=false):sink t L k=JI t L:=by
 unfold sink
 conv=>rhs;rw [←List.take_append_drop k L]
 refine (QaO t _ _ (fun x hx=>?_) (fun x hx=>?_)).symm
 ·rcases hs with rfl | ⟨y,hy,hyn⟩
  ·simp at hx
  ·obtain ⟨i,hi,rfl⟩:=List.getElem_of_mem hx;rw [List.length_take] at hi;rw [List.getElem_take];obtain ⟨hky,rfl⟩:=List.getElem?_eq_some_iff.1 hy;rcases Nat.lt_or_ge i (k-1) with hlt | hge
   ·have h1:=List.pairwise_iff_getElem.1 hL.asc i (k-1) (by omega) hky hlt;cases hc:QD t.nm L[i].nm with
    | false=>rfl
    | true=>
      rw [Ju] at h1 hyn hc;exact absurd (List.lt_trans (of_decide_eq_true hc) (of_decide_eq_true h1)) (of_decide_eq_false hyn)
   ·have:i=k-1:=by omega
    subst this;exact hyn
 ·exact hd x (List.mem_of_getElem? hx)
def UU (a:Option Addr) (x:Nat):Prop:= ∃p,a=some p∧p.block=x
theorem OW {a:Option Addr} {n c x:Nat} (e:(Value.slice a n c).ownBlock=some x):UU a x:=by
 cases a with
 | none=>cases e
 | some p=>exact ⟨p,rfl,by injection e⟩
theorem Qkv {a:Option Addr} {n c x H:Nat} (e:(Value.slice a n c).ownBlock=some x∨x=H):UU a x∨x=H:=e.imp OW fun e=>e
theorem Ya.away {w:World} {mb c:Nat} {a:Option Addr} {L:List Tp} {next:Int} (h:Ya w mb a c L next): ∀x,UU a x→x<w.heap.size∧x≠mb:=by
 rintro x ⟨p,rfl,rfl⟩;rcases h.row.2 with ⟨e,_⟩ | ⟨g,cap,cur,e,_,hg,_⟩
 ·cases e
 ·injection e with e1 e2 e3
  injection e1 with e1
  subst e1;exact ⟨lt_of_block hg,h.apart⟩
theorem Ya.rowKeep {w w':World} {mb c:Nat} {a:Option Addr} {L:List Tp} {next:Int} (h:Ya w mb a c L next) (hf:Frm (Q0 mb) w w'):w'.ownsRow 0 45 8 (.slice a L.length c) L.length (QI L):=by
 refine ⟨h.row.1,?_⟩;rcases h.row.2 with e | ⟨g,cap,cur,e,h2,hg,h3⟩
 ·exact .inl e
 ·refine .inr ⟨g,cap,cur,e,h2,(hf.block g (lt_of_block hg) fun e2=>?_).trans hg,h3⟩;injection e with e1 _ _
  subst e1;exact h.apart e2
theorem Y4 (t:Tp) (L:List Tp) {k:Nat} (hk:k≤L.length):(sink t L k).length=L.length+1:=by
 unfold sink;rw [List.length_append,List.length_cons,List.length_take,List.length_drop];omega
theorem QdR (w:World) (b:Nat) (cs:Array Value):Frm (Q0 b) w (w.setRow b cs):=⟨rfl,rfl,rfl,by rw [size_setRow];exact Nat.le_refl _,fun k hk hne=>setRow_other w b k cs (fun e=>hne e)⟩
theorem Ya.frmM {M:Nat→Prop} {w w':World} {mb g c:Nat} {L:List Tp} {next:Int} (h:Ya w mb (some ⟨g,0,none⟩) c L next) (hf:Frm M w w') (h1: ¬M mb) (h2: ¬M g):Ya w' mb (some ⟨g,0,none⟩) c L next:=by
 refine ⟨(hf.block mb (lt_of_block h.cat) h1).trans h.cat,h.row.1,?_⟩;rcases h.row.2 with e | ⟨g',cap,cur,e,h3,hg,h4⟩
 ·exact .inl e
 ·refine .inr ⟨g',cap,cur,e,h3,(hf.block g' (lt_of_block hg) fun e2=>?_).trans hg,h4⟩;injection e with e1 _ _
  injection e1 with e1
  injection e1 with e1
  subst e1;exact h2 e2
theorem Ya.frozen {w:World} {mb g c:Nat} {L:List Tp} {next:Int} (h:Ya w mb (some ⟨g,0,none⟩) c L next) (o:Nat):w.frozen? ⟨g,o,none⟩=false:=by
 rcases h.row.2 with ⟨e,_⟩ | ⟨g',cap,cur,e,_,hg,_⟩
 ·cases e
 ·injection e with e1 _ _
  injection e1 with e1
  injection e1 with e1
  subst e1;exact Qf hg
theorem QiY (t:Tp) (L:List Tp) {j:Nat} {x:Tp} (hx:L[j]?=some x):(sink t L (j+1))[j+1]?=some t∧(sink t L (j+1))[j]?=some x:=by
 obtain ⟨hj,rfl⟩:=List.getElem?_eq_some_iff.1 hx;have h2:(L.take (j+1)).length=j+1:=by rw [List.length_take,Nat.min_eq_left (by omega)]
 unfold sink;constructor
 ·rw [List.getElem?_append_right (by omega),h2,Nat.sub_self];rfl
 ·rw [List.getElem?_append_left (by omega),List.getElem?_take_of_lt (by omega)];exact List.getElem?_eq_getElem hj
theorem QaD {L:List Tp} {nm:ByteArray} (h: ∀t∈L,t.nm≠nm):(L.find? fun t=>decide (t.nm=nm))=none:=List.find?_eq_none.2 fun t ht=>by
 rw [decide_eq_false (h t ht)];simp
end
end Go.Proofs.YtlemndledcmhiaaGreatDoor
