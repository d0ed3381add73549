/-
  The catalog, from the device up, part 13.
-/
import Derived.Test.YtlemndledcmhiaaGreatDoorV12
import Derived.Test.YtlemndledcmhiaaGreatDoorShelf3
import Derived.Shelf.Strings.Search2
namespace Go.Proofs.YtlemndledcmhiaaGreatDoor
set_option linter.unusedVariables false
set_option linter.unusedSimpArgs false
set_option maxHeartbeats 8000000
set_option maxRecDepth 100000
open Tryz
open Lib (hid)
open Go.ChangeMaps Go.MapKept Go.RowKit
theorem QfO (w:World) (mb c:Nat) (a:Option Addr) (L:List Tp) (next:Int) (h:Ya w mb a c L next) (hL:Q9 L) (hlen:L.length<20) (hx0:0≤next) (hx1:next≤1000000) (nm:ByteArray) (hno: ∀t∈L,t.nm≠nm) (hn:nmB nm=true) (P:Int) (hP1:1≤P) (hP8:P≤8) (p3 p4 p5:Int) (p6:Bool) (p7:Int)
 (q1:512≤p3∧p3≤8192) (q2: -1≤p4∧p4≤1099511627776) (q3: -1≤p5∧p5≤1125899906842624) (q4:0≤p7∧p7≤1125899906842624):
 Calls prog 18 #[.pointer (some ⟨mb,0,none⟩),.string nm,.int .i64 P,.agg (stz p3 p4 p5 p6 p7)] w fun e w'=>e= .returned (.tuple #[.agg (tpz nm next P p3 p4 p5 p6 p7),.int .i64 0])∧
  ∃g' c',Ya w' mb (some ⟨g',0,none⟩) c' (JI ⟨nm,next,P,p3,p4,p5,p6,p7⟩ L) (next+1)∧Frm (fun x=>x=mb∨UU a x) w w'∧(UU a g'∨w.heap.size≤g'):=by
 have hm:=h.cat;have HREF:=hid h;have HAR:=hid h.away;have HLN:=hid hlen;have HNO:=hid hno;have HCL:=hid hL;have l20:(L.length:Int)<20:=by omega
 have l0:(0:Int)≤(L.length:Int):=Qk _;have HFN:=hid (QaD hno);obtain ⟨b1,b2,y,hb1,hb2,hy,ht⟩:=WZ w (stz p3 p4 p5 p6 p7) (tp0) 29 45;have hm0:=(ht.frm.block mb (lt_of_block hm) (fun e=>e)).trans hm;have HMB:=hid (lt_of_block hm);have HT:=hid ht;have HM:=hid hm0;have HY:=hid (And.intro hy (And.intro hb1 hb2));have s0:y.cell? ⟨b1,0,none⟩=some (.int .i64 p3):=(Qa ht.h1).trans rfl;have s1:y.cell? ⟨b1,1,none⟩=some (.int .i64 p4):=(Qa ht.h1).trans rfl;have s2:y.cell? ⟨b1,2,none⟩=some (.int .i64 p5):=(Qa ht.h1).trans rfl;have s3:y.cell? ⟨b1,3,none⟩=some (.bool p6):=(Qa ht.h1).trans rfl;have s4:y.cell? ⟨b1,4,none⟩=some (.int .i64 p7):=(Qa ht.h1).trans rfl;have HNM:=hid hn;have HS:=hid (Eg y p3 p4 p5 p6 p7 q1 q2 q3 q4);clear ht hy hb1 hb2 hm0 hm hn q1 q2 q3 q4 h hL hlen hno;go_enter func18,ntmps18;go_upto_region 1 with (refine Qg rfl _ _ V9 rfl ?_)
 rw [HY.out.1,HY.out.2.1,HY.out.2.2];clear HY;go_wp2_with fail;refine (Qbr y nm).mono ?_;rintro e w2 ⟨rfl,rfl⟩;rw [HNM.out];go_wp2_with fail;refine HS.out.mono ?_;clear HS s0 s1 s2 s3 s4;rintro e w3 ⟨rfl,hf3⟩;have HT3:=hid (HT.out.go hf3);have hm3:=(hf3.block mb (lt_of_block HM.out) (fun e=>e)).trans HM.out;have hfd:=Qec w3 mb c a L next (HREF.out.frm (HT3.out.frm)) (by have:=HLN.out;omega) nm
 rw [HFN.out] at hfd;have HF:Hid (Calls prog 52 #[.pointer (some ⟨mb,0,none⟩),.string nm] w3 fun e w'=>e= .returned (.tuple #[.agg (tp0),.bool false])∧Frm NoB w3 w'):=hid hfd;clear hfd;have HM3:=hid hm3;clear hf3 hm3 HT HM;go_wp2_with fail;refine HF.out.mono ?_;clear HF;rintro e w4 ⟨rfl,hf4⟩;have HT4:=hid (HT3.out.go hf4);have HM4:=hid ((hf4.block mb (lt_of_block HM3.out) (fun e=>e)).trans HM3.out);clear hf4 HT3 HM3;have HK0:=hid (Qb w4 (.cells (tp0) 45 (0,0)));go_upto_region 4 with (first | (refine Qg rfl _ _ V9 rfl ?_) | (refine JV rfl _ _ rfl w4.heap.size ByteArray.empty 0 0 0 0 0 false 0 rfl rfl _ rfl HK0.out ?_))
 have hf5:Frm NoB w4 ((w4.alloc (.cells (tp0) 45 (0,0))).setRow w4.heap.size (tp0)):=((Frm.refl NoB w4).alloc _).setRowNew (Nat.le_refl _) _;show Code.wp prog _ _ _ ((w4.alloc (.cells (tp0) 45 (0,0))).setRow w4.heap.size (tp0));obtain ⟨y5,hy5⟩: ∃y5,(w4.alloc (.cells (tp0) 45 (0,0))).setRow w4.heap.size (tp0)=y5:=⟨_,rfl⟩;rw [hy5] at hf5 ⊢;have ht5:=HT4.out.go hf5;have hm5:=(hf5.block mb (lt_of_block HM4.out) (fun e=>e)).trans HM4.out;have hfz:Frm NoB y5 ((y5.alloc (.cells (tp0) 45 (0,0))).drew):=((Frm.refl NoB y5).alloc _).drew;have htz:=ht5.go hfz;have hmz:=(hfz.block mb (lt_of_block hm5) (fun e=>e)).trans hm5;have s0:((y5.alloc (.cells #[.string ⟨#[]⟩,.int .i64 0,.int .i64 0,.int .i64 0,.int .i64 0,.int .i64 0,.bool false,.int .i64 0] 45 (0,0))).drew).cell? ⟨b1,0,none⟩=some (.int .i64 p3):=(Qa htz.h1).trans rfl;have s1:((y5.alloc (.cells #[.string ⟨#[]⟩,.int .i64 0,.int .i64 0,.int .i64 0,.int .i64 0,.int .i64 0,.bool false,.int .i64 0] 45 (0,0))).drew).cell? ⟨b1,1,none⟩=some (.int .i64 p4):=(Qa htz.h1).trans rfl;have s2:((y5.alloc (.cells #[.string ⟨#[]⟩,.int .i64 0,.int .i64 0,.int .i64 0,.int .i64 0,.int .i64 0,.bool false,.int .i64 0] 45 (0,0))).drew).cell? ⟨b1,2,none⟩=some (.int .i64 p5):=(Qa htz.h1).trans rfl;have s3:((y5.alloc (.cells #[.string ⟨#[]⟩,.int .i64 0,.int .i64 0,.int .i64 0,.int .i64 0,.int .i64 0,.bool false,.int .i64 0] 45 (0,0))).drew).cell? ⟨b1,3,none⟩=some (.bool p6):=(Qa htz.h1).trans rfl;have s4:((y5.alloc (.cells #[.string ⟨#[]⟩,.int .i64 0,.int .i64 0,.int .i64 0,.int .i64 0,.int .i64 0,.bool false,.int .i64 0] 45 (0,0))).drew).cell? ⟨b1,4,none⟩=some (.int .i64 p7):=(Qa htz.h1).trans rfl;have m1:((y5.alloc (.cells #[.string ⟨#[]⟩,.int .i64 0,.int .i64 0,.int .i64 0,.int .i64 0,.int .i64 0,.bool false,.int .i64 0] 45 (0,0))).drew).cell? ⟨mb,1,none⟩=some (.int .i64 next):=(Qa hmz).trans rfl;have t0:y5.cell? ⟨b1,0,none⟩=some (.int .i64 p3):=(Qa ht5.h1).trans rfl;have t1:y5.cell? ⟨b1,1,none⟩=some (.int .i64 p4):=(Qa ht5.h1).trans rfl;have t2:y5.cell? ⟨b1,2,none⟩=some (.int .i64 p5):=(Qa ht5.h1).trans rfl;have t3:y5.cell? ⟨b1,3,none⟩=some (.bool p6):=(Qa ht5.h1).trans rfl;have t4:y5.cell? ⟨b1,4,none⟩=some (.int .i64 p7):=(Qa ht5.h1).trans rfl;have n1:y5.cell? ⟨mb,1,none⟩=some (.int .i64 next):=(Qa hm5).trans rfl;have m0:y5.cell? ⟨mb,0,none⟩=some (.slice a L.length c):=(Qa hm5).trans rfl;clear hfz htz hmz;have HT5:=hid ht5;have HM5:=hid hm5;clear hf5 ht5 hm5 hy5 HT4 HM4 HK0;generalize w4.heap.size=g4 at*
 go_upto_region 8 with fail
 go_region;go_upto_region 9 with fail
 have hf9:Frm NoB y5 ((y5.alloc (.cells #[.string nm,.int .i64 next,.int .i64 P,.int .i64 p3,.int .i64 p4,.int .i64 p5,.bool p6,.int .i64 p7] 45 (0,0))).drew):=((Frm.refl NoB y5).alloc _).drew;have hb9:((y5.alloc (.cells #[.string nm,.int .i64 next,.int .i64 P,.int .i64 p3,.int .i64 p4,.int .i64 p5,.bool p6,.int .i64 p7] 45 (0,0))).drew).heap[y5.heap.size]?=some (.cells #[.string nm,.int .i64 next,.int .i64 P,.int .i64 p3,.int .i64 p4,.int .i64 p5,.bool p6,.int .i64 p7] 45 (0,0)):=Qb y5 _;obtain ⟨z9,hz9⟩: ∃z9,(y5.alloc (.cells #[.string nm,.int .i64 next,.int .i64 P,.int .i64 p3,.int .i64 p4,.int .i64 p5,.bool p6,.int .i64 p7] 45 (0,0))).drew=z9:=⟨_,rfl⟩;rw [hz9] at hf9 hb9 ⊢;have ht9:=HT5.out.go hf9;have hm9:=(hf9.block mb (lt_of_block HM5.out) (fun e=>e)).trans HM5.out;have HGT:=hid (show w.heap.size≤y5.heap.size from HT5.out.frm.size);generalize y5.heap.size=gt at*
 have HT9:=hid ht9;have HM9:=hid hm9;have HB9:=hid hb9;have c1:z9.cell? ⟨mb,1,none⟩=some (.int .i64 next):=(Qa hm9).trans rfl;have f1:z9.frozen? ⟨mb,1,none⟩=false:=Qf hm9;clear hf9 hb9 hz9 ht9 hm9 HT5 HM5 s0 s1 s2 s3 s4 m1 t0 t1 t2 t3 t4 n1 m0;go_upto_region 10 with fail
 have hf10:Frm (Q0 mb) z9 (z9.setCell ⟨mb,1,none⟩ (.int .i64 (next+1))):=(Frm.refl (Q0 mb) z9).setCell (.inl (Q0.self mb)) _;have hm10:=Qh (i:=1) (.int .i64 (next+1)) HM9.out;have hb10:=Qo (p:=⟨mb,1,none⟩) (.int .i64 (next+1)) HB9.out (show gt≠mb by have:=HMB.out;have:=HGT.out;omega);have h210:=Qo (p:=⟨mb,1,none⟩) (.int .i64 (next+1)) HT9.out.h2 (show b2≠mb by have:=HMB.out;have:=HT9.out.g2;omega);have hw10:Frm (Q0 mb) w (z9.setCell ⟨mb,1,none⟩ (.int .i64 (next+1))):=(HT9.out.frm.mono (N:=Q0 mb) fun _ _ e=>e.elim).trans hf10 fun _ _ e=>e
 obtain ⟨z,hz⟩: ∃z,z9.setCell ⟨mb,1,none⟩ (.int .i64 (next+1))=z:=⟨_,rfl⟩;rw [hz] at hm10 hb10 h210 hw10 ⊢;have hm10:z.heap[mb]?=some (.cells #[.slice a L.length c,.int .i64 (next+1)] 111 (0,0)):=hm10;have HZ:=hid (And.intro hm10 (And.intro hb10 (And.intro h210 hw10)));have c0:z.cell? ⟨mb,0,none⟩=some (.slice a L.length c):=(Qa hm10).trans rfl;have c0':(z.alloc (.cells #[.string nm,.int .i64 next,.int .i64 P,.int .i64 p3,.int .i64 p4,.int .i64 p5,.bool p6,.int .i64 p7] 45 (0,0))).cell? ⟨mb,0,none⟩=some (.slice a L.length c):=(Qa (Ql _ hm10)).trans rfl;have d0:z.cell? ⟨gt,0,none⟩=some (.string nm):=(Qa hb10).trans rfl;have d1:z.cell? ⟨gt,1,none⟩=some (.int .i64 next):=(Qa hb10).trans rfl;have d2:z.cell? ⟨gt,2,none⟩=some (.int .i64 P):=(Qa hb10).trans rfl;have d3:z.cell? ⟨gt,3,none⟩=some (.int .i64 p3):=(Qa hb10).trans rfl;have d4:z.cell? ⟨gt,4,none⟩=some (.int .i64 p4):=(Qa hb10).trans rfl;have d5:z.cell? ⟨gt,5,none⟩=some (.int .i64 p5):=(Qa hb10).trans rfl;have d6:z.cell? ⟨gt,6,none⟩=some (.bool p6):=(Qa hb10).trans rfl;have d7:z.cell? ⟨gt,7,none⟩=some (.int .i64 p7):=(Qa hb10).trans rfl;have HNEW:Hid (∀(j:Nat) u,([.string nm,.int .i64 next,.int .i64 P,.int .i64 p3,.int .i64 p4,.int .i64 p5,.bool p6,.int .i64 p7]:List Value)[j]?=some u→((z.alloc (.cells #[.string nm,.int .i64 next,.int .i64 P,.int .i64 p3,.int .i64 p4,.int .i64 p5,.bool p6,.int .i64 p7] 45 (0,0))).drew).cell? ((⟨z.heap.size,0,none⟩:Addr).add j)=some u):=hid fun j u hj=>by
  rw [show (⟨z.heap.size,0,none⟩:Addr).add j=⟨z.heap.size,j,none⟩ by unfold Addr.add;split<;>simp_all];exact (Qa (Qb z (.cells #[.string nm,.int .i64 next,.int .i64 P,.int .i64 p3,.int .i64 p4,.int .i64 p5,.bool p6,.int .i64 p7] 45 (0,0)))).trans (by rw [←hj,←Array.getElem?_toList])
 have HROW:=hid (World.ownsRow.drew (World.ownsRow.alloc (HREF.out.rowKeep hw10) (.cells #[.string nm,.int .i64 next,.int .i64 P,.int .i64 p3,.int .i64 p4,.int .i64 p5,.bool p6,.int .i64 p7] 45 (0,0))));have hzs:=hw10.size;have HZS:=hid hzs;have KZ:Hid (∀w',Frm (UU a) z w'→w'.heap[mb]?=some (.cells #[.slice a L.length c,.int .i64 (next+1)] 111 (0,0))∧w'.heap[gt]?=some (.cells #[.string nm,.int .i64 next,.int .i64 P,.int .i64 p3,.int .i64 p4,.int .i64 p5,.bool p6,.int .i64 p7] 45 (0,0))∧w'.heap[b2]?=some (.cells (tp0) 45 (0,0))∧Frm (fun x=>x=mb∨UU a x) w w'):=hid fun w' hf=>
  ⟨(hf.block _ (lt_of_block HZ.out.1) (fun e=>(HAR.out _ e).2 rfl)).trans HZ.out.1,(hf.block _ (lt_of_block HZ.out.2.1) (fun e=>by have:=(HAR.out _ e).1;have:=HGT.out;omega)).trans HZ.out.2.1,(hf.block _ (lt_of_block HZ.out.2.2.1) (fun e=>by have:=(HAR.out _ e).1;have:=HT9.out.g2;omega)).trans HZ.out.2.2.1,(HZ.out.2.2.2.mono (N:=fun x=>x=mb∨UU a x) fun _ _ e=> .inl e).trans hf fun _ _ e=> .inr e⟩
 obtain ⟨ii,hi0i,hz0,hz1,hz2⟩:=info_parts QeH;have HB2:=hid HT9.out.g2;clear hf10 hm10 hb10 h210 hw10 hz HM9 HB9 HT9 c1 f1 hzs;go_region_law (refine step_append_lies _ rfl _ _ 109 rfl 0 45 ii (.agg (tp0)) 8 72 underlying109 hi0i hz0 hz1 hz2 rfl (by decide) (.slice a L.length c) L.length (QI L) rfl HROW.out ⟨z.heap.size,0,none⟩ 1 1 [.string nm,.int .i64 next,.int .i64 P,.int .i64 p3,.int .i64 p4,.int .i64 p5,.bool p6,.int .i64 p7] rfl rfl HNEW.out (by simp [Value.oneCell']) (by decide) (by have:=HLN.out;simp only [maxLen];omega) (by have:=HLN.out;omega) (Nat.zero_le _) _ rfl ?_;intro vg vcc w' ho hg hat hlt;have h7:Frm (UU a) z w':=(((Frm.refl (UU a) z).alloc _).drew).trans (Frm.ofGrown hg) fun x _ e=>OW e;have HO:=hid (And.intro ho (Qkv hat));clear ho hg hat hlt;have k7:=KZ.out w' h7;have c7:w'.cell? ⟨mb,0,none⟩=some (.slice a L.length c):=(Qa k7.1).trans rfl;have f7:w'.frozen? ⟨mb,0,none⟩=false:=Qf k7.1)
 all_goals
  have hvm:vg≠mb:=by
   rcases HO.out.2 with e | e
   ·exact (HAR.out _ e).2
   ·have h1:=HZS.out;have h2:=HMB.out;simp only [size_alloc,World.size_drew] at e;omega
  have e1:=Qh (i:=0) (.slice (some ⟨vg,0,none⟩) (L.length+1) vcc) k7.1;have e2:=Qo (p:=⟨mb,0,none⟩) (.slice (some ⟨vg,0,none⟩) (L.length+1) vcc) k7.2.1 (show gt≠mb by have:=HMB.out;have:=HGT.out;omega);have e3:=Qo (p:=⟨mb,0,none⟩) (.slice (some ⟨vg,0,none⟩) (L.length+1) vcc) k7.2.2.1 (show b2≠mb by have:=HMB.out;have:=HB2.out;omega);have e4:Frm (fun x=>x=mb∨UU a x) w (w'.setCell ⟨mb,0,none⟩ (.slice (some ⟨vg,0,none⟩) (L.length+1) vcc)):=k7.2.2.2.setCell (.inl (.inl rfl)) _;have e5:Ya (w'.setCell ⟨mb,0,none⟩ (.slice (some ⟨vg,0,none⟩) (L.length+1) vcc)) mb (some ⟨vg,0,none⟩) vcc (L++ [⟨nm,next,P,p3,p4,p5,p6,p7⟩]) (next+1):=⟨by
   rw [List.length_append];exact e1,by
   rw [List.length_append,VO];exact ownsRow_setCell_other HO.out.1 (a:=⟨mb,0,none⟩) (fun e=>hvm (by injection e)) _⟩
  have hat2:UU a vg∨w.heap.size≤vg:=HO.out.2.imp (fun e=>e) fun e=>by
   have h1:=HZS.out;simp only [size_alloc,World.size_drew] at e;omega
  have hsk:L++ [(⟨nm,next,P,p3,p4,p5,p6,p7⟩:Tp)]=sink ⟨nm,next,P,p3,p4,p5,p6,p7⟩ L L.length:=by unfold sink;rw [List.take_length,List.drop_length]
  rw [hsk] at e5;have hnew: ∀x,w.heap.size≤x→x<z.heap.size→x≠vg:=fun x h1 h2 e=>by
   rcases HO.out.2 with e2 | e2
   ·have:=(HAR.out _ e2).1;omega
   ·simp only [size_alloc,World.size_drew] at e2;omega
  have hgv:gt≠vg:=hnew gt HGT.out (lt_of_block HZ.out.2.1);have hbv:b2≠vg:=hnew b2 HB2.out (lt_of_block HZ.out.2.2.1);obtain ⟨z8,hz8⟩: ∃z8,w'.setCell ⟨mb,0,none⟩ (.slice (some ⟨vg,0,none⟩) (L.length+1) vcc)=z8:=⟨_,rfl⟩;rw [hz8] at e1 e2 e3 e4 e5 ⊢;have HE:=hid (And.intro e3 (And.intro e4 (And.intro e2 (And.intro hgv (And.intro hbv (And.intro hat2 hvm))))));have HS8:=hid e5;have m0:z8.cell? ⟨mb,0,none⟩=some (.slice (some ⟨vg,0,none⟩) (L.length+1) vcc):=(Qa e1).trans rfl;clear e1 e2 e3 e4 e5 hz8 h7 k7 c7 f7 KZ HNEW HZ c0 c0' d0 d1 d2 d3 d4 d5 d6 d7 HO hvm hsk hgv hbv hat2 hnew;go_wp2_with fail;go_loopw [13,14] (fun t13 _ wr=> ∃k:Nat,t13= .int .i64 k∧k≤L.length∧Hid (Ya wr mb (some ⟨vg,0,none⟩) vcc (sink ⟨nm,next,P,p3,p4,p5,p6,p7⟩ L k) (next+1))∧Hid (Frm (Q0 vg) z8 wr)∧Hid (∀x∈L.drop k,QD nm x.nm=true)) (fun t13 _ _=>(intOf t13).toNat)
  case atStart=>exact ⟨L.length,by first | rfl | simp | go_num,Nat.le_refl _,HS8,hid (Frm.refl _ _),hid fun x hx=>by rw [List.drop_length] at hx;cases hx⟩
  case round=>
   obtain ⟨k,rfl,hk,HRA,HF,HD⟩:=hrel;clear m0 HS8;have k0:(0:Int)≤(k:Int):=Qk _;have k1:(k:Int)≤(L.length:Int):=by omega
   have m0:wr.cell? ⟨mb,0,none⟩=some (.slice (some ⟨vg,0,none⟩) (L.length+1) vcc):=by
    have:=HRA.out.cat;rw [Y4 _ _ hk] at this;exact (Qa this).trans rfl
   have hgt:=(HF.out.block gt (lt_of_block HE.out.2.2.1) (fun e=>HE.out.2.2.2.1 e)).trans HE.out.2.2.1;have HG2:=hid ((HF.out.block b2 (lt_of_block HE.out.1) (fun e=>HE.out.2.2.2.2.1 e)).trans HE.out.1);have g0:wr.cell? ⟨gt,0,none⟩=some (.string nm):=(Qa hgt).trans rfl;have g1:wr.cell? ⟨gt,1,none⟩=some (.int .i64 next):=(Qa hgt).trans rfl;have g2:wr.cell? ⟨gt,2,none⟩=some (.int .i64 P):=(Qa hgt).trans rfl;have g3:wr.cell? ⟨gt,3,none⟩=some (.int .i64 p3):=(Qa hgt).trans rfl;have g4':wr.cell? ⟨gt,4,none⟩=some (.int .i64 p4):=(Qa hgt).trans rfl;have g5:wr.cell? ⟨gt,5,none⟩=some (.int .i64 p5):=(Qa hgt).trans rfl;have g6:wr.cell? ⟨gt,6,none⟩=some (.bool p6):=(Qa hgt).trans rfl;have g7:wr.cell? ⟨gt,7,none⟩=some (.int .i64 p7):=(Qa hgt).trans rfl;clear hgt;have KFIN:Hid (sink ⟨nm,next,P,p3,p4,p5,p6,p7⟩ L k=JI ⟨nm,next,P,p3,p4,p5,p6,p7⟩ L→∀nq,(loadVar 45 ⟨b2,0,none⟩).run prog ((wr.drewN nq).setRow b2 (tpz nm next P p3 p4 p5 p6 p7))= .ok (.agg (tpz nm next P p3 p4 p5 p6 p7)) ((wr.drewN nq).setRow b2 (tpz nm next P p3 p4 p5 p6 p7))∧∃g' c',Ya ((wr.drewN nq).setRow b2 (tpz nm next P p3 p4 p5 p6 p7)) mb (some ⟨g',0,none⟩) c' (JI ⟨nm,next,P,p3,p4,p5,p6,p7⟩ L) (next+1)∧Frm (fun x=>x=mb∨UU a x) w ((wr.drewN nq).setRow b2 (tpz nm next P p3 p4 p5 p6 p7))∧(UU a g'∨w.heap.size≤g')):=hid fun hins nq=>by
    have hfr:Frm (fun x=>x=mb∨UU a x) w (wr.drewN nq):=(HE.out.2.1.trans HF.out fun x hx e=> .inr (by
     have e:x=vg:=e;rcases HE.out.2.2.2.2.2.1 with h | h
     ·rw [e];exact h
     ·omega)).drewN nq
    have hra:=HRA.out;rw [hins] at hra;refine ⟨run_loadVar_row (P:=prog) _ b2 45 45 (tpz nm next P p3 p4 p5 p6 p7) (0,0) _ (setRow_heap (wr.drewN nq) _ _ (tpz nm next P p3 p4 p5 p6 p7) _ _ HG2.out) underlying45 rfl (Eb _ _ _ _ _ _ _ _),vg,vcc,?_,hfr.setRowAt HB2.out _,HE.out.2.2.2.2.2.1⟩;exact (hra.frm ((Frm.refl NoB wr).drewN nq)).frmM (QdR _ b2 _) (fun e=>by have:=HMB.out;have:=HB2.out;have e:mb=b2:=e;omega) (fun e=>HE.out.2.2.2.2.1 e.symm)
   by_cases hk0:k=0
   ·subst hk0;have HFIN:=hid (KFIN.out (Qc0 _ HCL.out hk HD.out (.inl rfl)));clear KFIN HD HRA;go_wp2_with fail;go_quiet (fail);go_wp2_with (refine JV rfl _ _ rfl b2 nm next P p3 p4 p5 p6 p7 rfl rfl _ rfl HG2.out ?_)
    (try simp only [Exit.inBlock,Exit.then])
    exact bodyPost_ret (v:= .tuple #[.agg (tpz nm next P p3 p4 p5 p6 p7),.int .i64 0]) (Qx results18 _ _ ⟨b2,0,none⟩ rfl _ (HFIN.out nq).1) rfl ⟨rfl,(HFIN.out nq).2⟩
   ·obtain ⟨j,rfl⟩: ∃j,k=j+1:=⟨k-1,by omega⟩;obtain ⟨⟨y0,y1,y2,y3,y4,y5',y6,y7⟩,hx⟩: ∃t,L[j]?=some t:=⟨_,List.getElem?_eq_getElem (by omega)⟩;obtain ⟨kk,hkk⟩: ∃kk,(j+1)*8=kk:=⟨_,rfl⟩;obtain ⟨kj,hkj⟩: ∃kj,j*8=kj:=⟨_,rfl⟩;obtain ⟨s1',s2'⟩:=QiY ⟨nm,next,P,p3,p4,p5,p6,p7⟩ L hx;obtain ⟨a0,a1,a2,a3,a4,a5,a6,a7⟩:=JT HRA.out.row s1' hkk;obtain ⟨z0,z1,z2,z3,z4,z5,z6,z7⟩:=JT HRA.out.row s2' hkj;have j0:(0:Int)≤(j:Int):=Qk _;have j1:(j:Int)+1≤(L.length:Int):=by omega
    have hlc:=HRA.out.le;rw [Y4 _ _ hk] at hlc;have j2:(L.length:Int)+1≤(vcc:Int):=by omega
    have HJ:=hid (And.intro hx (And.intro hkk (And.intro hkj hk)));have HSK:=hid (And.intro s1' s2');clear hx s1' s2' hk hk0 hlc;cases hls:QD nm y0 with
    | false=>
      have hbl:Op.bytesLess nm.toList y0.toList=false:=hls;have HFIN:=hid (KFIN.out (Qc0 _ HCL.out HJ.out.2.2.2 HD.out (.inr ⟨_,HJ.out.1,hls⟩)));clear KFIN HD HRA hls;go_wp2_with fail;go_quiet (fail);go_wp2_with (refine JV rfl _ _ rfl b2 nm next P p3 p4 p5 p6 p7 rfl rfl _ rfl HG2.out ?_)
      (try simp only [Exit.inBlock,Exit.then])
      exact bodyPost_ret (v:= .tuple #[.agg (tpz nm next P p3 p4 p5 p6 p7),.int .i64 0]) (Qx results18 _ _ ⟨b2,0,none⟩ rfl _ (HFIN.out nq).1) rfl ⟨rfl,(HFIN.out nq).2⟩
    | true=>
      have hbl:Op.bytesLess nm.toList y0.toList=true:=hls;have HLS:=hid hls;clear KFIN hls;go_wp2_with fail;go_quiet (fail);have HK0:=hid (Qb (wr.drewN nq) (.cells (tp0) 45 (0,0)));have hf5:Frm NoB wr (((wr.drewN nq).alloc (.cells (tp0) 45 (0,0))).setRow (wr.drewN nq).heap.size (tpz nm next P p3 p4 p5 p6 p7)):=((((Frm.refl NoB wr).drewN nq).alloc _)).setRowNew (Nat.le_refl _) _;have hb5:=setRow_heap _ _ _ (tpz nm next P p3 p4 p5 p6 p7) _ _ HK0.out;go_upto_region 15 with (first | (refine Qg rfl _ _ V9 rfl ?_) | (refine JV rfl _ _ rfl (wr.drewN nq).heap.size nm next P p3 p4 p5 p6 p7 rfl rfl _ rfl HK0.out ?_))
      show Code.wp prog _ _ _ (((wr.drewN nq).alloc (.cells (tp0) 45 (0,0))).setRow (wr.drewN nq).heap.size (tpz nm next P p3 p4 p5 p6 p7));obtain ⟨y9,hy9⟩: ∃y9,((wr.drewN nq).alloc (.cells (tp0) 45 (0,0))).setRow (wr.drewN nq).heap.size (tpz nm next P p3 p4 p5 p6 p7)=y9:=⟨_,rfl⟩;rw [hy9] at hf5 hb5 ⊢;have hgw2:vg<(wr.drewN nq).heap.size:=by
       have:=HRA.out.away vg ⟨_,rfl,rfl⟩;exact this.1
      obtain ⟨gw,hgw⟩: ∃gw,(wr.drewN nq).heap.size=gw:=⟨_,rfl⟩;have hgw3:(wr.drewN nq).heap.size=wr.heap.size:=rfl
      first | rw [hgw] | rw [←hgw3,hgw]
      rw [hgw] at hb5 hgw2;have hr5:=HRA.out.frm hf5;have HGW:=hid (And.intro hgw2 (And.intro hf5 hb5));have HR5:=hid hr5;clear m0 a0 a1 a2 a3 a4 a5 a6 a7 z0 z1 z2 z3 z4 z5 z6 z7 g0 g1 g2 g3 g4' g5 g6 g7 HK0 hf5 hb5 hy9 hgw hgw2 hgw3 hbl;have m0:y9.cell? ⟨mb,0,none⟩=some (.slice (some ⟨vg,0,none⟩) (L.length+1) vcc):=by
       have:=hr5.cat;rw [Y4 _ _ HJ.out.2.2.2] at this;exact (Qa this).trans rfl
      obtain ⟨a0,a1,a2,a3,a4,a5,a6,a7⟩:=JT hr5.row HSK.out.1 hkk;obtain ⟨z0,z1,z2,z3,z4,z5,z6,z7⟩:=JT hr5.row HSK.out.2 hkj;have hwj:IntKind.i64.wrap (j:Int)=(j:Int):=by have h9:=HLN.out;have h8:(j:Int)≤20:=(by omega);exact IntWalk.i64_in _ (by omega)
      have j5:(0:Int)≤(j:Int)+1:=by omega
      have j3:(j:Int)<(L.length:Int)+1:=by omega
      have j4:(j:Int)+1<(L.length:Int)+1:=by omega
      have hfz: ∀o,y9.frozen? ⟨vg,o,none⟩=false:=hr5.frozen;clear hr5;have hpf: ∀wx,wx=y9.setCells vg ((j+1)*8) (Tp.cells ⟨y0,y1,y2,y3,y4,y5',y6,y7⟩).toList→Ya wx mb (some ⟨vg,0,none⟩) vcc ((sink ⟨nm,next,P,p3,p4,p5,p6,p7⟩ L (j+1)).set (j+1) ⟨y0,y1,y2,y3,y4,y5',y6,y7⟩) (next+1)∧Frm (Q0 vg) y9 wx:=fun wx e=>by
       subst e;exact ⟨HR5.out.put (by rw [Y4 _ _ HJ.out.2.2.2];have:=HJ.out.2.2.2;omega) _,KV _ _ _ _⟩
      rw [hkk] at hpf;have HPF:=hid hpf;clear hpf;go_frame;go_cut [14] from 109 to 122 (fun t14 wx=>t14= .pointer (some ⟨gw,0,none⟩)∧Hid (Ya wx mb (some ⟨vg,0,none⟩) vcc ((sink ⟨nm,next,P,p3,p4,p5,p6,p7⟩ L (j+1)).set (j+1) ⟨y0,y1,y2,y3,y4,y5',y6,y7⟩) (next+1))∧Hid (Frm (Q0 vg) y9 wx))
      case first=>
       go_region
       all_goals
        go_wp2_with fail;go_meet;refine ⟨rfl,hid ?_,hid ?_⟩
        ·exact (HPF.out _ rfl).1.frm (Frm.refl NoB _).drew
        ·exact (HPF.out _ rfl).2.drew
      case rest=>
       obtain ⟨rfl,HA5,HF5⟩:=hcut;have hsl:=Y4 ⟨nm,next,P,p3,p4,p5,p6,p7⟩ L HJ.out.2.2.2;clear m0 a0 a1 a2 a3 a4 a5 a6 a7 z0 z1 z2 z3 z4 z5 z6 z7 hfz HPF HR5;have hca:=HA5.out.cat;rw [List.length_set,hsl] at hca;have m0:wc.cell? ⟨mb,0,none⟩=some (.slice (some ⟨vg,0,none⟩) (L.length+1) vcc):=(Qa hca).trans rfl;have hbw:=(HF5.out.block gw (lt_of_block HGW.out.2.2) (fun e=>by have e:gw=vg:=e;have:=HGW.out.1;omega)).trans HGW.out.2.2;have g0:wc.cell? ⟨gw,0,none⟩=some (.string nm):=(Qa hbw).trans rfl;have g1:wc.cell? ⟨gw,1,none⟩=some (.int .i64 next):=(Qa hbw).trans rfl;have g2:wc.cell? ⟨gw,2,none⟩=some (.int .i64 P):=(Qa hbw).trans rfl;have g3:wc.cell? ⟨gw,3,none⟩=some (.int .i64 p3):=(Qa hbw).trans rfl;have g4':wc.cell? ⟨gw,4,none⟩=some (.int .i64 p4):=(Qa hbw).trans rfl;have g5:wc.cell? ⟨gw,5,none⟩=some (.int .i64 p5):=(Qa hbw).trans rfl;have g6:wc.cell? ⟨gw,6,none⟩=some (.bool p6):=(Qa hbw).trans rfl;have g7:wc.cell? ⟨gw,7,none⟩=some (.int .i64 p7):=(Qa hbw).trans rfl;have hs3:((sink ⟨nm,next,P,p3,p4,p5,p6,p7⟩ L (j+1)).set (j+1) ⟨y0,y1,y2,y3,y4,y5',y6,y7⟩)[j]?=some ⟨y0,y1,y2,y3,y4,y5',y6,y7⟩:=by rw [List.getElem?_set_ne (by omega)];exact HSK.out.2
       obtain ⟨z0,z1,z2,z3,z4,z5,z6,z7⟩:=JT HA5.out.row hs3 hkj;have hfz: ∀o,wc.frozen? ⟨vg,o,none⟩=false:=HA5.out.frozen;have hpf: ∀wx,wx=wc.setCells vg (j*8) (Tp.cells ⟨nm,next,P,p3,p4,p5,p6,p7⟩).toList→Ya wx mb (some ⟨vg,0,none⟩) vcc (sink ⟨nm,next,P,p3,p4,p5,p6,p7⟩ L j) (next+1)∧Frm (Q0 vg) wc wx:=fun wx e=>by
        subst e;have:=HA5.out.put (k:=j) (by rw [List.length_set,hsl];have:=HJ.out.2.2.2;omega) ⟨nm,next,P,p3,p4,p5,p6,p7⟩;rw [QfS _ _ HJ.out.1] at this;exact ⟨this,KV _ _ _ _⟩
       rw [hkj] at hpf;have HPF:=hid hpf;clear hpf hca hbw hs3 hsl;go_upto_region 16 with fail
       have HD2:Hid (∀x∈L.drop j,QD nm x.nm=true):=hid fun x hx=>by
        obtain ⟨h1,h2⟩:=List.getElem?_eq_some_iff.1 HJ.out.1;rw [←List.getElem_cons_drop h1] at hx;rcases List.mem_cons.1 hx with rfl | hx
        ·rw [h2];exact HLS.out
        ·exact HD.out x hx
       have HFA:Hid (∀wx,Frm (Q0 vg) wc wx→Frm (Q0 vg) z8 wx):=hid fun wx hf=>((HF.out.trans (HGW.out.2.1.mono (N:=Q0 vg) fun _ _ e=>e.elim) fun _ _ e=>e).trans HF5.out fun _ _ e=>e).trans hf fun _ _ e=>e
       have HJL:=hid (show j≤L.length by have:=HJ.out.2.2.2;omega);go_region
       all_goals
        have HA6:=hid (((HPF.out _ rfl).1.frm (Frm.refl NoB _).drew));have HF6:=hid (HFA.out _ (HPF.out _ rfl).2.drew);clear m0 g0 g1 g2 g3 g4' g5 g6 g7 z0 z1 z2 z3 z4 z5 z6 z7 hfz HPF HFA;go_wp2_with fail
        first
         | exact ⟨⟨j,by first | rfl | go_num,HJL.out,HA6,HF6,HD2⟩,by simp [intOf]⟩
         | exact ⟨⟨j,by first | rfl | go_num,HJL.out,HA6,HF6,HD2⟩,by simp [intOf];omega⟩
         | (trace_state;fail)
theorem Qd9 (w:World) (mb c:Nat) (a:Option Addr) (L:List Tp) (next:Int) (h:Ya w mb a c L next) (hlen:L.length≤20) (nm:ByteArray) {y0:ByteArray} {y1 y2 y3 y4 y5':Int} {y6:Bool} {y7:Int} (hfn:L.find? (fun t=>decide (t.nm=nm))=some ⟨y0,y1,y2,y3,y4,y5',y6,y7⟩) (hn:nmB nm=true) (P:Int) (hP1:1≤P) (hP8:P≤8) (p3 p4 p5:Int) (p6:Bool) (p7:Int)
 (q1:512≤p3∧p3≤8192) (q2: -1≤p4∧p4≤1099511627776) (q3: -1≤p5∧p5≤1125899906842624) (q4:0≤p7∧p7≤1125899906842624):
 Calls prog 18 #[.pointer (some ⟨mb,0,none⟩),.string nm,.int .i64 P,.agg (stz p3 p4 p5 p6 p7)] w fun e w'=>e= .returned (.tuple #[.agg (tp0),.int .i64 5])∧Frm NoB w w':=by
 have hm:=h.cat;have HREF:=hid h;have HLN:=hid hlen;have HFN:=hid hfn;obtain ⟨b1,b2,y,hb1,hb2,hy,ht⟩:=WZ w (stz p3 p4 p5 p6 p7) (tp0) 29 45;have hm0:=(ht.frm.block mb (lt_of_block hm) (fun e=>e)).trans hm;have HMB:=hid (lt_of_block hm);have HT:=hid ht;have HM:=hid hm0;have HY:=hid (And.intro hy (And.intro hb1 hb2));have s0:y.cell? ⟨b1,0,none⟩=some (.int .i64 p3):=(Qa ht.h1).trans rfl;have s1:y.cell? ⟨b1,1,none⟩=some (.int .i64 p4):=(Qa ht.h1).trans rfl;have s2:y.cell? ⟨b1,2,none⟩=some (.int .i64 p5):=(Qa ht.h1).trans rfl;have s3:y.cell? ⟨b1,3,none⟩=some (.bool p6):=(Qa ht.h1).trans rfl;have s4:y.cell? ⟨b1,4,none⟩=some (.int .i64 p7):=(Qa ht.h1).trans rfl;have HNM:=hid hn;have HS:=hid (Eg y p3 p4 p5 p6 p7 q1 q2 q3 q4);clear ht hy hb1 hb2 hm0 hm hn q1 q2 q3 q4 h hlen hfn;go_enter func18,ntmps18;go_upto_region 1 with (refine Qg rfl _ _ V9 rfl ?_)
 rw [HY.out.1,HY.out.2.1,HY.out.2.2];clear HY;go_wp2_with fail;refine (Qbr y nm).mono ?_;rintro e w2 ⟨rfl,rfl⟩;rw [HNM.out];go_wp2_with fail;refine HS.out.mono ?_;clear HS s0 s1 s2 s3 s4;rintro e w3 ⟨rfl,hf3⟩;have HT3:=hid (HT.out.go hf3);have hm3:=(hf3.block mb (lt_of_block HM.out) (fun e=>e)).trans HM.out;have hfd:=Qec w3 mb c a L next (HREF.out.frm (HT3.out.frm)) (by have:=HLN.out;omega) nm
 rw [HFN.out] at hfd;have HF:Hid (Calls prog 52 #[.pointer (some ⟨mb,0,none⟩),.string nm] w3 fun e w'=>e= .returned (.tuple #[.agg (tpz y0 y1 y2 y3 y4 y5' y6 y7),.bool true])∧Frm NoB w3 w'):=hid hfd;clear hfd;have HM3:=hid hm3;clear hf3 hm3 HT HM;go_wp2_with fail;refine HF.out.mono ?_;clear HF;rintro e w4 ⟨rfl,hf4⟩;have HT4:=hid (HT3.out.go hf4);have HM4:=hid ((hf4.block mb (lt_of_block HM3.out) (fun e=>e)).trans HM3.out);clear hf4 HT3 HM3;have HK0:=hid (Qb w4 (.cells (tp0) 45 (0,0)));go_upto_region 4 with (first | (refine Qg rfl _ _ V9 rfl ?_) | (refine JV rfl _ _ rfl w4.heap.size y0 y1 y2 y3 y4 y5' y6 y7 rfl rfl _ rfl HK0.out ?_))
 have hf5:Frm NoB w4 ((w4.alloc (.cells (tp0) 45 (0,0))).setRow w4.heap.size (tpz y0 y1 y2 y3 y4 y5' y6 y7)):=((Frm.refl NoB w4).alloc _).setRowNew (Nat.le_refl _) _;show Code.wp prog _ _ _ ((w4.alloc (.cells (tp0) 45 (0,0))).setRow w4.heap.size (tpz y0 y1 y2 y3 y4 y5' y6 y7));obtain ⟨y5,hy5⟩: ∃y5,(w4.alloc (.cells (tp0) 45 (0,0))).setRow w4.heap.size (tpz y0 y1 y2 y3 y4 y5' y6 y7)=y5:=⟨_,rfl⟩;rw [hy5] at hf5 ⊢;have HT5:=hid (HT4.out.go hf5);have hm5:=(hf5.block mb (lt_of_block HM4.out) (fun e=>e)).trans HM4.out;have m0:y5.cell? ⟨mb,0,none⟩=some (.slice a L.length c):=(Qa hm5).trans rfl;clear hf5 hy5 hm5 HM4 HK0 HT4;go_wp2_with (refine JV rfl _ _ rfl b2 ByteArray.empty 0 0 0 0 0 false 0 rfl rfl _ rfl HT5.out.h2 ?_);have hld:=run_loadVar_row (P:=prog) _ b2 45 45 (tp0) (0,0) _ (setRow_heap _ _ _ (tp0) _ _ HT5.out.h2) underlying45 rfl (Eb _ _ _ _ _ _ _ _)
 (try simp only [Exit.inBlock,Exit.then])
 exact bodyPost_ret (v:= .tuple #[.agg (tp0),.int .i64 5]) (Qx results18 _ _ ⟨b2,0,none⟩ rfl _ hld) rfl ⟨rfl,HT5.out.frm.setRowNew HT5.out.g2 _⟩
theorem Qbq (w:World) (mb c:Nat) (a:Option Addr) (L:List Tp) (next:Int) (h:Ya w mb a c L next) (hlen:L.length≤20) (nm:ByteArray) (hfull:L.length=20) (hno: ∀t∈L,t.nm≠nm) (hn:nmB nm=true) (P:Int) (hP1:1≤P) (hP8:P≤8) (p3 p4 p5:Int) (p6:Bool) (p7:Int)
 (q1:512≤p3∧p3≤8192) (q2: -1≤p4∧p4≤1099511627776) (q3: -1≤p5∧p5≤1125899906842624) (q4:0≤p7∧p7≤1125899906842624):
 Calls prog 18 #[.pointer (some ⟨mb,0,none⟩),.string nm,.int .i64 P,.agg (stz p3 p4 p5 p6 p7)] w fun e w'=>e= .returned (.tuple #[.agg (tp0),.int .i64 2])∧Frm NoB w w':=by
 have hm:=h.cat;have HREF:=hid h;have HLN:=hid hlen;have HFN:=hid (QaD hno);have l20:(20:Int)≤(L.length:Int):=by omega
 obtain ⟨b1,b2,y,hb1,hb2,hy,ht⟩:=WZ w (stz p3 p4 p5 p6 p7) (tp0) 29 45;have hm0:=(ht.frm.block mb (lt_of_block hm) (fun e=>e)).trans hm;have HMB:=hid (lt_of_block hm);have HT:=hid ht;have HM:=hid hm0;have HY:=hid (And.intro hy (And.intro hb1 hb2));have s0:y.cell? ⟨b1,0,none⟩=some (.int .i64 p3):=(Qa ht.h1).trans rfl;have s1:y.cell? ⟨b1,1,none⟩=some (.int .i64 p4):=(Qa ht.h1).trans rfl;have s2:y.cell? ⟨b1,2,none⟩=some (.int .i64 p5):=(Qa ht.h1).trans rfl;have s3:y.cell? ⟨b1,3,none⟩=some (.bool p6):=(Qa ht.h1).trans rfl;have s4:y.cell? ⟨b1,4,none⟩=some (.int .i64 p7):=(Qa ht.h1).trans rfl;have HNM:=hid hn;have HS:=hid (Eg y p3 p4 p5 p6 p7 q1 q2 q3 q4);clear ht hy hb1 hb2 hm0 hm hn q1 q2 q3 q4 h hlen hno;go_enter func18,ntmps18;go_upto_region 1 with (refine Qg rfl _ _ V9 rfl ?_)
 rw [HY.out.1,HY.out.2.1,HY.out.2.2];clear HY;go_wp2_with fail;refine (Qbr y nm).mono ?_;rintro e w2 ⟨rfl,rfl⟩;rw [HNM.out];go_wp2_with fail;refine HS.out.mono ?_;clear HS s0 s1 s2 s3 s4;rintro e w3 ⟨rfl,hf3⟩;have HT3:=hid (HT.out.go hf3);have hm3:=(hf3.block mb (lt_of_block HM.out) (fun e=>e)).trans HM.out;have hfd:=Qec w3 mb c a L next (HREF.out.frm (HT3.out.frm)) (by have:=HLN.out;omega) nm
 rw [HFN.out] at hfd;have HF:Hid (Calls prog 52 #[.pointer (some ⟨mb,0,none⟩),.string nm] w3 fun e w'=>e= .returned (.tuple #[.agg (tp0),.bool false])∧Frm NoB w3 w'):=hid hfd;clear hfd;have HM3:=hid hm3;clear hf3 hm3 HT HM;go_wp2_with fail;refine HF.out.mono ?_;clear HF;rintro e w4 ⟨rfl,hf4⟩;have HT4:=hid (HT3.out.go hf4);have HM4:=hid ((hf4.block mb (lt_of_block HM3.out) (fun e=>e)).trans HM3.out);clear hf4 HT3 HM3;have HK0:=hid (Qb w4 (.cells (tp0) 45 (0,0)));go_upto_region 4 with (first | (refine Qg rfl _ _ V9 rfl ?_) | (refine JV rfl _ _ rfl w4.heap.size ByteArray.empty 0 0 0 0 0 false 0 rfl rfl _ rfl HK0.out ?_))
 have hf5:Frm NoB w4 ((w4.alloc (.cells (tp0) 45 (0,0))).setRow w4.heap.size (tp0)):=((Frm.refl NoB w4).alloc _).setRowNew (Nat.le_refl _) _;show Code.wp prog _ _ _ ((w4.alloc (.cells (tp0) 45 (0,0))).setRow w4.heap.size (tp0));obtain ⟨y5,hy5⟩: ∃y5,(w4.alloc (.cells (tp0) 45 (0,0))).setRow w4.heap.size (tp0)=y5:=⟨_,rfl⟩;rw [hy5] at hf5 ⊢;have HT5:=hid (HT4.out.go hf5);have hm5:=(hf5.block mb (lt_of_block HM4.out) (fun e=>e)).trans HM4.out;have m0:y5.cell? ⟨mb,0,none⟩=some (.slice a L.length c):=(Qa hm5).trans rfl;clear hf5 hy5 hm5 HM4 HK0 HT4;go_wp2_with (refine JV rfl _ _ rfl b2 ByteArray.empty 0 0 0 0 0 false 0 rfl rfl _ rfl HT5.out.h2 ?_);have hld:=run_loadVar_row (P:=prog) _ b2 45 45 (tp0) (0,0) _ (setRow_heap _ _ _ (tp0) _ _ HT5.out.h2) underlying45 rfl (Eb _ _ _ _ _ _ _ _)
 (try simp only [Exit.inBlock,Exit.then])
 exact bodyPost_ret (v:= .tuple #[.agg (tp0),.int .i64 2]) (Qx results18 _ _ ⟨b2,0,none⟩ rfl _ hld) rfl ⟨rfl,HT5.out.frm.setRowNew HT5.out.g2 _⟩
theorem Qdy {L:List Tp} (hL:Q9 L) {i:Nat} {t:Tp} (ht:L[i]?=some t):L.eraseIdx i=Yc t.nm L:=by
 obtain ⟨hi,hti⟩:=List.getElem?_eq_some_iff.1 ht;have hp:=List.pairwise_iff_getElem.1 hL.asc;have h0:L=L.take i++t::L.drop (i+1):=by rw [←hti,List.getElem_cons_drop,List.take_append_drop]
 have h1:(L.take i).filter (fun x=>!decide (x.nm=t.nm))=L.take i:=List.filter_eq_self.2 fun x hx=>by
  obtain ⟨k,hk,rfl⟩:=List.getElem_of_mem hx;rw [List.length_take] at hk;rw [List.getElem_take];have:=hp k i (by omega) hi (by omega);rw [hti] at this;have hne: ¬L[k].nm=t.nm:=fun e=>by rw [e,J0] at this;cases this
  simp [hne]
 have h2:(L.drop (i+1)).filter (fun x=>!decide (x.nm=t.nm))=L.drop (i+1):=List.filter_eq_self.2 fun x hx=>by
  obtain ⟨k,hk,rfl⟩:=List.getElem_of_mem hx;rw [List.length_drop] at hk;rw [List.getElem_drop];have:=hp i (i+1+k) hi (by omega) (by omega);rw [hti] at this;have hne: ¬L[i+1+k].nm=t.nm:=fun e=>by rw [e,J0] at this;cases this
  simp [hne]
 have h3:Yc t.nm (L.take i++t::L.drop (i+1))=L.take i++L.drop (i+1):=by
  unfold Yc;rw [List.filter_append,List.filter_cons,h1,h2];simp
 rw [List.eraseIdx_eq_take_drop_succ,←h3,←h0]
section
variable {w0:Gnd} {w:World} {rs:List Res} {X:Sys} {F:FH} {A:Path→Option Nd} {ι:Path→Nat}
theorem Qf9 (h:Fs w0 w F X A ι rs) (cb:Nat) {nm:ByteArray} (hN:Yt nm false):
 Calls prog 23 #[.pointer (some ⟨cb,0,none⟩),.string nm] w fun e w'=>e= .returned (Wm none)∧Fs w0 w' F X A ι rs:=by
 have hh:=h.newArr (tp0) 31 Jd;obtain ⟨y,hy⟩: ∃y,w.alloc (.cells (tp0) 31 (0,0))=y:=⟨_,rfl⟩;obtain ⟨b1,hb1⟩: ∃b1,w.heap.size=b1:=⟨_,rfl⟩;rw [hy,hb1] at hh;have HY:=hid (And.intro hy hb1);have HN:=hid (hN y);have HH:=hid hh;clear h hN hh hy hb1;go_enter func23,ntmps23;go_upto_region 1 with (refine Qg rfl _ _ JU rfl ?_)
 rw [HY.out.1,HY.out.2];clear HY;go_wp2_with fail;refine HN.out.mono ?_;clear HN;rintro e w3 ⟨rfl,hf⟩;have HH3:=hid (HH.out.frm hf);clear hf HH;have HB1:=hid (HH3.out.block (i:=0) rfl);have HB:=hid (HH3.out.setRow 0 (c':=tp0) rfl);go_wp2_with (refine JE rfl _ _ rfl b1 ByteArray.empty 0 0 0 0 0 false 0 rfl rfl _ rfl HB1.out ?_);have hld:=run_loadVar_row (P:=prog) _ b1 31 31 (tp0) (0,0) _ (HB.out.block (i:=0) rfl) underlying31 rfl (Jz _ _ _ _ _ _ _ _)
 (try simp only [Exit.inBlock,Exit.then])
 exact bodyPost_ret (v:= .tuple #[.agg (tp0),.bool false]) (Qx results23 _ _ ⟨b1,0,none⟩ rfl _ hld) rfl ⟨rfl,HB.out.drop 1⟩
theorem Qca (h:Fs w0 w F X A ι rs) {cb mb i:Nat} {next:Int} (hr:rs[i]?=some (Je cb F.fb next mb)) {nm:ByteArray} (hN:Yt nm false):
 Calls prog 15 #[.pointer (some ⟨cb,0,none⟩),.string nm] w fun e w'=>e= .returned (.int .i64 4)∧Fs w0 w' F X A ι rs:=by
 have HR:=hid (Y1 h hr);have HF:=hid (Qf9 h cb hN);clear h hr hN;go_enter func15,ntmps15;go_wp2_with fail;refine HR.out.mono ?_;clear HR;rintro e w2 ⟨rfl,rfl⟩;go_wp2_with fail;refine HF.out.mono ?_;clear HF;rintro e w3 ⟨rfl,h3⟩;have HK0:=hid (Qb w3 (.cells (tp0) 31 (0,0)));have H3:=hid (h3.frm (((Frm.refl NoB w3).alloc (.cells (tp0) 31 (0,0))).setRowNew (Nat.le_refl _) (tp0)));clear h3;unfold Wm;go_upto_region 4 with (first | (refine Qg rfl _ _ JU rfl ?_) | (refine JE rfl _ _ rfl w3.heap.size ByteArray.empty 0 0 0 0 0 false 0 rfl rfl _ rfl HK0.out ?_))
 clear HK0;go_wp2_with fail;go_ret;exact ⟨rfl,H3.out⟩
theorem QdX: ¬U8T (29:TypeId):=by decide
theorem Qdk {cb mb P:Nat} {next:Int} {L:List Tp} (h:Fs w0 w F X A ι (Je cb F.fb next mb::Q8 mb L::rs)) (hc:Q9 L) (hP:1≤P∧P≤8) {nm:ByteArray} (hn50:nm.size≤50) (hnm:Yt nm true) {y0:ByteArray} {y1 y2 y3 y4 y5:Int} {y6:Bool} {y7:Int} (ht:(⟨y0,y1,y2,y3,y4,y5,y6,y7⟩:Tp)∈L) (hno:y0=nm) (p3 p4 p5:Int) (p6:Bool) (p7:Int)
 (h1:512≤p3∧p3≤8192) (h2: -1≤p4∧p4≤1099511627776) (h3: -1≤p5∧p5≤1125899906842624) (h4:0≤p7∧p7≤1125899906842624):
 Calls prog 11 #[.pointer (some ⟨cb,0,none⟩),.string nm,.int .i64 P,.agg (stz p3 p4 p5 p6 p7)] w fun e w'=>e= .returned (.tuple #[.agg (tp0),.int .i64 5])∧Fs w0 w' F X A ι (Je cb F.fb next mb::Q8 mb L::rs):=by
 have hh:=(((h.newArr #[.pointer (some ⟨cb,0,none⟩)] 25 J8).newArr (stz p3 p4 p5 p6 p7) 29 QdX).newArr (tp0) 31 Jd);simp only [size_alloc] at hh;obtain ⟨y,hy⟩: ∃y,((w.alloc (.cells #[.pointer (some ⟨cb,0,none⟩)] 25 (0,0))).alloc (.cells (stz p3 p4 p5 p6 p7) 29 (0,0))).alloc (.cells (tp0) 31 (0,0))=y:=⟨_,rfl⟩;obtain ⟨b1,hb1⟩: ∃b1,w.heap.size=b1:=⟨_,rfl⟩;rw [hy,hb1] at hh;obtain ⟨b2,hb2⟩: ∃b2,b1+1=b2:=⟨_,rfl⟩;rw [hb2] at hh;obtain ⟨b3,hb3⟩: ∃b3,b2+1=b3:=⟨_,rfl⟩;rw [hb3] at hh;have P1:(1:Int)≤(P:Int):=by omega
 have P8:(P:Int)≤8:=by omega
 have c0:y.cell? ⟨b1,0,none⟩=some (.pointer (some ⟨cb,0,none⟩)):=(hh.arrCell (i:=2) rfl 0).trans rfl;have hnm50:Hid (nm.size≤50):=hid hn50;have HR:=hid (Y1 hh (i:=3) rfl);have HN:=hid (hnm y);have KS:Hid (∀W,Calls prog 41 #[.agg (stz p3 p4 p5 p6 p7)] W fun r w'=>r= .returned (.bool true)∧Frm NoB W w'):=hid fun W=>VB W p3 p4 p5 p6 p7 h1 h2 h3 h4
 have HY:=hid (And.intro hy (And.intro hb1 (And.intro hb2 hb3)));have HH:=hid hh;have HC:=hid hc;have HP:=hid (And.intro hno ht);have HSz:=hid (And.intro h1 (And.intro h2 (And.intro h3 h4)));clear h hc hnm hn50 hno h1 h2 h3 h4 hh hy hb1 hb2 hb3 hP ht;go_enter func11,ntmps11;go_upto_region 1 with (refine Qg rfl _ _ JU rfl ?_)
 rw [HY.out.1,HY.out.2.1,HY.out.2.2.1,HY.out.2.2.2];clear HY;go_wp2_with fail;refine HR.out.mono ?_;clear HR;rintro e w2 ⟨rfl,rfl⟩;go_wp2_with fail;refine HN.out.mono ?_;clear HN;rintro e w2 ⟨rfl,hf⟩;have HH2:=hid (HH.out.frm hf);have s0:w2.cell? ⟨b2,0,none⟩=some (.int .i64 p3):=(HH2.out.arrCell (i:=1) rfl 0).trans rfl;have s1:w2.cell? ⟨b2,1,none⟩=some (.int .i64 p4):=(HH2.out.arrCell (i:=1) rfl 1).trans rfl;have s2:w2.cell? ⟨b2,2,none⟩=some (.int .i64 p5):=(HH2.out.arrCell (i:=1) rfl 2).trans rfl;have s3:w2.cell? ⟨b2,3,none⟩=some (.bool p6):=(HH2.out.arrCell (i:=1) rfl 3).trans rfl;have s4:w2.cell? ⟨b2,4,none⟩=some (.int .i64 p7):=(HH2.out.arrCell (i:=1) rfl 4).trans rfl;have c0':w2.cell? ⟨b1,0,none⟩=some (.pointer (some ⟨cb,0,none⟩)):=(HH2.out.arrCell (i:=2) rfl 0).trans rfl;clear HH hf c0;go_wp2_with fail;refine (KS.out _).mono ?_;clear KS s0 s1 s2 s3 s4;rintro e w3 ⟨rfl,hf⟩;have HH3:=hid (HH2.out.frm hf);have d0:w3.cell? ⟨b1,0,none⟩=some (.pointer (some ⟨cb,0,none⟩)):=(HH3.out.arrCell (i:=2) rfl 0).trans rfl;have d3:w3.cell? ⟨cb,3,none⟩=some (.map (some mb)):=(HH3.out.arrCell (i:=3) rfl 3).trans rfl;clear HH2 hf c0';go_upto_region 5 with fail
 have KL:Hid (∀W,Fs w0 W F X A ι (arr b3 (tp0) 31 Jd::arr b2 (stz p3 p4 p5 p6 p7) 29 QdX::arr b1 #[.pointer (some ⟨cb,0,none⟩)] 25 J8::Je cb F.fb next mb::Q8 mb L::rs)→W.cell? ⟨b1,0,none⟩=some (.pointer (some ⟨cb,0,none⟩))∧W.cell? ⟨cb,3,none⟩=some (.map (some mb))∧(Instr.lookup 91 (.map (some mb)) (.agg ((Qj nm).map B8).toArray) true).run prog W= .ok (.tuple #[.agg #[.string y0,.int .i64 y1,.int .i64 y2,.int .i64 y3,.int .i64 y4,.int .i64 y5,.bool y6,.int .i64 y7],.bool true]) W):=hid fun W hW=>by
  refine ⟨(hW.arrCell (i:=2) rfl 0).trans rfl,(hW.arrCell (i:=3) rfl 3).trans rfl,?_⟩;have this:=(hW.catAt (i:=4) rfl).lookup_ok YU underlying91 (a:=Qj nm) (Qr nm hnm50.out) JU W rfl;rw [show tpV (QX L) (Qj nm)=some (.agg (tpz y0 y1 y2 y3 y4 y5 y6 y7)) from by rw [←HP.out.1];exact Qc6 HC.out HP.out.2] at this;exact this
 have KO:Hid (∀W,Calls prog 42 #[.string nm] W fun e w'=>e= .returned (.agg ((Qj nm).map B8).toArray)∧Frm NoB W w'):=hid fun W=>QfK W nm hnm50.out
 have HHd:=hid (HH3.out.frm (Frm.refl NoB w3).drew);obtain ⟨k1,k2,k3⟩:=KL.out _ HH3.out;clear d0 d3;go_cut [10,11] from 36 (fun t10 t11 wx=>t11= .bool true∧Fs w0 wx F X A ι (arr b3 (tp0) 31 Jd::arr b2 (stz p3 p4 p5 p6 p7) 29 QdX::arr b1 #[.pointer (some ⟨cb,0,none⟩)] 25 J8::Je cb F.fb next mb::Q8 mb L::rs))
 case first=>
  refine wp_region_held_drew (S:=(fun y=>y.cell? ⟨b1,0,none⟩=some (.pointer (some ⟨cb,0,none⟩))∧y.cell? ⟨cb,3,none⟩=some (.map (some mb))∧(Instr.lookup 91 (.map (some mb)) (.agg ((Qj nm).map B8).toArray) true).run prog y= .ok (.tuple #[.agg #[.string y0,.int .i64 y1,.int .i64 y2,.int .i64 y3,.int .i64 y4,.int .i64 y5,.bool y6,.int .i64 y7],.bool true]) y)) (by kernel_rfl) (KL.out _ HHd.out) (fun hHeld=>?_);refine tkA (i:=0) rfl ?_
  try simp only [Act.put,tkS,tkZ,tkC]
  refine tkA (i:=1) rfl ?_
  try simp only [Act.put,tkS,tkZ,tkC]
  refine tkA (i:=2) rfl ?_
  try simp only [Act.put,tkS,tkZ,tkC]
  refine tkA (i:=3) rfl ?_
  try simp only [Act.put,tkS,tkZ,tkC]
  refine tkA (i:=4) rfl ?_
  try simp only [Act.put,tkS,tkZ,tkC]
  refine wpAnyH_ready (rs:= [5,10]) (by kernel_rfl) (by simp) ?_;refine AllReadyH.cons rfl (fun K hK=>?_) ?_
  ·go_simp;refine (KO.out _).mono ?_;rintro e w4 ⟨rfl,hf4⟩;go_wp2_with fail;have HH4:=hid (HHd.out.frm hf4);clear hf4;refine hK.out _ _ (KL.out _ HH4.out) (fun hHeld=>?_);clear hK K
   try simp only [Act.put,tkS,tkZ,tkC]
   refine tkA (i:=6) rfl ?_
   try simp only [Act.put,tkS,tkZ,tkC]
   refine tkA (i:=7) rfl ?_
   try simp only [Act.put,tkS,tkZ,tkC]
   refine tkA (i:=8) rfl ?_
   try simp only [Act.put,tkS,tkZ,tkC]
   refine tkA (i:=9) rfl ?_;change wpAnyH _ _ _ _ _ _ _ (Act.put _ (some 45) _) _
   try simp only [Act.put,tkS,tkZ,tkC]
   refine wpAnyH_ready (rs:= [10]) (by kernel_rfl) (by simp) ?_;refine AllReadyH.cons rfl (fun K hK=>?_) AllReadyH.nil;go_simp;have HA:=hid (HH4.out.newArr (tp0) 31 Jd);refine hK.out _ _ (KL.out _ (HA.out.drop 1)) (fun hHeld=>?_);clear hK K
   try simp only [Act.put,tkS,tkZ,tkC]
   refine wpAnyH_ready (rs:= [11]) (by kernel_rfl) (by simp) ?_;refine AllReadyH.cons rfl (fun K hK=>?_) AllReadyH.nil;rw [if_pos (by rfl)];refine wp_store_row 31 _ _ rfl w4.heap.size (tpz y0 y1 y2 y3 y4 y5 y6 y7) rfl rfl _ _ (HA.out.block (i:=0) rfl) (Jz _ _ _ _ _ _ _ _) rfl (Uc _ _ _ _ _ _ _ _) ?_;have HB:=hid (HA.out.setRow 0 (c':=(tpz y0 y1 y2 y3 y4 y5 y6 y7)) rfl);refine hK.out _ _ (KL.out _ (HB.out.drop 1)) (fun hHeld=>?_);clear hK K
   try simp only [Act.put,tkS,tkZ,tkC]
   refine tkA (i:=12) rfl ?_;change wpAnyH _ _ _ _ _ _ _ (Act.put _ (some 11) _) _
   try simp only [Act.put,tkS,tkZ,tkC]
   refine wpAnyH_done (by kernel_rfl) ?_ _;go_wp2_with fail;go_meet;exact ⟨rfl,HB.out.drop 1⟩
  ·refine AllReadyH.cons rfl (fun K hK=>?_) AllReadyH.nil;go_simp;have HA:=hid ((HH3.out.newArr (tp0) 31 Jd).frm (Frm.refl NoB _).drew);refine hK.out _ _ (KL.out _ (HA.out.drop 1)) (fun hHeld=>?_);clear hK K
   try simp only [Act.put,tkS,tkZ,tkC]
   obtain ⟨wa,hwa⟩: ∃wa,(w3.alloc (.cells (tp0) 31 (0,0))).drew=wa:=⟨_,rfl⟩;obtain ⟨ga,hga⟩: ∃ga,w3.heap.size=ga:=⟨_,rfl⟩;change wpAnyH _ _ _ _ _ _ _ _ ((w3.alloc (.cells (tp0) 31 (0,0))).drew);have hHeld2:=hHeld;clear hHeld;have hHeld:=KL.out _ (HA.out.drop 1);clear hHeld2;rw [hwa,hga] at HA;rw [hwa] at hHeld;rw [hwa,hga];clear hwa hga;refine wpAnyH_ready (rs:= [5]) (by kernel_rfl) (by simp) ?_;refine AllReadyH.cons rfl (fun K hK=>?_) AllReadyH.nil;go_simp;refine (KO.out _).mono ?_;rintro e w4 ⟨rfl,hf4⟩;go_wp2_with fail;have HH4:=hid (HA.out.frm hf4);clear hf4 HA;refine hK.out _ _ (KL.out _ (HH4.out.drop 1)) (fun hHeld=>?_);clear hK K
   try simp only [Act.put,tkS,tkZ,tkC]
   refine tkA (i:=6) rfl ?_
   try simp only [Act.put,tkS,tkZ,tkC]
   refine tkA (i:=7) rfl ?_
   try simp only [Act.put,tkS,tkZ,tkC]
   refine tkA (i:=8) rfl ?_
   try simp only [Act.put,tkS,tkZ,tkC]
   refine tkA (i:=9) rfl ?_;change wpAnyH _ _ _ _ _ _ _ (Act.put _ (some 45) _) _
   try simp only [Act.put,tkS,tkZ,tkC]
   refine wpAnyH_ready (rs:= [11]) (by kernel_rfl) (by simp) ?_;refine AllReadyH.cons rfl (fun K hK=>?_) AllReadyH.nil;rw [if_pos (by rfl)];refine wp_store_row 31 _ _ rfl ga (tpz y0 y1 y2 y3 y4 y5 y6 y7) rfl rfl _ _ (HH4.out.block (i:=0) rfl) (Jz _ _ _ _ _ _ _ _) rfl (Uc _ _ _ _ _ _ _ _) ?_;have HB:=hid (HH4.out.setRow 0 (c':=(tpz y0 y1 y2 y3 y4 y5 y6 y7)) rfl);refine hK.out _ _ (KL.out _ (HB.out.drop 1)) (fun hHeld=>?_);clear hK K
   try simp only [Act.put,tkS,tkZ,tkC]
   refine tkA (i:=12) rfl ?_;change wpAnyH _ _ _ _ _ _ _ (Act.put _ (some 11) _) _
   try simp only [Act.put,tkS,tkZ,tkC]
   refine wpAnyH_done (by kernel_rfl) ?_ _;go_wp2_with fail;go_meet;exact ⟨rfl,HB.out.drop 1⟩
 case rest=>
 obtain ⟨rfl,hcut⟩:=hcut;have c5:wc.cell? ⟨b1,0,none⟩=some (.pointer (some ⟨cb,0,none⟩)):=(hcut.arrCell (i:=2) rfl 0).trans rfl;have d5:wc.cell? ⟨cb,3,none⟩=some (.map (some mb)):=(hcut.arrCell (i:=3) rfl 3).trans rfl;have HH5:=hid hcut;clear hcut KL HH3 HHd k1 k2 k3;have HB3:=hid (HH5.out.block (i:=0) rfl);have HX:=hid (HH5.out.setRow 0 (c':=tp0) rfl);go_wp2_with (refine JE rfl _ _ rfl b3 ByteArray.empty 0 0 0 0 0 false 0 rfl rfl _ rfl HB3.out ?_);have hld:=run_loadVar_row (P:=prog) _ b3 31 31 (tp0) (0,0) _ (HX.out.block (i:=0) rfl) underlying31 rfl (Jz _ _ _ _ _ _ _ _)
 (try simp only [Exit.inBlock,Exit.then])
 exact bodyPost_ret (v:= .tuple #[.agg (tp0),.int .i64 5]) (Qx results11 _ _ ⟨b3,0,none⟩ rfl _ hld) rfl ⟨rfl,HX.out.drop 3⟩
theorem QfM {b c:Blk} {n:Nat} (h: ∀k,k<n→Qt b k=true→Qt c k=true):JR b n≤JR c n:=by
 induction n with
 | zero=>exact Nat.le_refl _
 | succ n ih=>
   rw [Jq,Jq];have h1:=ih (fun k hk=>h k (by omega));have h2:=h n (by omega);cases hb:Qt b n with
   | false=>simp;omega
   | true=>rw [h2 hb];simp;omega
theorem Qh4 {X W:Sys} (hP:W.P=X.P) (hl: ∀j,W.live j→X.live j):X.fi≤W.fi:=by
 unfold Sys.fi;rw [hP];have:=QfM (b:=W.v X.P.im) (c:=X.v X.P.im) (n:=X.P.ni) fun k hk hb=>by
  have:=hl k (by unfold Sys.live;rw [hP];exact ⟨hk,hb⟩);exact this.2
 omega
theorem QkO (z:Blk) (hz:z=((QQ 64).drop 4).take 51):Wx (QQ 64) 0 z∧(z.getD 0 0!=0)=false:=by
 subst hz;exact ⟨⟨QA 64,by decide+kernel,rfl⟩,by decide+kernel⟩
theorem Qgq (h:At w0 w X rs) (d:Nat) (hd:X.live d) (hk:X.nd d 0=1):
 Calls prog 214 #[.pointer (some ⟨X.sb,0,none⟩),.int .i64 d] w fun e w'=>e= .returned (.tuple #[.map none,.int .i64 0,.int .i64 6])∧At w0 w' X rs:=by
 have HS:=hid (QdU h d hd);rw [hk] at HS;obtain ⟨n,hn⟩: ∃n,X.nd d 1=n:=⟨_,rfl⟩;rw [hn] at HS;clear h hd hk hn;go_enter func214,ntmps214;go_wp2_with fail;refine HS.out.mono ?_;clear HS;rintro e w2 ⟨rfl,h2⟩;have H2:=hid (h2.newArr #[.int .i64 1,.int .i64 n] 82 J9);clear h2;go_upto_region 2 with (refine Qg rfl _ _ JL rfl ?_)
 obtain ⟨y1,hy1,h1⟩:=H2.out.name;rw [hy1];have H1:=hid h1;clear hy1 H2;generalize w2.heap.size=g at*
 have d0:y1.cell? ⟨g,0,none⟩=some (.int .i64 1):=(h1.arrCell (i:=0) rfl 0).trans rfl;clear h1;go_wp2_with fail;go_ret3;exact ⟨rfl,H1.out.drop 1⟩
theorem QhX (h:At w0 w X rs) (d:Nat) (hd:X.live d) (hk:X.nd d 0=1):
 Calls prog 126 #[.pointer (some ⟨X.sb,0,none⟩),.int .i64 d] w fun e w'=>e= .returned (.tuple #[.slice none 0 0,.int .i64 6])∧At w0 w' X rs:=by
 have HN:=hid (Qgq h d hd hk);clear h hd hk;go_enter func126,ntmps126;go_wp2_with fail;refine HN.out.mono ?_;clear HN;rintro e w2 ⟨rfl,h2⟩;have H2:=hid h2;clear h2;go_wp2;go_ret2;exact ⟨rfl,H2.out⟩
structure Rm (X X':Sys) (sz:Nat):Prop where
 wr:X'=X.wr X'.l
 fi:X.fi≤X'.fi
 fb:X'.fb=X.fb+dat sz
theorem Qf4 (h:Fs w0 w F X A ι rs) (hop:X.op=true) {p:Path} {n:Nat} (hp:A p=some (.dir n)) (s:ByteArray) (hns: ∀x∈p++ [s],Qy x) (h8:p.length≤7) {x:Nd} (hx:A (p++ [s])=some x) (hno: ∀t,A (p++ [s]++ [t])=none) {C:List Nat} (hC:Cov X C) (him:X.P.im∈C) (hbm:X.P.bm∈C) (hh:JW X C (ι p)) (h60:C.length≤60)
 {i1 i2 bp bf:Nat} (b1:rs[i1]?=some (arr bf #[.pointer (some ⟨F.fb,0,none⟩)] 24 Jc)) (b2:rs[i2]?=some (arr bp #[.string (Qd (p++ [s]))] 9 QZ)):
 Calls prog 130 #[.pointer (some ⟨bf,0,none⟩),.pointer (some ⟨bp,0,none⟩)] w fun e w'=>e= .returned (.int .i64 0)∧∃X',FsW w0 w' F X' (Q4 A (p++ [s]) none) ι rs∧Rm X X' x.size:=by
 have hs:Qy s:=hns s (by simp);have hpn:A (p++ [s])≠none:=by rw [hx];exact fun e=>by cases e
 have hr:=h.2;have hroot:A []≠none:=by obtain ⟨m,hm⟩:=hr.root;rw [hm];exact fun e=>by cases e
 have hi0:0<ι (p++ [s]):=by
  rcases Nat.eq_zero_or_pos (ι (p++ [s])) with e | e
  ·have:=hr.inj (p++ [s]) [] hpn hroot (by rw [e,hr.zero]);simp at this
  ·exact e
 have HP:=hid (QbQ h hp s hns h8);have KF:Hid (∀y,Fs w0 y F X A ι rs→Calls prog 118 #[.pointer (some ⟨F.fb,0,none⟩),.int .i64 (ι p),.string s] y fun e w'=>e= .returned (.tuple #[.int .i64 (ι (p++ [s])),.int .i64 0])∧Fs w0 w' F X A ι rs):=hid fun y hy=>by
  have:=QdD hy hp s hs;rw [show JG A ι (p++ [s])=some (ι (p++ [s])) by unfold JG;rw [hx];rfl] at this;exact this
 have hli:=hr.live _ _ hx;have hlp:=hr.live _ _ hp;have KL:Hid (∀y,Fs w0 y F X A ι rs→Calls prog 126 #[.pointer (some ⟨X.sb,0,none⟩),.int .i64 (ι (p++ [s]))] y fun e w'=> ∃(k:Int) (a:Option Addr) (c:Nat),e= .returned (.tuple #[.slice a 0 c,.int .i64 k])∧(k=6∨k=0)∧Fs w0 w' F X A ι rs):=hid fun y hy=>by
  obtain ⟨⟨k,l,ha,hl⟩,hr⟩:=hy;cases x with
  | file b=>
    refine (QhX ha _ hli.1 hli.2.1).mono ?_;rintro e w' ⟨he,h'⟩;exact ⟨6,none,0,he,.inl rfl,⟨k,l,h',hl⟩,hr⟩
  | dir m=>
    refine (Qgn ha hr.ok _ hli.1 hli.2.1 _ rfl (hr.dir _ m hx).whole (fun a ha=>by
     obtain ⟨t,q1,q2,_⟩:=hr.name _ m hx a ha;exact ⟨t,q1,q2⟩)).mono ?_
    rintro e w' ⟨v,ss,he,hen,h'⟩;have hss:ss= []:=by
     cases ss with
     | nil=>rfl
     | cons z r=>
       obtain ⟨hz,i,_,hi⟩:=hen.nm z (List.mem_cons_self ..);obtain ⟨t,ht,hk,hA⟩:=hr.name _ m hx (Qj z.nm) (by rw [hi];exact fun e=>by cases e);exact absurd (hno t) hA
    subst hss;obtain ⟨a,c,rfl,-⟩:=JP (h'.1.get (i:=1) rfl);exact ⟨0,a,c,he,.inr rfl,⟨k,l,h'.drop 1,hl⟩,hr⟩
 obtain ⟨k,hk⟩: ∃k,slX (X.bytes (ι p)) ((X.bytes (ι p)).length/64) (Qj s)=some k:=by
  have:=hr.leads p s hpn;unfold JJ at this;cases hk:slX (X.bytes (ι p)) ((X.bytes (ι p)).length/64) (Qj s) with
  | none=>rw [hk] at this;cases this
  | some k=>exact ⟨k,rfl⟩
 have KR:Hid (∀y rs',At w0 y X rs'→Calls prog 131 #[.pointer (some ⟨X.sb,0,none⟩),.int .i64 (ι p),.string s] y fun e w'=>e= .returned (.int .i64 0)∧∃W,At w0 w' W rs'∧Yp X W (ι p) (64*k) (QQ 64)∧Cov W C):=hid fun y rs' hy=>by
  refine (QgK hy hop hr.ok (ι p) hlp.1 hlp.2.1 _ rfl (hr.dir p n hp).whole s hs k hk hC hbm hh.1 hh.2 h60).mono ?_;rintro e w' ⟨he,W,q1,q2,q3,_⟩;exact ⟨he,W,q1,q2,q3⟩
 have KD:Hid (∀y rs' W,At w0 y W rs'→Yp X W (ι p) (64*k) (QQ 64)→Cov W C→Calls prog 132 #[.pointer (some ⟨X.sb,0,none⟩),.int .i64 (ι (p++ [s]))] y fun e w'=>e= .returned (.int .i64 0)∧∃V,At w0 w' V rs'∧Rep V (Q4 A (p++ [s]) none) ι∧Rm X V x.size):=hid fun y rs' W hy hw hCW=>by
  have hWX:=hw.wr.eq;have hPW:W.P=X.P:=hw.wr.P;have hliW:W.live (ι (p++ [s])):=(hw.live _).2 hli.1;have hneq:ι (p++ [s])≠ι p:=fun e=>by
   have:=hr.inj _ _ hpn (by rw [hp];exact fun e=>by cases e) e;exact O3 p s this
  have hd:=Qj6 hy (by rw [hWX];exact hop) hw.ok _ hliW hi0 hCW (by rw [hPW];exact hbm) (by rw [hPW];exact him) h60;have hsb:W.sb=X.sb:=by rw [hWX];rfl
  rw [hsb] at hd;refine hd.mono ?_;rintro e w' ⟨he,V,q1,q2,q3,q4,q5,q6⟩;have hon:=hw.oth _ hli.1 hneq;have hov:=hw.QH (by
   obtain ⟨e1,_,_⟩:=Kz _ _ _ _ hk;have:=Jr X (ι p);omega)
  obtain ⟨ek,eu,ekk⟩:=Kz _ _ _ _ hk;obtain ⟨hsl,hz⟩:=QkO _ rfl;have hpw:V.bytes (ι p)=W.bytes (ι p)∧∀m,m<13→V.nd (ι p) m=W.nd (ι p) m:=q4 _ ((hw.live _).2 hlp.1) (fun e=>hneq e.symm);have hlen:64*k+64≤X.nd (ι p) 1:=by
   have:=Jr X (ι p);have:=(hr.dir p n hp).whole;omega
  have hPV:V.P=X.P:=q6.P.trans hPW;refine ⟨he,V,q1,?_,?_⟩
  ·refine hr.gone hp hpn hno q2 (fun j=>by rw [q3,hw.live]) (fun j h1 h2 h3=>?_) ?_ ?_ (by rw [hpw.1];exact hov) hsl hz ek eu ekk
   ·have a1:=q4 j ((hw.live j).2 h1) h3;have a2:=hw.oth j h1 h2;exact ⟨a1.1.trans a2.1,fun m hm=>(a1.2 m hm).trans (a2.2 m hm)⟩
   ·rw [hpw.2 0 (by omega),hw.kind];exact hlp.2.1
   ·rw [hpw.2 1 (by omega),hw.size,QA];have:X.nd (ι p) 1=n:=hlp.2.2;omega
  ·refine ⟨by rw [q6.eq,hWX];rfl,Qh4 hPV (fun j hj=>(hw.live j).1 ((q3 j).1 hj).1),?_⟩;have e1:=hw.free;have e2:W.nd (ι p) 1=X.nd (ι p) 1:=by rw [hw.size,QA];omega
   rw [e2,Nat.sub_self,Nat.add_zero] at e1;rw [q5,e1,hon.2 1 (by omega),hli.2.2]
 have HB:=hid (And.intro b1 b2);have KC:Hid (∀y Y m l,Y.sb=X.sb→At w0 y Y (fsS F X::fsL F m l::rs)→y.cell? ⟨bf,0,none⟩=some (.pointer (some ⟨F.fb,0,none⟩))∧y.cell? ⟨F.fb,2,none⟩=some (.pointer (some ⟨X.sb,0,none⟩))):=hid fun y Y m l _ hy=>
  ⟨(hy.arrCell (i:=i1+2) b1 0).trans rfl,(hy.arrCell (i:=0) rfl 2).trans rfl⟩
 have c1:w.cell? ⟨bp,0,none⟩=some (.string (Qd (p++ [s]))):=(h.arrCell b2 0).trans rfl;have c2:w.cell? ⟨bf,0,none⟩=some (.pointer (some ⟨F.fb,0,none⟩)):=(h.arrCell b1 0).trans rfl;clear h hop hp hns h8 hx hno hC him hbm hh h60 b1 b2 hs hpn hr hroot hi0 hli hlp;generalize Qd (p++ [s])=path at*
 obtain ⟨d,hd⟩: ∃d,ι p=d:=⟨_,rfl⟩;obtain ⟨i,hi⟩: ∃i,ι (p++ [s])=i:=⟨_,rfl⟩;rw [hd] at HP KF KR KD;rw [hi] at KF KL KD;clear hd hi hk;go_enter func130,ntmps130;go_wp2_with fail;refine HP.out.mono ?_;clear HP;rintro e w1 ⟨rfl,h1⟩;have H1:=hid (KF.out w1 h1);have c2:w1.cell? ⟨bf,0,none⟩=some (.pointer (some ⟨F.fb,0,none⟩)):=(h1.arrCell HB.out.1 0).trans rfl;clear h1 KF c1;go_wp2_with fail;refine H1.out.mono ?_;clear H1;rintro e w2 ⟨rfl,h2⟩;have c2:w2.cell? ⟨bf,0,none⟩=some (.pointer (some ⟨F.fb,0,none⟩)):=(h2.arrCell HB.out.1 0).trans rfl;have c3:w2.cell? ⟨F.fb,2,none⟩=some (.pointer (some ⟨X.sb,0,none⟩)):=(h2.cells 2).trans rfl;have H2:=hid (KL.out w2 h2);clear h2 KL;go_wp2_with fail;refine H2.out.mono ?_;clear H2;rintro e w3 ⟨k6,a,c,rfl,hk6,⟨⟨m,l,h3,hl3⟩,hr3⟩⟩;obtain ⟨c2,c3⟩:=KC.out _ _ _ _ rfl h3;have H3:=hid (KR.out _ _ h3);clear h3 hl3 hr3 KR;rcases hk6 with rfl | rfl
 all_goals
  go_wp2_with fail;refine H3.out.mono ?_;clear H3 c2 c3;rintro e w4 ⟨rfl,W,h4,hw4,hc4⟩;obtain ⟨c2,c3⟩:=KC.out _ _ _ _ (by rw [hw4.wr.eq];rfl) h4;have H4:=hid (KD.out _ _ _ h4 hw4 hc4);clear h4 hw4 hc4 KD;go_wp2_with fail;refine H4.out.mono ?_;clear H4 c2 c3;rintro e w5 ⟨rfl,V,h5,hr5,hrm⟩;have H5:Hid (FsW w0 w5 F V (Q4 A (p++ [s]) none) ι rs∧Rm X V x.size):=hid ⟨⟨⟨m,l,by
   have e1:fsS F V=fsS F X:=by rw [hrm.wr];rfl
   rw [e1];exact h5⟩,hr5⟩,hrm⟩
  clear h5 hr5 hrm;go_wp2;go_ret;exact ⟨rfl,V,H5.out.1,H5.out.2⟩
theorem Qfp:QE prog 130:=QJ func130 (by kernel_rfl) rfl
structure Qas (X Y:Sys) (sz:Nat):Prop where
 same:Ot X Y
 op:Y.op=false
 l:Y.l= []
 m:Y.m=X.m+1
 fi:X.fi≤Y.fi
 fb:Y.fb=X.fb+dat sz
theorem OG (h:Fs w0 w F X A ι rs) (hc:Calm F X) (hm:X.m<1000000) {p:Path} {n:Nat} (hp:A p=some (.dir n)) (s:ByteArray) (hns: ∀x∈p++ [s],Qy x) (h8:p.length≤7) {x:Nd} (hx:A (p++ [s])=some x) (hno: ∀t,A (p++ [s]++ [t])=none):
 Calls prog 59 #[.pointer (some ⟨F.fb,0,none⟩),.string (Qd (p++ [s]))] w fun e w'=>e= .returned (.int .i64 0)∧∃Y,Fs w0 w' F Y (Q4 A (p++ [s]) none) ι rs∧Qas X Y x.size:=by
 have h1:=(h.newArr #[.pointer (some ⟨F.fb,0,none⟩)] 24 Jc).newArr #[.string (Qd (p++ [s]))] 9 QZ;have hlp:=h.2.live p _ hp;have hn0:X.nd (ι p) 1=n:=hlp.2.2;have hn5:n≤5120:=by rw [←hn0];exact h.2.ok.size (ι p) hlp.1
 have hdn:dat n≤10:=Yq hn5;have hk0:X.open'.keys= []:=by show X.l.map (·.1)= [];rw [hc.l];rfl
 have HC:=hid (Qbz h1 hc.b hc.d hc.op hc.lim hm 130 #[.pointer (some ⟨w.heap.size,0,none⟩),.pointer (some ⟨(w.alloc (.cells #[.pointer (some ⟨F.fb,0,none⟩)] 24 (0,0))).heap.size,0,none⟩)] Qfp (K:=fun X' A' ι'=>A'=Q4 A (p++ [s]) none∧ι'=ι∧Rm X.open' X' x.size) (fun y hy=>by
  refine (Qf4 hy (C:=X.P.im::X.P.bm::Ew X (ι p)) rfl hp s hns h8 hx hno (fun k hk'=>by rw [hk0] at hk';cases hk') (List.mem_cons_self ..) (List.mem_cons_of_mem _ (List.mem_cons_self ..)) (Vv (X:=X.open') fun c hc=>List.mem_cons_of_mem _ (List.mem_cons_of_mem _ hc)) (by rw [List.length_cons,List.length_cons,YQ,hn0];omega) (i1:=1) (i2:=0) rfl rfl).mono ?_;rintro e w' ⟨he,X',q1,q2⟩;exact ⟨he,X',_,_,q1,q2.wr,rfl,rfl,q2⟩))
 have c0:=(h1.arrCell (i:=1) rfl 0).trans (show (#[Value.pointer (some ⟨F.fb,0,none⟩)]:Array Value)[0]?=some (.pointer (some ⟨F.fb,0,none⟩)) from rfl);simp only [size_alloc] at HC c0;have hmf: ∀(fn:Fn) (first cap:Array Value) (W:World),(Instr.makeFunc fn first cap).run prog W= .ok (.func fn first cap) W:=fun _ _ _ _=>rfl
 clear h hc hm hp hns h8 hx hno h1 hlp hn0 hn5 hdn hk0;have HFIN:Hid (∀X' Y,Rm X.open' X' x.size→Comm X' Y→Qas X Y x.size):=hid fun X' Y hr hc=>by
  have e1:Y.fi=X'.fi:=by unfold Sys.fi;rw [hc.v,hc.same.P]
  have e2:Y.fb=X'.fb:=by unfold Sys.fb;rw [hc.v,hc.same.P]
  exact ⟨Ot.trans (by rw [hr.wr];exact ⟨rfl,rfl,rfl,rfl,rfl,rfl,rfl⟩) hc.same,hc.op,hc.l,hc.m.trans (by rw [hr.wr];rfl),by rw [e1];exact hr.fi,by rw [e2];exact hr.fb⟩
 obtain ⟨A2,hA2⟩: ∃A2,Q4 A (p++ [s]) none=A2:=⟨_,rfl⟩;rw [hA2] at HC ⊢;generalize Qd (p++ [s])=path at*
 clear hA2;go_enter func59,ntmps59;go_wp2_with fail;refine HC.out.mono ?_;rintro e w2 ⟨rfl,X',A',ι',Y,h2,hcm,hx,rfl,rfl,hrm⟩;have H2:=hid (And.intro (h2.drop 2) (HFIN.out X' Y hrm hcm));clear h2 hcm hx hrm HC c0 HFIN;go_wp2;go_ret;exact ⟨rfl,Y,H2.out.1,H2.out.2⟩
def SynV (w:World):Prop:= ∃tp pe,w.cell? ⟨2,0,none⟩=some (.iface tp pe)
theorem SynV.frm {w w':World} (h:SynV w) (hf:Frm NoB w w'):SynV w':=by
 obtain ⟨tp,pe,h⟩:=h;exact ⟨tp,pe,(hf.cell (Lib.lt_of_cell h) (fun e=>e)).trans h⟩
theorem QgO (w:World) (s a b:ByteArray) (i:Nat) (h:Lib.indexByte s.data.toList 45=i) (h1:i+1≤s.size) (h2:s.size≤1000) (ha:s.extract 0 i=a) (hb:s.extract (i+1) s.size=b):
 Calls prog 219 #[.string s,.string ⟨#[45]⟩] w fun e w'=>e= .returned (.tuple #[.string a,.string b,.bool true])∧Frm NoB w w':=by
 have HI:=hid (Any.stringslite_Index_one { Tryz.strCut with } s 45 w);rw [h] at HI;have HI:Hid (Calls prog 275 #[.string s,.string ⟨#[45]⟩] w fun e w'=>e= .returned (.int .i64 (i:Int))∧w'=w):=HI;have c0:(0:Int)≤(i:Int):=Qk _;have c1:(i:Int)+1≤(s.size:Int):=by omega
 have c2:(s.size:Int)≤1000:=by omega
 have c3:(i:Int)≤(s.size:Int):=by omega
 have c4:(0:Int)≤(i:Int)+1:=by omega
 have HS:=hid (And.intro ha hb);clear h h1 h2 ha hb;go_enter func219,ntmps219;go_wp2_with fail;refine HI.out.mono ?_;rintro e w' ⟨rfl,rfl⟩;clear HI;go_upto_region 3 with fail
 go_region;go_wp2;go_ret3;obtain ⟨rfl,rfl⟩:=HS.out;exact ⟨rfl,(Frm.refl NoB w').drew⟩
theorem Qie (w:World) (s:ByteArray) (h:Lib.indexByte s.data.toList 45= -1):
 Calls prog 219 #[.string s,.string ⟨#[45]⟩] w fun e w'=>e= .returned (.tuple #[.string s,.string ⟨#[]⟩,.bool false])∧Frm NoB w w':=by
 have HI:=hid (Any.stringslite_Index_one { Tryz.strCut with } s 45 w);rw [h] at HI;have HI:Hid (Calls prog 275 #[.string s,.string ⟨#[45]⟩] w fun e w'=>e= .returned (.int .i64 (-1))∧w'=w):=HI;clear h;go_enter func219,ntmps219;go_wp2_with fail;refine HI.out.mono ?_;rintro e w' ⟨rfl,rfl⟩;go_wp2;go_ret3;exact ⟨rfl,Frm.refl NoB w'⟩
theorem QeV {w:World} {s a b:ByteArray} {ok:Bool} (h:Calls prog 219 #[.string s,.string ⟨#[45]⟩] w fun e w'=>e= .returned (.tuple #[.string a,.string b,.bool ok])∧Frm NoB w w'):
 Calls prog 128 #[.string s,.string ⟨#[45]⟩] w fun e w'=>e= .returned (.tuple #[.string a,.string b,.bool ok])∧Frm NoB w w':=by
 have HI:=hid h;clear h;go_enter func128,ntmps128;go_wp2_with fail;refine HI.out.mono ?_;rintro e w' ⟨rfl,hf⟩;have HF:=hid hf;clear hf;go_wp2;go_ret3;exact ⟨rfl,HF.out⟩
theorem Qgr: ∀i,i<100→Lib.atoi (Lib.decDigits i)=some (i:Int):=by decide+kernel
theorem QeT (w:World) (i:Nat) (hi:i<100):Calls prog 129 #[.string (J7 i)] w fun e w'=>e= .returned (.tuple #[.int .i64 i,.bool true])∧Frm NoB w w':=by
 have hsz:=Ut i hi;have HA:Hid (Calls prog 220 #[.string (J7 i)] w fun e w'=>e= .returned (.tuple #[.int .i64 (i:Int),.nilIface])∧∃t,w'=Lib.bytesWorld w (Tryz.atoi_ren.t 5) t):=hid (Any.strconv_Atoi { Tryz.atoi with } (J7 i) i (by split at hsz<;>omega) (Qgr i hi) w);have HT:Hid (∀W,Calls prog 60 #[.int .i64 i] W fun e w'=>W=w'∧e= .returned (.string (J7 i))):=hid fun W=>itoa W i hi
 have c0:(0:Int)≤(i:Int):=Qk _;generalize J7 i=s at*
 clear hsz;go_enter func129,ntmps129;go_wp2_with fail;refine HA.out.mono ?_;rintro e w2 ⟨rfl,t,hw2⟩;have HF:=hid (Frm.ofBelow (hw2▸Lib.bytesWorld_below w (Tryz.atoi_ren.t 5) t) rfl NoB);clear hw2 HA;go_wp2_with fail;refine (HT.out _).mono ?_;rintro e w3 ⟨rfl,rfl⟩;go_wp2;go_ret2;exact ⟨rfl,HF.out⟩
theorem QgY (w:World) (hE:SynV w) (s:ByteArray) (hl:s.size≤18) (h:Lib.atoi s.data.toList=none):Calls prog 129 #[.string s] w fun e w'=>e= .returned (.tuple #[.int .i64 0,.bool false])∧Frm NoB w w':=by
 obtain ⟨tp,pe,hE⟩:=hE;have HA:Hid (Calls prog 220 #[.string s] w fun e w'=> ∃N,e= .returned (.tuple #[.int .i64 0,.iface (Tryz.atoi_ren.t 168) (.pointer (some ⟨N,0,none⟩))])∧w.heap.size≤N∧w'.heap[N]?=some (.cells #[.string ⟨#[65,116,111,105]⟩,.string s,.iface tp pe] (Tryz.atoi_ren.t 210) (0,0))∧Below w.heap.size w w'):=hid (Any.strconv_Atoi_err Tryz.atoi s hl h _ w hE (Or.inr ⟨_,_,rfl⟩));clear hE h hl;go_enter func129,ntmps129;go_wp2_with fail;refine HA.out.mono ?_;rintro e w2 ⟨N,rfl,-,-,hb⟩;have HF:=hid (Frm.ofBelow hb rfl NoB);clear hb HA;go_wp2;go_ret2;exact ⟨rfl,HF.out⟩
def EI (id p:Nat):ByteArray:=⟨(Lib.decDigits id++45::Lib.decDigits p).toArray⟩
theorem QfP: ∀id,id<100→∀p,p<10→Lib.indexByte (EI id p).data.toList 45=((J7 id).size:Int)∧(J7 id).size+1≤(EI id p).size∧(EI id p).size≤1000∧(EI id p).extract 0 (J7 id).size=J7 id∧(EI id p).extract ((J7 id).size+1) (EI id p).size=J7 p:=by decide+kernel
theorem WH: ∀id,id<100→∀p,p<10→(Qe id p).size=4∨(Qe id p).size=5:=by decide+kernel
theorem Qg0 (a b:Int):((#[Value.int .i64 a,.int .i64 b]:Array Value).all fun x=>x.oneCell')=true:=by simp [Value.oneCell']
theorem QkN (w:World) (id p:Nat):Calls prog 127 #[.string (Qe id p),.string ⟨#[116]⟩] w fun e w'=>e= .returned (.tuple #[.string (EI id p),.bool true])∧w'=w:=Any.strings_CutPrefix Tryz.cutPrefix (Qe id p) ⟨#[116]⟩ w
theorem Qgf (h:Fs w0 w F X A ι rs) (hE:SynV w0.w) (cb:Nat):
 Calls prog 58 #[.pointer (some ⟨cb,0,none⟩),.string lsN] w fun e w'=>e= .returned (.bool false)∧Fs w0 w' F X A ι rs:=by
 have HC:Hid (Calls prog 127 #[.string lsN,.string ⟨#[116]⟩] w fun e w'=>e= .returned (.tuple #[.string lsN,.bool false])∧w'=w):=hid (Any.strings_CutPrefix Tryz.cutPrefix lsN ⟨#[116]⟩ w);have HD:Hid (∀W,Calls prog 128 #[.string lsN,.string ⟨#[45]⟩] W fun e w'=>e= .returned (.tuple #[.string lsN,.string ⟨#[]⟩,.bool false])∧Frm NoB W w'):=hid fun W=>QeV (Qie W lsN (by decide+kernel))
 have HN:Hid (∀W,Fs w0 W F X A ι rs→SynV W):=hid fun W hW=>by
  obtain ⟨⟨k,l,ha,-⟩,-⟩:=hW;exact hE.frm ha.1.base
 have HN1:Hid (∀W,SynV W→Calls prog 129 #[.string lsN] W fun e w'=>e= .returned (.tuple #[.int .i64 0,.bool false])∧Frm NoB W w'):=hid fun W hW=>QgY W hW _ (by decide+kernel) (by decide+kernel)
 have HN2:Hid (∀W,SynV W→Calls prog 129 #[.string ⟨#[]⟩] W fun e w'=>e= .returned (.tuple #[.int .i64 0,.bool false])∧Frm NoB W w'):=hid fun W hW=>QgY W hW _ (by decide+kernel) (by decide+kernel)
 have H:=hid h;clear h hE;generalize lsN=s at*
 go_enter func58,ntmps58;go_wp2_with fail;refine HC.out.mono ?_;rintro e w' ⟨rfl,rfl⟩;clear HC;go_wp2_with fail;refine (HD.out _).mono ?_;rintro e w2 ⟨rfl,hf⟩;have H2:=hid (H.out.frm hf);clear hf HD;go_wp2_with fail;refine (HN1.out _ (HN.out _ H2.out)).mono ?_;rintro e w3 ⟨rfl,hf⟩;have H3:=hid (H2.out.frm hf);clear hf HN1;go_wp2_with fail;refine (HN2.out _ (HN.out _ H3.out)).mono ?_;rintro e w4 ⟨rfl,hf⟩;have H4:=hid (H3.out.frm hf);clear hf HN2;go_wp2;go_ret;exact ⟨rfl,H4.out⟩
theorem QjH (h:Fs w0 w F X A ι rs) {cb mb i j:Nat} {next:Int} {L:List Tp} (hr:rs[i]?=some (Je cb F.fb next mb)) (hr2:rs[j]?=some (Q8 mb L)) (hroot: ∃m,A []=some (.dir m)) {n:Nat} (hc:A [cN]=some (.dir n)) (id p:Nat) (hiD:id<100) (hp:p<10) {m:Nat} (hd:A [cN,Qe id p]=some (.dir m)) (hL:Q9 L):
 Calls prog 58 #[.pointer (some ⟨cb,0,none⟩),.string (Qe id p)] w fun e w'=> ∃v:Bool,e= .returned (.bool v)∧(v=true↔∀t∈L,t.id≠id)∧Fs w0 w' F X A ι rs:=by
 have HC:=hid (QkN w id p);obtain ⟨q1,q2,q3,q4,q5⟩:=QfP id hiD p hp;have HD:Hid (∀W,Calls prog 128 #[.string (EI id p),.string ⟨#[45]⟩] W fun e w'=>e= .returned (.tuple #[.string (J7 id),.string (J7 p),.bool true])∧Frm NoB W w'):=hid fun W=>QeV (QgO W _ _ _ _ q1 q2 q3 q4 q5)
 have HN1:Hid (∀W,Calls prog 129 #[.string (J7 id)] W fun e w'=>e= .returned (.tuple #[.int .i64 id,.bool true])∧Frm NoB W w'):=hid fun W=>QeT W id hiD
 have HN2:Hid (∀W,Calls prog 129 #[.string (J7 p)] W fun e w'=>e= .returned (.tuple #[.int .i64 p,.bool true])∧Frm NoB W w'):=hid fun W=>QeT W p (by omega)
 have HM:Hid (∀W,Fs w0 W F X A ι rs→Qn JA okK W mb L.length (tpV (QX L))∧W.cell? ⟨cb,3,none⟩=some (.map (some mb))):=hid fun W hW=>⟨Fs.catAt hW hr2,(hW.arrCell hr 3).trans rfl⟩
 have KS:Hid (∀W rs' (i':Nat),rs'[i']?=some (Je cb F.fb next mb)→Fs w0 W F X A ι rs'→W.cell? ⟨cb,0,none⟩=some (.pointer (some ⟨F.fb,0,none⟩))∧W.cell? ⟨cb,1,none⟩=some (.string (Qd [cN]))):=hid fun W rs' i' hr' hW=>⟨(hW.arrCell hr' 0).trans rfl,(hW.arrCell hr' 1).trans rfl⟩
 have H:=hid h;have HLL:Hid (∀a t,QX L a=some t→t∈L):=hid fun a t ht=>List.mem_of_find?_eq_some ht
 have HLM:Hid (∀t∈L,okK (Qj t.nm)∧QX L (Qj t.nm)=some t):=hid fun t ht=>⟨Qr _ (hL.nm t ht),(hL.find (hL.nm t ht)).2 ⟨ht,rfl⟩⟩
 have HX:=hid (And.intro hr (And.intro hroot (And.intro hc hd)));have hds:(Qd [cN]).size=2:=rfl;have hss:=WH id hiD p hp;have happ: ∀a b:ByteArray,(a++b).size=a.size+b.size:=fun a b=>ByteArray.size_append
 have hl1:(⟨#[47]⟩:ByteArray).size=1:=rfl;have hpp:Qd [cN]++⟨#[47]⟩++Qe id p=Qd [cN,Qe id p]:=by
  have h:=Vt [cN] (Qe id p);refine ByteArray.ext (Array.toList_inj.1 ?_);show _=(Qd ([cN]++ [Qe id p])).data.toList;rw [h];simp only [ByteArray.toList_data_append];simp [List.append_assoc]
 have HST:Hid (∀W rs' (i':Nat),rs'[i']?=some (Je cb F.fb next mb)→Fs w0 W F X A ι rs'→W.cell? ⟨cb,0,none⟩=some (.pointer (some ⟨F.fb,0,none⟩))∧W.cell? ⟨cb,1,none⟩=some (.string (Qd [cN]))∧Calls prog 35 #[.pointer (some ⟨F.fb,0,none⟩),.string (Qd [cN]++⟨#[47]⟩++Qe id p)] W fun e w'=>e= .returned (.tuple #[.agg #[.int .i64 2,.int .i64 m],.int .i64 0])∧Fs w0 w' F X A ι rs'):=hid fun W rs' i' hr' hW=>by
  refine ⟨(hW.arrCell hr' 0).trans rfl,(hW.arrCell hr' 1).trans rfl,?_⟩;rw [hpp];have:=Qbd hW [cN,Qe id p] (by simp) (by simp [Y2,VJ hiD hp]) (by simp) (fun k hk _=>by
   have hk2:k=0∨k=1:=by have:k<2:=hk;omega
   rcases hk2 with rfl | rfl
   ·exact hroot
   ·exact ⟨n,hc⟩)
  rw [show UW A [cN,Qe id p]= .tuple #[.agg #[.int .i64 2,.int .i64 m],.int .i64 0] from by unfold UW;rw [hd];rfl] at this;exact this
 clear h hr hr2 hroot hc hd hL q1 q2 q3 q4 q5 hpp;generalize J7 id=x1 at*
 generalize J7 p=x2 at*
 generalize Qe id p=s at*
 generalize Qd [cN]=dir at*
 generalize EI id p=s2 at*
 go_enter func58,ntmps58;go_wp2_with fail;refine HC.out.mono ?_;rintro e w' ⟨rfl,rfl⟩;clear HC;go_wp2_with fail;refine (HD.out _).mono ?_;rintro e w2 ⟨rfl,hf⟩;have HF2:=hid hf;clear hf HD;go_wp2_with fail;refine (HN1.out _).mono ?_;rintro e w3 ⟨rfl,hf⟩;have HF3:=hid (HF2.out.trans hf fun _ _ e=>e);clear hf HN1 HF2;go_wp2_with fail;refine (HN2.out _).mono ?_;rintro e w4 ⟨rfl,hf⟩;have HF4:=hid (HF3.out.trans hf fun _ _ e=>e);have H4:=hid (H.out.frm HF4.out);clear hf HN2 HF3 HF4;have c4:=(HM.out _ H4.out).2;have HM4:=hid (HM.out _ H4.out).1;clear HM H;go_wp2_with (at_range;refine Vb rfl _ 91 rfl 95 31 underlying91 rfl HM4.out ?_;intro o' hrg);have hf5:Frm NoB w4 (w4.alloc o'):=(Frm.refl NoB w4).alloc _;have HMB:=hid (show mb<w4.heap.size from HM4.out.lt);obtain ⟨y5,hy5⟩: ∃y5,w4.alloc o'=y5:=⟨_,rfl⟩;obtain ⟨r,hrr⟩: ∃r,w4.heap.size=r:=⟨_,rfl⟩;rw [hy5] at hrg hf5;rw [hrr] at hrg HMB;rw [hy5,hrr];have HRG:=hid hrg;have HF5:=hid hf5;have HR:=hid hrr;clear hrg hf5 hy5 hrr HM4;go_frame;go_loopw [4] (fun _ wr=> ∃(left:Blk→Prop) (cnt:Nat),Hid (QG JA okK wr mb r L.length (tpV (QX L)) left cnt)∧Hid (Frm NoB w4 wr)∧Hid (∀t∈L,left (Qj t.nm)∨t.id≠id)) (fun _ wr=>wr.rangeLeft mb r)
 case atStart=>exact ⟨_,_,HRG,HF5,hid fun t ht=> .inl (by rw [tpV,(HLM.out t ht).2];rfl)⟩
 case round=>
  clear HRG HF5;obtain ⟨left,cnt,HRG,HF,HA⟩:=hrel;go_wp2_with (at_next;refine VA rfl _ rfl YU rfl HRG.out ?_ ?_)
  ·intro hdn;have HD:=hid hdn;have H6:=hid (H4.out.frm (HF.out.drew));have HALL:Hid (∀t∈L,t.id≠id):=hid fun t ht=>(HA.out t ht).resolve_left (hdn _ (HLM.out t ht).1)
   clear hdn HA HRG;obtain ⟨-,-,hst⟩:=HST.out _ _ _ HX.out.1 H6.out;have HS:=hid hst;have H6A:=hid (((H4.out.frm HF.out).newArr #[.int .i64 0,.int .i64 0] 82 J9).frm (Frm.refl NoB _).drew);obtain ⟨-,-,hst2⟩:=HST.out _ _ (i+1) HX.out.1 H6A.out;have HS2:=hid hst2;clear hst hst2;have hno: ¬9223372036854775807<3+s.size:=by omega
   go_upto_region 12 with fail
   --R
   refine wp_region_held_drew (S:=(fun y=>y.cell? ⟨cb,0,none⟩=some (.pointer (some ⟨F.fb,0,none⟩))∧y.cell? ⟨cb,1,none⟩=some (.string dir))) (by kernel_rfl) (KS.out _ _ _ HX.out.1 H6.out) (fun hHeld=>?_);refine tkA (i:=0) rfl ?_
   try simp only [Act.put,tkS,tkZ,tkC]
   refine tkA (i:=1) rfl ?_
   try simp only [Act.put,tkS,tkZ,tkC]
   refine tkA (i:=2) rfl ?_
   try simp only [Act.put,tkS,tkZ,tkC]
   refine tkA (i:=3) rfl ?_
   try simp only [Act.put,tkS,tkZ,tkC]
   refine tkA (i:=4) rfl ?_
   try simp only [Act.put,tkS,tkZ,tkC]
   refine tkA (i:=5) rfl ?_
   try simp only [Act.put,tkS,tkZ,tkC]
   refine tkA (i:=6) rfl ?_
   try simp only [Act.put,tkS,tkZ,tkC]
   refine tkA (i:=7) rfl ?_
   try simp only [Act.put,tkS,tkZ,tkC]
   refine tkA (i:=8) rfl ?_
   try simp only [Act.put,tkS,tkZ,tkC]
   refine tkA (i:=9) rfl ?_
   try simp only [Act.put,tkS,tkZ,tkC]
   refine tkA (i:=10) rfl ?_
   try simp only [Act.put,tkS,tkZ,tkC]
   refine wpAnyH_ready (rs:= [11,15]) (by kernel_rfl) (by simp) ?_;refine AllReadyH.cons rfl (fun K hK=>?_) ?_
   ·go_simp
    (with_reducible refine HS.out.mono ?_)
    rintro e w7 ⟨rfl,h7⟩;go_wp2_with fail;have H7:=hid h7;clear h7;refine hK.out _ _ (KS.out _ _ _ HX.out.1 H7.out) (fun hHeld=>?_);clear hK K
    try simp only [Act.put,tkS,tkZ,tkC]
    refine tkA (i:=12) rfl ?_
    try simp only [Act.put,tkS,tkZ,tkC]
    refine tkA (i:=13) rfl ?_
    try simp only [Act.put,tkS,tkZ,tkC]
    refine tkA (i:=14) rfl ?_
    try simp only [Act.put,tkS,tkZ,tkC]
    refine wpAnyH_ready (rs:= [15]) (by kernel_rfl) (by simp) ?_;refine AllReadyH.cons rfl (fun K hK=>?_) AllReadyH.nil;go_simp;have HA:=hid (H7.out.newArr #[.int .i64 0,.int .i64 0] 82 J9);refine hK.out _ _ (KS.out _ _ (i+1) HX.out.1 HA.out) (fun hHeld=>?_);clear hK K
    try simp only [Act.put,tkS,tkZ,tkC]
    refine wpAnyH_ready (rs:= [16]) (by kernel_rfl) (by simp) ?_;refine AllReadyH.cons rfl (fun K hK=>?_) AllReadyH.nil;rw [if_pos (by rfl)];refine wp_store_row 82 _ _ rfl w7.heap.size #[.int .i64 2,.int .i64 m] rfl rfl _ _ (HA.out.block (i:=0) rfl) (Vd _ _) rfl (Qg0 _ _) ?_;have HB:=hid (HA.out.setRow 0 (c':= #[.int .i64 2,.int .i64 m]) rfl);refine hK.out _ _ (KS.out _ _ (i+1) HX.out.1 HB.out) (fun hHeld=>?_);clear hK K
    try simp only [Act.put,tkS,tkZ,tkC]
    refine tkA (i:=17) rfl ?_;change wpAnyH _ _ _ _ _ _ _ (Act.put _ (some 17) _) _
    try simp only [Act.put,tkS,tkZ,tkC]
    refine wpAnyH_done (by kernel_rfl) ?_ _;have c16:=(HB.out.arrCell (i:=0) rfl 0).trans (show (#[.int .i64 2,.int .i64 m]:Array Value)[0]?=some (.int .i64 2) from rfl);go_wp2;go_ret;exact ⟨true,rfl,by simpa using HALL.out,HB.out.drop 1⟩
   ·refine AllReadyH.cons rfl (fun K hK=>?_) AllReadyH.nil;go_simp;refine hK.out _ _ (KS.out _ _ (i+1) HX.out.1 H6A.out) (fun hHeld=>?_);clear hK K
    try simp only [Act.put,tkS,tkZ,tkC]
    obtain ⟨wa,hwa⟩: ∃wa,(wr.alloc (.cells #[.int .i64 0,.int .i64 0] 82 (0,0))).drew=wa:=⟨_,rfl⟩;obtain ⟨ga,hga⟩: ∃ga,wr.heap.size=ga:=⟨_,rfl⟩;change wpAnyH _ _ _ _ _ _ _ _ ((wr.alloc (.cells #[.int .i64 0,.int .i64 0] 82 (0,0))).drew);have hHeld2:=hHeld;clear hHeld;have hHeld:=KS.out _ _ (i+1) HX.out.1 H6A.out;clear hHeld2;rw [hwa,hga] at H6A;rw [hwa] at hHeld HS2;rw [hwa,hga];rw [hga] at HS2;clear hwa hga;refine wpAnyH_ready (rs:= [11]) (by kernel_rfl) (by simp) ?_;refine AllReadyH.cons rfl (fun K hK=>?_) AllReadyH.nil;go_simp
    (with_reducible refine HS2.out.mono ?_)
    rintro e w7 ⟨rfl,h7⟩;go_wp2_with fail;have H7:=hid h7;clear h7;refine hK.out _ _ (KS.out _ _ (i+1) HX.out.1 H7.out) (fun hHeld=>?_);clear hK K
    try simp only [Act.put,tkS,tkZ,tkC]
    refine tkA (i:=12) rfl ?_
    try simp only [Act.put,tkS,tkZ,tkC]
    refine tkA (i:=13) rfl ?_
    try simp only [Act.put,tkS,tkZ,tkC]
    refine tkA (i:=14) rfl ?_
    try simp only [Act.put,tkS,tkZ,tkC]
    refine wpAnyH_ready (rs:= [16]) (by kernel_rfl) (by simp) ?_;refine AllReadyH.cons rfl (fun K hK=>?_) AllReadyH.nil;rw [if_pos (by rfl)];refine wp_store_row 82 _ _ rfl ga #[.int .i64 2,.int .i64 m] rfl rfl _ _ (H7.out.block (i:=0) rfl) (Vd _ _) rfl (Qg0 _ _) ?_;have HB:=hid (H7.out.setRow 0 (c':= #[.int .i64 2,.int .i64 m]) rfl);refine hK.out _ _ (KS.out _ _ (i+1) HX.out.1 HB.out) (fun hHeld=>?_);clear hK K
    try simp only [Act.put,tkS,tkZ,tkC]
    refine tkA (i:=17) rfl ?_;change wpAnyH _ _ _ _ _ _ _ (Act.put _ (some 17) _) _
    try simp only [Act.put,tkS,tkZ,tkC]
    refine wpAnyH_done (by kernel_rfl) ?_ _;have c16:=(HB.out.arrCell (i:=0) rfl 0).trans (show (#[.int .i64 2,.int .i64 m]:Array Value)[0]?=some (.int .i64 2) from rfl);go_wp2;go_ret;exact ⟨true,rfl,by simpa using HALL.out,HB.out.drop 1⟩
   --E
  ·intro x v w6 cnt6 hxo hxl hxv hrg6 hlt hf6 hsz6 hen;obtain ⟨nm,p1,p2,p3,p4,p5,p6,p7,ht,rfl⟩: ∃nm p1 p2 p3 p4 p5 p6 p7,QX L x=some ⟨nm,p1,p2,p3,p4,p5,p6,p7⟩∧v= .agg #[.string nm,.int .i64 p1,.int .i64 p2,.int .i64 p3,.int .i64 p4,.int .i64 p5,.bool p6,.int .i64 p7]:=by
    unfold tpV at hxv;cases hM:QX L x with
    | none=>rw [hM] at hxv;cases hxv
    | some t=>
      obtain ⟨nm,p1,p2,p3,p4,p5,p6,p7⟩:=t;rw [hM] at hxv;injection hxv with hxv
      exact ⟨nm,p1,p2,p3,p4,p5,p6,p7,rfl,hxv.symm⟩
   have hrw:r<w6.heap.size:=hrg6.lt;have hf7:Frm NoB w4 (w6.alloc (.cells #[.string nm,.int .i64 p1,.int .i64 p2,.int .i64 p3,.int .i64 p4,.int .i64 p5,.bool p6,.int .i64 p7] 31 (0,0))):=(HF.out.trans hf6 fun x hx (hxr:x=r)=>by have:=HR.out;omega).alloc _;have hrg7:=hrg6.of_blocks (w':=w6.alloc (.cells #[.string nm,.int .i64 p1,.int .i64 p2,.int .i64 p3,.int .i64 p4,.int .i64 p5,.bool p6,.int .i64 p7] 31 (0,0))) (((Frm.refl NoB w6).alloc _).block mb (Nat.lt_trans HMB.out hrw) fun e=>e) (((Frm.refl NoB w6).alloc _).block r hrw fun e=>e);have hb:=Qb w6 (.cells #[.string nm,.int .i64 p1,.int .i64 p2,.int .i64 p3,.int .i64 p4,.int .i64 p5,.bool p6,.int .i64 p7] 31 (0,0));have c1:(w6.alloc (.cells #[.string nm,.int .i64 p1,.int .i64 p2,.int .i64 p3,.int .i64 p4,.int .i64 p5,.bool p6,.int .i64 p7] 31 (0,0))).cell? ⟨w6.heap.size,1,none⟩=some (.int .i64 p1):=(Qa hb).trans rfl;have HF7:=hid hf7;have HRG7:=hid hrg7;have HT:=hid ht;have HLT:=hid (And.intro hlt (And.intro HRG.out.left_eq hrg7.left_eq));clear hxo hxl hxv hrg6 hlt hf6 hsz6 hf7 hrg7 hb ht hrw HRG HF;by_cases hid1:p1=(id:Int)
   ·subst hid1;go_wp2;go_ret;exact ⟨false,rfl,by simpa using ⟨_,HLL.out _ _ HT.out,rfl⟩,H4.out.frm HF7.out⟩
   ·go_wp2_with fail;go_roundw
    case rel=>
     refine ⟨_,cnt6,HRG7,HF7,hid fun t htL=>?_⟩;by_cases hk:Qj t.nm=x
     ·have:=(HLM.out t htL).2;rw [hk,HT.out] at this;injection this with this
      rw [←this];exact .inr hid1
     ·exact (HA.out t htL).imp (fun h=>⟨h,hk⟩) fun h=>h
    case _=>(first | (rw [HLT.out.2.1,HLT.out.2.2];exact HLT.out.1) | (show World.rangeLeft _ mb r<World.rangeLeft _ mb r;have h1:=HLT.out.1;have h2:=HLT.out.2.1;have h3:=HLT.out.2.2;omega) | fail)
def Qef (ns:List ByteArray) (G:ByteArray→Prop) (r:Int):Prop:=(r= -1∧∀s∈ns,¬G s)∨∃k s,r=((k:Nat):Int)∧ns[k]?=some s∧G s
theorem QiK {v:Value} {ns:List ByteArray} (h:Fs w0 w F X A ι (QW 9 QZ 1 v ns.length (ns.map .string)::rs)) (hlen:ns.length≤2000) (cb:Nat) (G:ByteArray→Prop)
 (hK: ∀s∈ns,∀W,Fs w0 W F X A ι (QW 9 QZ 1 v ns.length (ns.map .string)::rs)→Calls prog 58 #[.pointer (some ⟨cb,0,none⟩),.string s] W fun e w'=> ∃b:Bool,e= .returned (.bool b)∧(b=true↔G s)∧Fs w0 w' F X A ι (QW 9 QZ 1 v ns.length (ns.map .string)::rs)):
 Calls prog 57 #[v,.func (.func 58) #[.pointer (some ⟨cb,0,none⟩)] #[]] w fun e w'=> ∃r:Int,e= .returned (.int .i64 r)∧Qef ns G r∧Fs w0 w' F X A ι (QW 9 QZ 1 v ns.length (ns.map .string)::rs):=by
 obtain ⟨a,c,rfl,hnc,hag⟩:=JP (h.rowAt (i:=0) rfl);have n0:(0:Int)≤(ns.length:Int):=Qk _;have n2:(ns.length:Int)≤2000:=by omega
 have nc:(ns.length:Int)≤(c:Int):=by omega
 have H:=hid h;have HK:=hid hK;have HG:=hid hag;clear h hK hag hnc;go_enter func57,ntmps57;go_wp2_with fail;go_loopw [5,8] (fun _ t8 wr=> ∃i:Nat,t8= .int .i64 i∧i≤ns.length∧Hid (∀k s,k<i→ns[k]?=some s→¬G s)∧Hid (Fs w0 wr F X A ι (QW 9 QZ 1 (.slice a ns.length c) ns.length (ns.map .string)::rs))) (fun _ t8 _=>ns.length-(intOf t8).toNat)
 case atStart=>exact ⟨0,rfl,Nat.zero_le _,hid fun k s hk=>absurd hk (Nat.not_lt_zero _),H⟩
 case round=>
  clear H;obtain ⟨i,rfl,hi,HN,H⟩:=hrel;have i0:(0:Int)≤(i:Int):=Qk _;by_cases hlt:i<ns.length
  ·have l1:(i:Int)<(ns.length:Int):=by omega
   obtain ⟨g,rfl⟩:=HG.out (by omega);have hs:ns[i]?=some ns[i]:=List.getElem?_eq_getElem hlt;have k0:wr.cell? ⟨g,i,none⟩=some (.string ns[i]):=YV (H.out.rowAt (i:=0) rfl) (by rw [List.getElem?_map,hs];rfl);have HC:=hid (HK.out ns[i] (List.getElem_mem hlt) wr H.out);have HS:=hid hs;clear hs;generalize ns[i]=s at*
   go_wp2_with fail;refine HC.out.mono ?_;clear HC k0;rintro e w3 ⟨b,rfl,hb,h3⟩;have H3:=hid (And.intro hb h3);clear hb h3 H;cases b with
   | true=>
     go_wp2;go_ret;exact ⟨i,rfl,.inr ⟨i,s,rfl,HS.out,by simpa using H3.out.1⟩,H3.out.2⟩
   | false=>
     have HN2:Hid (∀k s,k<i+1→ns[k]?=some s→¬G s):=hid fun k s' hk hs'=>by
      rcases Nat.lt_or_ge k i with h | h
      ·exact HN.out k s' h hs'
      ·obtain rfl:k=i:=by omega
       rw [HS.out] at hs';injection hs' with hs'
       subst hs';exact by simpa using H3.out.1
     go_wp2_with fail
     first
      | exact ⟨⟨i+1,by go_num,hlt,HN2,hid H3.out.2⟩,by simp [intOf];omega⟩
      | (go_roundw
         case rel=>exact ⟨i+1,by go_num,hlt,HN2,hid H3.out.2⟩
         case _=>simp [intOf];omega)
  ·obtain rfl:i=ns.length:=by omega
   go_wp2;go_ret;exact ⟨-1,rfl,.inl ⟨rfl,fun s hs=>by
    obtain ⟨k,hk,rfl⟩:=List.getElem_of_mem hs;exact HN.out k _ hk (List.getElem?_eq_getElem hk)⟩,H.out⟩
structure Kids (A:Path→Option Nd) (n:Nat):Prop where
 root: ∃m,A []=some (.dir m)
 c:A [cN]=some (.dir n)
 one: ∀s,A [cN,s]≠none→s=lsN∨∃id p,id<100∧p<10∧s=Qe id p∧∃m,A [cN,s]=some (.dir m)
 two: ∀id p t,A [cN,Qe id p,t]≠none→(t=QM∨t=QS)∧∃f,A [cN,Qe id p,t]=some (.file f)
def Qjg (X Y:Sys) (A A':Path→Option Nd) (L:List Tp):Prop:= ∃id p:Nat,id<100∧p<10∧(∀t∈L,t.id≠id)∧
 ((∃m,A [cN,Qe id p]=some (.dir m)∧(∀t,A [cN,Qe id p,t]=none)∧A'=Q4 A [cN,Qe id p] none∧Qas X Y m)∨
   ∃t f,A [cN,Qe id p,t]=some (.file f)∧A'=Q4 A [cN,Qe id p,t] none∧Qas X Y f.length)
theorem Kids.few {A:Path→Option Nd} {n:Nat} (h:Kids A n) {ns:List ByteArray} (hn:YK A [cN] ns):ns.length≤1001:=by
 refine Ux (fun k=>if k=1000 then lsN else Qe (k/10) (k%10)) 1001 ns (hn.asc.imp fun hl e=>by rw [e,J0] at hl;cases hl) fun s hs=>?_
 rcases h.one s ((hn.mem s).1 hs) with rfl | ⟨id,p,h1,h2,rfl,-⟩
 ·exact ⟨1000,by omega,by simp⟩
 ·refine ⟨10*id+p,by omega,?_⟩;show (if 10*id+p=1000 then lsN else Qe ((10*id+p)/10) ((10*id+p)%10))=_;rw [if_neg (by omega),show (10*id+p)/10=id from by omega,show (10*id+p)%10=p from by omega]
theorem Qha (p:Path) (s:ByteArray):Qd p++⟨#[47]⟩++s=Qd (p++ [s]):=by
 rw [ByteArray.append_assoc];exact YT p s _ rfl
def Qei (L:List Tp) (s:ByteArray):Prop:= ∃id p:Nat,id<100∧p<10∧s=Qe id p∧∀t∈L,t.id≠id
theorem Ey: ∀id,id<100→∀p,p<10→lsN≠Qe id p:=by decide+kernel
theorem QhT (h:Fs w0 w F X A ι rs) (hE:SynV w0.w) {cb mb i j:Nat} {next:Int} {L:List Tp} (hr:rs[i]?=some (Je cb F.fb next mb)) (hr2:rs[j]?=some (Q8 mb L)) (hL:Q9 L) {n:Nat} (hk:Kids A n) {s:ByteArray} (hs:A [cN,s]≠none):
 Calls prog 58 #[.pointer (some ⟨cb,0,none⟩),.string s] w fun e w'=> ∃b:Bool,e= .returned (.bool b)∧(b=true↔Qei L s)∧Fs w0 w' F X A ι rs:=by
 rcases hk.one s hs with rfl | ⟨id,p,h1,h2,rfl,m,hm⟩
 ·refine (Qgf h hE cb).mono ?_;rintro e w' ⟨rfl,h'⟩;refine ⟨false,rfl,?_,h'⟩;constructor
  ·intro e;cases e
  ·rintro ⟨id,p,h1,h2,e,-⟩;exact absurd e (Ey id h1 p h2)
 ·refine (QjH h hr hr2 hk.root hk.c id p h1 h2 hm hL).mono ?_;rintro e w' ⟨b,rfl,hb,h'⟩;refine ⟨b,rfl,hb.trans ⟨fun ha=>⟨id,p,h1,h2,rfl,ha⟩,?_⟩,h'⟩;rintro ⟨id',p',h1',h2',e,ha⟩;rw [WG h1 h1' e];exact ha
theorem QhQ (h:Fs w0 w F X A ι rs) (hE:SynV w0.w) (hc:Calm F X) (hm:X.m<1000000) {cb mb i j:Nat} {next:Int} {L:List Tp} (hr:rs[i]?=some (Je cb F.fb next mb)) (hr2:rs[j]?=some (Q8 mb L)) (hL:Q9 L) {n:Nat} (hk:Kids A n):
 Calls prog 22 #[.pointer (some ⟨cb,0,none⟩)] w fun e w'=>
  (e= .returned (.tuple #[.bool false,.int .i64 0])∧Fs w0 w' F X A ι rs∧∀s,A [cN,s]≠none→¬Qei L s)∨
  (e= .returned (.tuple #[.bool true,.int .i64 0])∧∃Y A',Fs w0 w' F Y A' ι rs∧Qjg X Y A A' L):=by
 have HR:=hid (Y1 h hr);have KC:Hid (∀W rs' i',rs'[i']?=some (Je cb F.fb next mb)→Fs w0 W F X A ι rs'→W.cell? ⟨cb,0,none⟩=some (.pointer (some ⟨F.fb,0,none⟩))∧W.cell? ⟨cb,1,none⟩=some (.string (Qd [cN]))):=hid fun W rs' i' hr' hW=>⟨(hW.arrCell hr' 0).trans rfl,(hW.arrCell hr' 1).trans rfl⟩
 have KL:Hid (∀W rs',Fs w0 W F X A ι rs'→Calls prog 56 #[.pointer (some ⟨F.fb,0,none⟩),.string (Qd [cN])] W fun e w'=> ∃v ns,e= .returned (.tuple #[v,.int .i64 0])∧YK A [cN] ns∧Fs w0 w' F X A ι (QW 9 QZ 1 v ns.length (ns.map .string)::rs')):=hid fun W rs' hW=>QdN hW hk.c (by simp) (by simp [Y2]) (by simp)
 have KI:Hid (∀W v ns,YK A [cN] ns→Fs w0 W F X A ι (QW 9 QZ 1 v ns.length (ns.map .string)::rs)→Calls prog 57 #[v,.func (.func 58) #[.pointer (some ⟨cb,0,none⟩)] #[]] W fun e w'=> ∃r:Int,e= .returned (.int .i64 r)∧Qef ns (Qei L) r∧Fs w0 w' F X A ι (QW 9 QZ 1 v ns.length (ns.map .string)::rs)):=hid fun W v ns hn hW=>QiK hW (by have:=hk.few hn;omega) cb (Qei L) fun s hs W2 hW2=>QhT hW2 hE (i:=i+1) (j:=j+1) hr hr2 hL hk ((hn.mem s).1 hs)
 have hmf: ∀(fn:Fn) (first cap:Array Value) (W:World),(Instr.makeFunc fn first cap).run prog W= .ok (.func fn first cap) W:=fun _ _ _ _=>rfl
 have hds:(Qd [cN]).size=2:=rfl;have happ: ∀a b:ByteArray,(a++b).size=a.size+b.size:=fun a b=>ByteArray.size_append
 have hl1:(⟨#[47]⟩:ByteArray).size=1:=rfl;have H:=hid h;have HX:=hid (And.intro hc (And.intro hm (And.intro hr hk)));obtain ⟨c0,c1⟩:=KC.out _ _ _ hr h;obtain ⟨dir,hdir⟩: ∃dir,Qd [cN]=dir:=⟨_,rfl⟩;rw [hdir] at KC KL c1 hds;have HDIR:=hid hdir;clear h hE hc hm hr hr2 hL hk hdir;go_enter func22,ntmps22;go_wp2_with fail;refine HR.out.mono ?_;clear HR;rintro e w2 ⟨rfl,rfl⟩;have HL1:=hid (KL.out _ _ (H.out.frm (Frm.refl NoB w).drew));go_upto_region 3 with fail
 go_region_held3 (fun z=>z.cell? ⟨cb,0,none⟩=some (.pointer (some ⟨F.fb,0,none⟩))∧z.cell? ⟨cb,1,none⟩=some (.string dir))
  (first | exact ⟨c0,c1⟩ | exact KC.out _ _ (i+1) HX.out.2.2.1 h3 | fail)
  (first
   | (go_at_call 56;(with_reducible refine HL1.out.mono ?_);rintro e w3 ⟨v,ns,rfl,hn,h3⟩)
   | fail)
 have HN:=hid hn;have H3:=hid h3;have HI:=hid (KI.out _ _ _ hn h3);clear hn h3 KI H c0 c1 HL1;go_wp2_with fail;refine HI.out.mono ?_;clear HI H3;rintro e w4 ⟨r,rfl,hfo,h4⟩;rcases hfo with ⟨rfl,hno⟩ | ⟨k,s,rfl,hks,hg⟩
 ·have H4:=hid (And.intro hno h4);clear hno h4;go_wp2;go_ret2;exact .inl ⟨rfl,H4.out.2.drop 1,fun s hs=>H4.out.1 s ((HN.out.mem s).2 hs)⟩
 ·have hkl:=(List.getElem?_eq_some_iff.1 hks).1;obtain ⟨a,c,rfl,hnc,hag⟩:=JP (h4.rowAt (i:=0) rfl);obtain ⟨g,rfl⟩:=hag (by omega);have i0:(0:Int)≤(k:Int):=Qk _;have i1:(k:Int)<(ns.length:Int):=by omega
  have i2:(ns.length:Int)≤(c:Int):=by omega
  have k0:w4.cell? ⟨g,k,none⟩=some (.string s):=YV (h4.rowAt (i:=0) rfl) (by rw [List.getElem?_map,hks];rfl);obtain ⟨c0,c1⟩:=KC.out _ _ (i+1) HX.out.2.2.1 h4;have hsA:A [cN,s]≠none:=(HN.out.mem s).1 (List.mem_of_getElem? hks);obtain ⟨id,p,hiD,hp,hsp,hall⟩:=hg;have hss:=WH id hiD p hp;rw [←hsp] at hss;have hno: ¬9223372036854775807<3+s.size:=by omega
  have HS:=hid (And.intro hiD (And.intro hp (And.intro hsp (And.intro hall hsA))));have H4:=hid (h4.drop 1);clear hiD hp hsp hall hsA hkl hks hnc hag h4;go_upto_region 9 with fail
  go_region;obtain ⟨m,hdm⟩: ∃m,A [cN,s]=some (.dir m):=by
   rcases HX.out.2.2.2.one s HS.out.2.2.2.2 with e | ⟨id',p',q1,q2,q3,q4⟩
   ·exact absurd (e.symm.trans HS.out.2.2.1) (Ey id HS.out.1 p HS.out.2.1)
   ·exact q4
  have hsok:Qy s:=by rw [HS.out.2.2.1];exact VJ HS.out.1 HS.out.2.1
  have hpath:dir++⟨#[47]⟩++s=Qd [cN,s]:=by rw [←HDIR.out];exact Qha [cN] s
  have H5:=hid (H4.out.frm (Frm.refl NoB w4).drew);have hl2:=QdN H5.out hdm (by simp) (by simp [Y2,hsok]) (by simp);rw [←hpath] at hl2;have HL2:=hid hl2;have HD:=hid (And.intro hdm (And.intro hsok hpath));clear hdm hsok hl2 hpath H4;go_wp2_with fail;refine HL2.out.mono ?_;clear HL2;rintro e w6 ⟨v2,ls,rfl,hn2,h6⟩;obtain ⟨a2,c2,rfl,hnc2,hag2⟩:=JP (h6.rowAt (i:=0) rfl);obtain ⟨d0,d1⟩:=KC.out _ _ (i+1) HX.out.2.2.1 h6;clear c0 c1 k0;cases ls with
  | nil=>
    have H6:=hid (h6.drop 1);have HN2:=hid hn2;have hrm:=OG H6.out HX.out.1 HX.out.2.1 HX.out.2.2.2.c s (by simp [Y2,HD.out.2.1]) (by simp) HD.out.1 (fun t=>by
     have:=(hn2.mem t).2;cases hA:A ([cN]++ [s]++ [t]) with
     | none=>rfl
     | some x=>exact absurd (this (by show A ([cN]++ [s]++ [t])≠none;rw [hA];exact fun e=>by cases e)) (by simp))
    rw [show Qd ([cN]++ [s])=dir++⟨#[47]⟩++s from HD.out.2.2.symm] at hrm;have HRM:=hid hrm;clear hrm hn2 h6 hnc2 hag2;go_wp2_with fail;refine HRM.out.mono ?_;clear HRM;rintro e w7 ⟨rfl,Y,h7,hr7⟩;have H7:=hid (And.intro h7 hr7);clear h7 hr7;go_wp2;go_ret2;refine .inr ⟨rfl,Y,_,H7.out.1,id,p,HS.out.1,HS.out.2.1,HS.out.2.2.2.1,.inl ⟨m,?_,fun t=>?_,?_,H7.out.2⟩⟩
    ·rw [←HS.out.2.2.1];exact HD.out.1
    ·rw [←HS.out.2.2.1];cases hA:A [cN,s,t] with
     | none=>rfl
     | some x=>exact absurd ((HN2.out.mem t).2 (by show A [cN,s,t]≠none;rw [hA];exact fun e=>by cases e)) (by simp)
    ·rw [←HS.out.2.2.1];rfl
  | cons t tl=>
    obtain ⟨g2,rfl⟩:=hag2 (by simp);have j0:(0:Int)≤(tl.length:Int):=Qk _;have j1:(0:Int)<(tl.length:Int)+1:=by omega
    have j2:(tl.length:Int)+1≤(c2:Int):=by rw [List.length_cons] at hnc2;omega
    have k1:w6.cell? ⟨g2,0,none⟩=some (.string t):=YV (h6.rowAt (i:=0) rfl) rfl;have htA:A [cN,s,t]≠none:=(hn2.mem t).1 (List.mem_cons_self ..);have htw:=HX.out.2.2.2.two id p t (by rw [←HS.out.2.2.1];exact htA);rw [←HS.out.2.2.1] at htw;obtain ⟨hto,f,hf⟩:=htw;have htok:Qy t:=by rcases hto with rfl | rfl;exact QbH;exact ED
    have hts:t.size=20∨t.size=9:=by rcases hto with rfl | rfl;exact .inl rfl;exact .inr rfl
    have hpath2:dir++⟨#[47]⟩++s++(⟨#[47]⟩++t)=Qd [cN,s,t]:=by rw [HD.out.2.2];exact YT [cN,s] t _ rfl
    have H6:=hid (h6.drop 1);have hrm:=OG H6.out HX.out.1 HX.out.2.1 HD.out.1 t (by simp [Y2,HD.out.2.1,htok]) (by simp) hf (fun u=>by
     cases hA:A ([cN,s]++ [t]++ [u]) with
     | none=>rfl
     | some x=>
       obtain ⟨q,hq⟩:=(H6.out.2.up [cN,s,t] u (by show A ([cN,s]++ [t]++ [u])≠none;rw [hA];exact fun e=>by cases e)).2;rw [hf] at hq;cases hq)
    rw [show Qd ([cN,s]++ [t])=dir++⟨#[47]⟩++s++(⟨#[47]⟩++t) from hpath2.symm] at hrm;have HRM:=hid hrm;have HT:=hid hf;clear hrm hn2 h6 hnc2 hag2 hto htok hpath2 htA hf;have hsz:(dir++⟨#[47]⟩++s++(⟨#[47]⟩++t)).size≤100:=by rw [happ,happ,happ,happ,hds,hl1];omega
    rcases hss with hss | hss<;>rcases hts with hts | hts
    all_goals
     go_wp2_with fail;refine HRM.out.mono ?_;clear HRM;rintro e w7 ⟨rfl,Y,h7,hr7⟩;have H7:=hid (And.intro h7 hr7);clear h7 hr7;go_wp2;go_ret2;exact .inr ⟨rfl,Y,_,H7.out.1,id,p,HS.out.1,HS.out.2.1,HS.out.2.2.2.1,.inr ⟨t,f,by rw [←HS.out.2.2.1];exact HT.out,by rw [←HS.out.2.2.1];rfl,H7.out.2⟩⟩
end
end Go.Proofs.YtlemndledcmhiaaGreatDoor
