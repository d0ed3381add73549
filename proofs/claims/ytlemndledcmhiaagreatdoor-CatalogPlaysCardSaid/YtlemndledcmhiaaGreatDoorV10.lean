/-
  The catalog, from the device up, part 10.
-/
import Derived.Test.YtlemndledcmhiaaGreatDoorV9
namespace Go.Proofs.YtlemndledcmhiaaGreatDoor
set_option linter.unusedVariables false
set_option linter.unusedSimpArgs false
set_option maxHeartbeats 8000000
set_option maxRecDepth 100000
open Tryz
open Lib (hid)
open Go.ChangeMaps Go.MapKept Go.RowKit
theorem Qge (w:World) (v:Value) {next:Int} {L:List Tp} (hL:Q9 L) (hlen:L.length≤20) (hr:Qi8 next L) {R:Nat→Prop} (hv:Qc w v (QB next L) R):
 Calls prog 55 #[v] w fun e w'=> ∃mb,e= .returned (.tuple #[.int .i64 next,.map (some mb),.bool true])∧Qn JA okK w' mb L.length (tpV (QX L))∧w.heap.size≤mb∧Frm NoB w w':=by
 have hbl:=QN next L hL.nm
 obtain ⟨vb,vo,vc,rfl,hcap,-,-⟩:=hv.cells;obtain ⟨n,hn⟩: ∃n,(QB next L).length=n:=⟨_,rfl⟩;have hmk: ∀W,(Instr.makeMap 91 none).run prog W= .ok (.map (some W.heap.size)) (W.alloc (.map #[] 0)):=fun W=>rfl
 have hn8: ¬(n:Int)<8:=by omega
 have hn0:(0:Int)≤(n:Int):=by omega
 have hn1:(n:Int)≤2148:=by omega
 have hmod:((n:Int)-8).tmod 107=0:=by rw [Int.tmod_eq_emod_of_nonneg (by omega)];omega
 have hmod2:((n:Int)-8)%107=0:=by omega
 have HN:=hid (And.intro hn (And.intro (hbl.symm.trans hn) hlen));have HV:=hid hv;have HL:=hid (And.intro hL hr);rw [hn] at hcap ⊢;have l3:(n:Int)≤(vc:Int):=by omega
 clear hv hL hr hbl hlen hn hcap;go_enter func55,ntmps55;go_upto_region 4 with fail
 have HMP:=hid (Qn.made (mk:=JA) (ok:=okK) w);have HMF:Hid (Frm NoB w (w.alloc (.map #[] 0))):=hid ((Frm.refl NoB w).alloc _);obtain ⟨y0,hy0⟩: ∃y0,w.alloc (.map #[] 0)=y0:=⟨_,rfl⟩;obtain ⟨mb,hmb⟩: ∃mb,w.heap.size=mb:=⟨_,rfl⟩;have HMB:Hid (w.heap.size≤mb):=hid (by omega);rw [hy0] at HMP HMF ⊢;rw [hmb] at HMP ⊢;clear hy0 hmb hmk hmod hmod2;go_wp2_with fail;go_loopw [3,5,8] (fun t3 t5 _ wr=>t3= .map (some mb)∧∃i:Nat,i≤L.length∧t5= .int .i64 ((8+107*i:Nat):Int)∧Hid (Qn JA okK wr mb i (tpV (QX (L.take i))))∧Hid (Frm NoB w wr)) (fun _ t5 _ _=>n-(intOf t5).toNat)
 case atStart=>exact ⟨rfl,0,Nat.zero_le _,rfl,HMP,HMF⟩
 case round=>
  clear HMP HMF;obtain ⟨rfl,i,hi,rfl,HM,HF⟩:=hrel;have i0:(0:Int)≤(i:Int):=Qk _;by_cases hlt:i<L.length
  ·obtain ⟨⟨nm,p1,p2,p3,p4,p5,p6,p7⟩,ht⟩: ∃t,L[i]?=some t:=⟨_,List.getElem?_eq_getElem hlt⟩;have hnm:nm.size≤50:=HL.out.1.nm _ (List.mem_of_getElem? ht);have hkey:=QiC next ht HL.out.1.nm
   have hrg:wr.rangeAt vb (vo+(8+107*i)) ((Qj nm).map B8):=fun j u hj=>by
    rw [←hkey] at hj;have:=(HV.out.frm0 HF.out).part (8+107*i) 51 j u hj;rw [show ((⟨vb,vo+(8+107*i),none⟩:Addr).add j)=⟨vb,vo+(8+107*i)+j,none⟩ by
     unfold Addr.add;by_cases e:j=0
     ·subst e;rfl
     ·rw [if_neg e]] at this
    exact this
   have hkl:=Qr nm hnm;have l1:8+107*(i:Int)<(n:Int):=by have:=HN.out.2.1;omega
   have l2:8+107*(i:Int)+51≤(n:Int):=by have:=HN.out.2.1;omega
   have l4:8+107*(i:Int)+107≤(n:Int):=by have:=HN.out.2.1;omega
   have hap:=fun W=>Qgw (vb:=vb) (vo:=vo+(8+107*i)) (vc:=vc-(8+107*i)) rfl W
   have HRG:=hid hrg;have HI:Hid ((prog.info? 95).map (·.size)=some ((Qj nm).map B8).length):=hid (by rw [List.length_map,hkl];kernel_rfl);have HK0:=hid (Qb wr (.cells kc0 95 (0,0)));have HT:=hid (And.intro ht (And.intro hnm (And.intro hkl hlt)));clear hrg ht hnm hkey hkl hlt hi;go_upto_region 7 with (fail)
   go_upto_region 8 with (first | (refine wpList_load_mid rfl _ _ rfl vb (vo+(8+107*i)) rfl ((Qj nm).map B8) _ HRG.out underlying95 rfl HI.out ?_) | (refine Qg rfl _ _ Wi rfl ?_) | (refine E4 rfl _ _ rfl wr.heap.size (Qj nm) HT.out.2.2.1 rfl rfl _ rfl HK0.out ?_))
   have hk1:=setRow_heap _ _ _ ((Qj nm).map B8).toArray _ _ HK0.out;have hf4:Frm NoB wr ((wr.alloc (.cells kc0 95 (0,0))).setRow wr.heap.size ((Qj nm).map B8).toArray):=((Frm.refl NoB wr).alloc _).setRowNew (Nat.le_refl _) _;show Code.wp prog _ _ _ ((wr.alloc (.cells kc0 95 (0,0))).setRow wr.heap.size ((Qj nm).map B8).toArray);obtain ⟨kb,hkb⟩: ∃kb,wr.heap.size=kb:=⟨_,rfl⟩;obtain ⟨y4,hy4⟩: ∃y4,(wr.alloc (.cells kc0 95 (0,0))).setRow wr.heap.size ((Qj nm).map B8).toArray=y4:=⟨_,rfl⟩;have hkb2:kb<y4.heap.size:=by rw [←hy4,←hkb];exact lt_of_block hk1
   have hmk:mb<y4.heap.size:=by rw [←hy4];exact Nat.lt_of_lt_of_le HM.out.lt hf4.size
   rw [hy4] at hk1 hf4;rw [hkb] at hk1;rw [hkb] at hy4 ⊢;rw [hy4];have c0:y4.cell? ⟨kb,0,none⟩=some (.int .u8 ((nm.size:Nat):Int)):=by
    refine (Qa hk1).trans ?_;have:(UInt8.ofNat nm.size).toNat=nm.size:=by rw [UInt8.toNat_ofNat'];have:=HT.out.2.1;omega
    rw [List.getElem?_toArray];show some (B8 (UInt8.ofNat nm.size))=_;unfold B8;rw [this]
   have s0:(0:Int)≤((nm.size:Nat):Int):=Qk _;have s1:((nm.size:Nat):Int)≤50:=by have:=HT.out.2.1;omega
   have hd:V3 w mb kb y4.heap.size i (tpV (QX (L.take i))) nm (n7z 0 0 0 0 0 0 0) (y4.alloc (.cells (n7z 0 0 0 0 0 0 0) 194 (0,0))):=
    ⟨HM.out.frm (hf4.alloc _) (fun e=>e),Ql _ hk1,Qb _ _,(HF.out.trans hf4 (fun _ _ e=>e)).alloc _,⟨by omega,by omega,Nat.le_trans HF.out.size hf4.size⟩⟩
   have HK4:=hid (And.intro hk1 (And.intro hkb2 hmk));obtain ⟨b7,hb7⟩: ∃b7,y4.heap.size=b7:=⟨_,rfl⟩;obtain ⟨y5,hy5⟩: ∃y5,y4.alloc (.cells (n7z 0 0 0 0 0 0 0) 194 (0,0))=y5:=⟨_,rfl⟩;rw [hb7,hy5] at hd;have HY:=hid (And.intro hy5 hb7);have HD:=hid hd;obtain ⟨P,hP⟩: ∃P:Nat,8+107*i+51=P:=⟨_,rfl⟩;have hP2:8+107*(i:Int)+51=(P:Int):=by omega
   have P0:(0:Int)≤(P:Int):=Qk _;have P1:(P:Int)≤2148:=by omega
   have KG:Hid (∀W (j:Nat) (x:Int),Frm NoB w W→(Tp.nums ⟨nm,p1,p2,p3,p4,p5,p6,p7⟩)[j]?=some x→Calls prog 123 #[.slice (some ⟨vb,vo,none⟩) n vc,.int .i64 ((P+8*j:Nat):Int)] W fun e w'=>W=w'∧e= .returned (.int .i64 x)):=hid fun W j x hW hx=>by
    have hj:j<7:=(List.getElem?_eq_some_iff.1 hx).1;have hsl:=(HV.out.frm0 hW).sliceOf;have:=Qjh W _ (QB next L) (P+8*j) hsl (by rw [HN.out.1];have:=HN.out.2.1;have:=HT.out.2.2.2;omega) (by rw [HN.out.1];omega);rw [←hP,QiZ next HT.out.1 HL.out.1.nm hx (HL.out.2.nums _ (List.mem_of_getElem? HT.out.1) _ (List.mem_of_getElem? hx)),HN.out.1,hP] at this;exact this
   clear hk1 hf4 hy4 hkb hkb2 hmk HM HF HK0 HRG HI hd hb7 hy5 hP hap l1 l2;go_upto_region 11 with (refine Qg rfl _ _ Qhx rfl ?_)
   rw [HY.out.1,HY.out.2];clear HY c0;have HD0:Hid (V3 w mb kb b7 i (tpV (QX (L.take i))) nm (nz p1 p2 p3 p4 p5 (JH p6) p7 0) y5):=hid HD.out;clear HD;go_wp2_with fail;go_loopw [8,37] (fun _ t37 wi=> ∃j:Nat,j≤7∧t37= .int .i64 j∧Hid (V3 w mb kb b7 i (tpV (QX (L.take i))) nm (nz p1 p2 p3 p4 p5 (JH p6) p7 j) wi)) (fun _ t37 _=>7-(intOf t37).toNat)
   case atStart=>exact ⟨0,Nat.zero_le _,rfl,HD0⟩
   case round=>
    clear HD0;obtain ⟨j,hj,rfl,HJ⟩:=hrel;rcases (by omega:j=0∨j=1∨j=2∨j=3∨j=4∨j=5∨j=6∨j=7) with rfl | rfl | rfl | rfl | rfl | rfl | rfl | rfl
    ·have HC:Hid (Calls prog 123 #[.slice (some ⟨vb,vo,none⟩) n vc,.int .i64 (P:Int)] wr fun e w'=>wr=w'∧e= .returned (.int .i64 p1)):=hid (by
      have:=KG.out wr 0 p1 HJ.out.frm rfl;rw [show ((P+8*0:Nat):Int)=(P:Int) by omega] at this;exact this)
     have fz:wr.frozen? ⟨b7,0,none⟩=false:=Qf HJ.out.num;have cz:wr.cell? ⟨b7,0,none⟩=some (.int .i64 0):=(Qa HJ.out.num).trans rfl;have HN7:Hid (V3 w mb kb b7 i (tpV (QX (L.take i))) nm (nz p1 p2 p3 p4 p5 (JH p6) p7 1) (wr.setCell ⟨b7,0,none⟩ (.int .i64 p1))):=hid (HJ.out.set 0 (.int .i64 p1));clear KG HJ;generalize JH p6=q6 at*
     go_wp2_with fail;refine HC.out.mono ?_;clear HC;rintro e y7 ⟨rfl,rfl⟩;go_wp2_with fail;exact ⟨⟨1,by omega,rfl,HN7⟩,by decide⟩
    ·have HC:Hid (Calls prog 123 #[.slice (some ⟨vb,vo,none⟩) n vc,.int .i64 ((P:Int)+8)] wr fun e w'=>wr=w'∧e= .returned (.int .i64 p2)):=hid (by
      have:=KG.out wr 1 p2 HJ.out.frm rfl;rw [show ((P+8*1:Nat):Int)=((P:Int)+8) by omega] at this;exact this)
     have fz:wr.frozen? ⟨b7,1,none⟩=false:=Qf HJ.out.num;have cz:wr.cell? ⟨b7,1,none⟩=some (.int .i64 0):=(Qa HJ.out.num).trans rfl;have HN7:Hid (V3 w mb kb b7 i (tpV (QX (L.take i))) nm (nz p1 p2 p3 p4 p5 (JH p6) p7 2) (wr.setCell ⟨b7,1,none⟩ (.int .i64 p2))):=hid (HJ.out.set 1 (.int .i64 p2));clear KG HJ;generalize JH p6=q6 at*
     go_wp2_with fail;refine HC.out.mono ?_;clear HC;rintro e y7 ⟨rfl,rfl⟩;go_wp2_with fail;exact ⟨⟨2,by omega,rfl,HN7⟩,by decide⟩
    ·have HC:Hid (Calls prog 123 #[.slice (some ⟨vb,vo,none⟩) n vc,.int .i64 ((P:Int)+16)] wr fun e w'=>wr=w'∧e= .returned (.int .i64 p3)):=hid (by
      have:=KG.out wr 2 p3 HJ.out.frm rfl;rw [show ((P+8*2:Nat):Int)=((P:Int)+16) by omega] at this;exact this)
     have fz:wr.frozen? ⟨b7,2,none⟩=false:=Qf HJ.out.num;have cz:wr.cell? ⟨b7,2,none⟩=some (.int .i64 0):=(Qa HJ.out.num).trans rfl;have HN7:Hid (V3 w mb kb b7 i (tpV (QX (L.take i))) nm (nz p1 p2 p3 p4 p5 (JH p6) p7 3) (wr.setCell ⟨b7,2,none⟩ (.int .i64 p3))):=hid (HJ.out.set 2 (.int .i64 p3));clear KG HJ;generalize JH p6=q6 at*
     go_wp2_with fail;refine HC.out.mono ?_;clear HC;rintro e y7 ⟨rfl,rfl⟩;go_wp2_with fail;exact ⟨⟨3,by omega,rfl,HN7⟩,by decide⟩
    ·have HC:Hid (Calls prog 123 #[.slice (some ⟨vb,vo,none⟩) n vc,.int .i64 ((P:Int)+24)] wr fun e w'=>wr=w'∧e= .returned (.int .i64 p4)):=hid (by
      have:=KG.out wr 3 p4 HJ.out.frm rfl;rw [show ((P+8*3:Nat):Int)=((P:Int)+24) by omega] at this;exact this)
     have fz:wr.frozen? ⟨b7,3,none⟩=false:=Qf HJ.out.num;have cz:wr.cell? ⟨b7,3,none⟩=some (.int .i64 0):=(Qa HJ.out.num).trans rfl;have HN7:Hid (V3 w mb kb b7 i (tpV (QX (L.take i))) nm (nz p1 p2 p3 p4 p5 (JH p6) p7 4) (wr.setCell ⟨b7,3,none⟩ (.int .i64 p4))):=hid (HJ.out.set 3 (.int .i64 p4));clear KG HJ;generalize JH p6=q6 at*
     go_wp2_with fail;refine HC.out.mono ?_;clear HC;rintro e y7 ⟨rfl,rfl⟩;go_wp2_with fail;exact ⟨⟨4,by omega,rfl,HN7⟩,by decide⟩
    ·have HC:Hid (Calls prog 123 #[.slice (some ⟨vb,vo,none⟩) n vc,.int .i64 ((P:Int)+32)] wr fun e w'=>wr=w'∧e= .returned (.int .i64 p5)):=hid (by
      have:=KG.out wr 4 p5 HJ.out.frm rfl;rw [show ((P+8*4:Nat):Int)=((P:Int)+32) by omega] at this;exact this)
     have fz:wr.frozen? ⟨b7,4,none⟩=false:=Qf HJ.out.num;have cz:wr.cell? ⟨b7,4,none⟩=some (.int .i64 0):=(Qa HJ.out.num).trans rfl;have HN7:Hid (V3 w mb kb b7 i (tpV (QX (L.take i))) nm (nz p1 p2 p3 p4 p5 (JH p6) p7 5) (wr.setCell ⟨b7,4,none⟩ (.int .i64 p5))):=hid (HJ.out.set 4 (.int .i64 p5));clear KG HJ;generalize JH p6=q6 at*
     go_wp2_with fail;refine HC.out.mono ?_;clear HC;rintro e y7 ⟨rfl,rfl⟩;go_wp2_with fail;exact ⟨⟨5,by omega,rfl,HN7⟩,by decide⟩
    ·have HC:Hid (Calls prog 123 #[.slice (some ⟨vb,vo,none⟩) n vc,.int .i64 ((P:Int)+40)] wr fun e w'=>wr=w'∧e= .returned (.int .i64 (JH p6))):=hid (by
      have:=KG.out wr 5 (JH p6) HJ.out.frm rfl;rw [show ((P+8*5:Nat):Int)=((P:Int)+40) by omega] at this;exact this)
     have fz:wr.frozen? ⟨b7,5,none⟩=false:=Qf HJ.out.num;have cz:wr.cell? ⟨b7,5,none⟩=some (.int .i64 0):=(Qa HJ.out.num).trans rfl;have HN7:Hid (V3 w mb kb b7 i (tpV (QX (L.take i))) nm (nz p1 p2 p3 p4 p5 (JH p6) p7 6) (wr.setCell ⟨b7,5,none⟩ (.int .i64 (JH p6)))):=hid (HJ.out.set 5 (.int .i64 (JH p6)));clear KG HJ;generalize JH p6=q6 at*
     go_wp2_with fail;refine HC.out.mono ?_;clear HC;rintro e y7 ⟨rfl,rfl⟩;go_wp2_with fail;exact ⟨⟨6,by omega,rfl,HN7⟩,by decide⟩
    ·have HC:Hid (Calls prog 123 #[.slice (some ⟨vb,vo,none⟩) n vc,.int .i64 ((P:Int)+48)] wr fun e w'=>wr=w'∧e= .returned (.int .i64 p7)):=hid (by
      have:=KG.out wr 6 p7 HJ.out.frm rfl;rw [show ((P+8*6:Nat):Int)=((P:Int)+48) by omega] at this;exact this)
     have fz:wr.frozen? ⟨b7,6,none⟩=false:=Qf HJ.out.num;have cz:wr.cell? ⟨b7,6,none⟩=some (.int .i64 0):=(Qa HJ.out.num).trans rfl;have HN7:Hid (V3 w mb kb b7 i (tpV (QX (L.take i))) nm (nz p1 p2 p3 p4 p5 (JH p6) p7 7) (wr.setCell ⟨b7,6,none⟩ (.int .i64 p7))):=hid (HJ.out.set 6 (.int .i64 p7));clear KG HJ;generalize JH p6=q6 at*
     go_wp2_with fail;refine HC.out.mono ?_;clear HC;rintro e y7 ⟨rfl,rfl⟩;go_wp2_with fail;exact ⟨⟨7,by omega,rfl,HN7⟩,by decide⟩
    ·clear KG;go_upto_region 16 with fail
     obtain ⟨q6,hq6⟩: ∃q6,JH p6=q6:=⟨_,rfl⟩;have HJ7:Hid (V3 w mb kb b7 i (tpV (QX (L.take i))) nm (n7z p1 p2 p3 p4 p5 q6 p7) wr):=hid (by rw [←hq6];exact HJ.out);have KS:Hid (∀y M k,V3 w mb kb b7 k M nm (n7z p1 p2 p3 p4 p5 q6 p7) y→y.rangeAt kb 0 ((Qj nm).map B8)∧y.cell? ⟨kb,0,none⟩=some (.int .u8 ((nm.size:Nat):Int))∧y.cell? ⟨b7,0,none⟩=some (.int .i64 p1)∧y.cell? ⟨b7,1,none⟩=some (.int .i64 p2)∧y.cell? ⟨b7,2,none⟩=some (.int .i64 p3)∧y.cell? ⟨b7,3,none⟩=some (.int .i64 p4)∧y.cell? ⟨b7,4,none⟩=some (.int .i64 p5)∧y.cell? ⟨b7,5,none⟩=some (.int .i64 q6)∧y.cell? ⟨b7,6,none⟩=some (.int .i64 p7)∧(∀c,(convert 76 9 (.slice (some ⟨kb,1,none⟩) nm.size c)).run prog y= .ok (.string nm) y)):=hid fun y M k h=>by
      refine ⟨fun j u hj=>?_,?_,(Qa h.num).trans rfl,(Qa h.num).trans rfl,(Qa h.num).trans rfl,(Qa h.num).trans rfl,(Qa h.num).trans rfl,(Qa h.num).trans rfl,(Qa h.num).trans rfl,fun c=>Qdt y kb nm HT.out.2.1 h.key c⟩
      ·rw [Nat.zero_add];refine (Qa h.key).trans ?_;rw [←hj];unfold Jb;rw [List.getElem?_toArray]
      ·refine (Qa h.key).trans ?_;have:(UInt8.ofNat nm.size).toNat=nm.size:=by rw [UInt8.toNat_ofNat'];have:=HT.out.2.1;omega
       unfold Jb;rw [List.getElem?_toArray];show some (B8 (UInt8.ofNat nm.size))=_;unfold B8;rw [this]
     obtain ⟨o,hup,hup2⟩:=HJ7.out.map.update YU underlying91 (a:=Qj nm) HT.out.2.2.1 (.agg #[.string nm,.int .i64 p1,.int .i64 p2,.int .i64 p3,.int .i64 p4,.int .i64 p5,.bool p6,.int .i64 p7]);have KU:Hid (∀y,Frm NoB wr y→(Instr.mapUpdate 91 (.map (some mb)) (.agg ((Qj nm).map B8).toArray) (.agg #[.string nm,.int .i64 p1,.int .i64 p2,.int .i64 p3,.int .i64 p4,.int .i64 p5,.bool p6,.int .i64 p7])).run prog y= .ok () (setBlock y mb o)):=hid fun y hf=>hup y (hf.block mb HJ7.out.map.lt (fun e=>e))
     have KU2:=hid hup2;have HTP:Hid (Calls prog 124 #[.string nm,.agg #[.int .i64 p1,.int .i64 p2,.int .i64 p3,.int .i64 p4,.int .i64 p5,.int .i64 q6,.int .i64 p7]] wr.drew fun e w'=>e= .returned (.agg #[.string nm,.int .i64 p1,.int .i64 p2,.int .i64 p3,.int .i64 p4,.int .i64 p5,.bool p6,.int .i64 p7])∧Frm NoB wr.drew w'):=hid (by
      have:=QhS wr.drew nm p1 p2 p3 p4 p5 q6 p7;rw [←hq6,Qir,hq6] at this;exact this)
     have hw8:IntKind.u8.wrap (1+((nm.size:Nat):Int))=1+((nm.size:Nat):Int):=by
      have:IntKind.u8.wrap (1+((nm.size:Nat):Int))=(1+((nm.size:Nat):Int))%256:=by simp [IntKind.wrap,IntKind.bits,IntKind.signed]
      rw [this];omega
     have hsa:=Qb5 kb nm.size HT.out.2.1;have HI51:Hid ((prog.info? 95).map (·.size)=some ((Qj nm).map B8).length):=hid (by rw [List.length_map,HT.out.2.2.1];kernel_rfl);have hi51:=HI51.out;have hu51:=underlying95;have HJd:=hid (HJ7.out.keep (Frm.refl NoB wr).drew);obtain ⟨k1,k2,k3,k4,k5,k6,k7,k8,k9,k10⟩:=KS.out _ _ _ HJ7.out;clear hup hup2 HJ;go_region_held3 (fun y=>y.rangeAt kb 0 ((Qj nm).map B8)∧y.cell? ⟨kb,0,none⟩=some (.int .u8 ((nm.size:Nat):Int))∧y.cell? ⟨b7,0,none⟩=some (.int .i64 p1)∧y.cell? ⟨b7,1,none⟩=some (.int .i64 p2)∧y.cell? ⟨b7,2,none⟩=some (.int .i64 p3)∧y.cell? ⟨b7,3,none⟩=some (.int .i64 p4)∧y.cell? ⟨b7,4,none⟩=some (.int .i64 p5)∧y.cell? ⟨b7,5,none⟩=some (.int .i64 q6)∧y.cell? ⟨b7,6,none⟩=some (.int .i64 p7)∧(∀c,(convert 76 9 (.slice (some ⟨kb,1,none⟩) nm.size c)).run prog y= .ok (.string nm) y))
      (first | exact KS.out _ _ _ HJ7.out | exact KS.out _ _ _ HJd.out | exact KS.out _ _ _ (HJd.out.keep hf8) | exact KS.out _ _ _ ((HJd.out.keep hf8).put HMB.out (KU2.out y8 (HJd.out.keep hf8).map.lt)))
      (first
       | (go_at_call 124;(with_reducible refine HTP.out.mono ?_);rintro e y8 ⟨rfl,hf8⟩;have hup:=KU.out y8 ((Frm.refl NoB wr).drew.trans hf8 (fun _ _ e=>e))))
     have hmt:=Qfc HL.out.1 HT.out.1;have hend:=KU2.out y8 (HJd.out.keep hf8).map.lt;have hnone:(tpV (QX (L.take i)) (Qj nm)).isSome=false:=by
      unfold tpV;rw [show QX (L.take i) (Qj nm)=none from hmt.1];rfl
     rw [if_neg (by rw [hnone];decide)] at hend;have HEND:Hid (Qn JA okK (setBlock y8 mb o) mb (i+1) (tpV (QX (L.take (i+1))))):=hid (hend.congr fun a _=>by
      unfold tpV upd;rw [hmt.2 a];show _=if a=Qj nm then _ else _
      by_cases e:a=Qj nm
      ·rw [if_pos e,if_pos e];rfl
      ·rw [if_neg e,if_neg e])
     have HFE:=hid ((HJd.out.keep hf8).frm.setBlock (.inr HMB.out) o);have l5:8+107*(i:Int)+107≤2148:=by omega
     have hlt:=HT.out.2.2.2;clear hmt hend hnone hf8 KS KU KU2 HTP HJ7 HJd k1 k2 k3 k4 k5 k6 k7 k8 k9 k10 hw8 hsa hi51 hu51 HI51;go_wp2_with fail;exact ⟨⟨rfl,i+1,hlt,by go_num,HEND,HFE⟩,by simp [intOf];omega⟩
  ·obtain rfl:i=L.length:=by omega
   have HM2:=hid HM.out;rw [List.take_length] at HM2;have HG0:Hid (Calls prog 123 #[.slice (some ⟨vb,vo,none⟩) n vc,.int .i64 0] wr fun e w'=>wr=w'∧e= .returned (.int .i64 next)):=hid (by
    have:=Qjh wr _ (QB next L) 0 (HV.out.frm0 HF.out).sliceOf (by rw [HN.out.1];omega) (by rw [HN.out.1];omega);rw [Qhg next L HL.out.2.next,HN.out.1] at this;exact this)
   have HE0:=hid (Wg wr (.map (some mb)) next (by have:=HN.out.2.2;omega) HL.out.1.nm (fun W hf=>O7 W mb HL.out.1 (by have:=HN.out.2.2;omega) (HM2.out.frm hf (fun e=>e))));have KQ:Hid (∀W v',Ji W wr.heap.size v' (QB next L)→Frm NoB wr W→Calls prog 125 #[v',.slice (some ⟨vb,vo,none⟩) n vc] W fun e w'=>W=w'∧e= .returned (.bool true)):=hid fun W v' ho hf=>by
    have hne:QB next L≠ []:=fun e=>by have:=HN.out.1;rw [e] at this;have:0=n:=this;omega
    have:=Qer W v' _ (QB next L) (QB next L) (ho.bytes hne).sliceOf (HV.out.frm0 (HF.out.trans hf (fun _ _ e=>e))).sliceOf hne hne;rw [HN.out.1,beq_self_eq_true] at this;exact this
   have l6:(8:Int)+107*(L.length:Int)=(n:Int):=by have:=HN.out.2.1;omega
   clear HM;go_wp2_with fail;refine HG0.out.mono ?_;clear HG0;rintro e y6 ⟨rfl,rfl⟩;go_wp2_with fail;refine HE0.out.mono ?_;clear HE0;rintro e y7 ⟨v',rfl,ho,hf7⟩;have HQ:=hid (KQ.out y7 v' ho hf7);have H7:=hid (And.intro (HM2.out.frm hf7 (fun e=>e)) (HF.out.trans hf7 (fun _ _ e=>e)));clear ho hf7 KQ HM2 HF;go_wp2_with fail;refine HQ.out.mono ?_;clear HQ;rintro e y8 ⟨rfl,rfl⟩;go_wp2;go_ret3;exact ⟨mb,rfl,H7.out.1,HMB.out,H7.out.2⟩
def cN:ByteArray:=⟨#[99]⟩
def lsN:ByteArray:=⟨#[99,97,116,97,108,111,103]⟩
theorem Vm (s:ByteArray) (h1:1≤s.size∧s.size≤50) (h2:s.data.toList.all (fun b=>decide (b.toNat<128) && decide (b≠47) && decide (b≠0))=true) (h3:s.data.toList≠ [46]∧s.data.toList≠ [46,46]):Qy s:=by
 rw [List.all_eq_true] at h2;refine ⟨h1,fun j b hj=>?_,fun b hb=>?_,h3⟩
 ·have:=h2 b (List.mem_of_getElem? hj);simp at this;exact this.1.1
 ·have:=h2 b hb;simp at this;exact ⟨this.1.2,this.2⟩
theorem Y2:Qy cN:=Vm _ (by decide) (by decide) (by decide)
theorem Wy:Qy lsN:=Vm _ (by decide) (by decide) (by decide)
theorem YT (p:Path) (s x:ByteArray) (hx:x.data.toList=47::s.data.toList):Qd p++x=Qd (p++ [s]):=by
 have:(Qd p++x).data.toList=(Qd (p++ [s])).data.toList:=by
  rw [ByteArray.toList_data_append,Vt,hx]
 exact ByteArray.ext (Array.toList_inj.1 this)
structure W7 (A:Path→Option Nd) (b:Blk) (n:Nat) (D:List ByteArray):Prop where
 c:A [cN]=some (.dir n)
 ls:A [cN,lsN]=some (.file b)
 kids: ∀s,A [cN,s]≠none→s=lsN∨s∈D
 size:n≤64*(1+D.length)
def Qes (A:Path→Option Nd):Prop:=A []=some (.dir 64)∧∀s,A [s]≠none→s=cN
section
variable {w0:Gnd} {w:World} {rs:List Res} {X:Sys} {F:FH} {A:Path→Option Nd} {ι:Path→Nat}
theorem OB:dat (0+64)-dat 0=1:=by decide
theorem QhP (h:Fs w0 w F X YP UG rs) (hb:F.begun=true) (ho:F.QH=false) (hd:F.dead=false) (hop:X.op=true) (hov:X.ov=false) {i j bf bd:Nat} (hf:rs[i]?=some (arr bf #[.pointer (some ⟨F.fb,0,none⟩)] 24 Jc)) (hdr:rs[j]?=some (arr bd #[.string (Qd [cN])] 9 QZ))
 {C:List Nat} (hC:Cov X C) (him:X.P.im∈C) (hbm:X.P.bm∈C) (hh:JW X C 0) (h20:C.length≤20) (hfi:2≤X.fi) (hfb:3≤X.fb):
 Calls prog 97 #[.pointer (some ⟨bf,0,none⟩),.pointer (some ⟨bd,0,none⟩)] w fun e w'=>e= .returned (.int .i64 0)∧∃X' A' ι' C' n,Fs w0 w' F X' A' ι' rs∧Ei X X' C C'∧W7 A' (QB 1 []) n []∧Qes A'∧X'.fi+2=X.fi∧X'.fb+3=X.fb:=by
 have hm1:Yy X YP UG C [] cN 0:=⟨rfl,by simp [Y2],by simp,rfl,by omega,by omega,by rw [OB];omega,hC,him,hbm,hh,by rw [OB];omega⟩;have HM:=hid (Wc h hb ho hd hop hov hm1);have c0:w.cell? ⟨bf,0,none⟩=some (.pointer (some ⟨F.fb,0,none⟩)):=(h.arrCell hf 0).trans rfl;have c1:w.cell? ⟨bd,0,none⟩=some (.string (Qd [cN])):=(h.arrCell hdr 0).trans rfl;have HH:=hid (And.intro hf hdr);have HQ:=hid (And.intro (And.intro hb (And.intro ho hd)) (And.intro (And.intro hop hov) (And.intro (And.intro h20 hfi) (And.intro hfb (And.intro him hbm)))));have hp1:Qd ([]++ [cN])=Qd [cN]:=rfl;rw [hp1] at HM;have hp2:=YT [cN] lsN ⟨#[47,99,97,116,97,108,111,103]⟩ rfl;have HP2:=hid hp2;have hcat: ∀W,(binOp .add 9 (.string (Qd [cN])) (.string ⟨#[47,99,97,116,97,108,111,103]⟩)).run prog W= .ok (.string (Qd [cN]++⟨#[47,99,97,116,97,108,111,103]⟩)) W:=fun W=>rfl
 obtain ⟨dir,hdir⟩: ∃dir,Qd [cN]=dir:=⟨_,rfl⟩;have hds:dir.size=2:=by rw [←hdir];rfl
 rw [hdir] at hcat;rw [hdir] at HM c1 hp2;clear h hb ho hd hop hov hf hdr hC him hbm hh h20 hfi hfb hm1 hp1;go_enter func97,ntmps97;go_wp2_with fail;refine HM.out.mono ?_;clear HM c0 c1;rintro e w1 ⟨rfl,X1,A1,ι1,C1,h1,hk1⟩;obtain ⟨S1,i1,rfl,rfl,-,hS1,hh1,hfb1,hC1⟩:=hk1.tree;obtain rfl:=hS1 rfl;have hA1:Yb YP [] cN (.dir 0) 64 [cN]=some (.dir 0):=rfl;have hi1:YL UG [] cN i1 [cN]=i1:=rfl;have hN1:Yb YP [] cN (.dir 0) 64 [cN,lsN]=none:=rfl;rw [OB] at hfb1 hC1;have hX1:=hk1.goes.wr;have hm2:Yy X1 (Yb YP [] cN (.dir 0) 64) (YL UG [] cN i1) C1 [cN] lsN 0:=⟨hA1,by simp [Y2,Wy],by simp,hN1,by omega,by have:=hk1.fi;have:=HQ.out.2.2.1.2;omega,by rw [OB];have:=HQ.out.2.2.2.1;omega,hk1.goes.cov,
  hk1.goes.sub _ (by rw [hX1];exact HQ.out.2.2.2.2.1),hk1.goes.sub _ (by rw [hX1];exact HQ.out.2.2.2.2.2),by rw [hi1];exact hh1,by rw [OB];have:=HQ.out.2.2.1.1;omega⟩
 have HC2:=hid (Uy h1 HQ.out.1.1 HQ.out.1.2.1 HQ.out.1.2.2 (by rw [hX1];exact HQ.out.2.1.1) (by rw [hX1];exact HQ.out.2.1.2) hm2);have hp3:Qd ([cN]++ [lsN])=Qd [cN,lsN]:=rfl;rw [hp3] at HC2;have c2:w1.cell? ⟨bf,0,none⟩=some (.pointer (some ⟨F.fb,0,none⟩)):=(h1.arrCell HH.out.1 0).trans rfl;have c3:w1.cell? ⟨bd,0,none⟩=some (.string dir):=(h1.arrCell HH.out.2 0).trans (by rw [←hdir];rfl);have HK1:=hid (And.intro hk1 (And.intro hX1 (And.intro hh1 (And.intro hfb1 (And.intro hC1 (And.intro hA1 hN1))))));have HDIR:=hid hdir;clear h1 hk1 hX1 hh1 hfb1 hC1 hA1 hN1 hi1 hm2 hS1 hdir;go_wp2_with fail;refine HC2.out.mono ?_;clear HC2 c2 c3;rintro e w2 ⟨rfl,X2,A2,ι2,C2,h2,hk2⟩;obtain ⟨S2,i2,rfl,rfl,-,hS2,hh2,hfb2,hC2⟩:=hk2.tree;obtain rfl:=hS2 rfl;rw [OB] at hfb2 hC2;have hX2:=hk2.goes.wr;have hP2:X2=X.wr X2.l:=by rw [hX2,HK1.out.2.1];rfl
 have hA2:Yb (Yb YP [] cN (.dir 0) 64) [cN] lsN (.file []) 64 [cN,lsN]=some (.file []):=rfl;have hi2:YL (YL UG [] cN i1) [cN] lsN i2 [cN,lsN]=i2:=rfl;have hl8:(QB 1 []).length=8:=by rw [QN _ _ (fun t ht=>by cases ht)];rfl
 have hd8:dat (max ([]:Blk).length (0+(QB 1 []).length))-dat ([]:Blk).length=1:=by rw [hl8];rfl
 have hm3:OU X2 (Yb (Yb YP [] cN (.dir 0) 64) [cN] lsN (.file []) 64) (YL (YL UG [] cN i1) [cN] lsN i2) C2 [cN,lsN] [] ([]:Blk).length (QB 1 []):=by
  refine ⟨hA2,Nat.le_refl _,?_,?_,hk2.goes.cov,hk2.goes.sub _ (HK1.out.1.goes.sub _ ?_),by rw [hi2];exact hh2,?_⟩
  ·show max ([]:Blk).length (0+_)≤5120;rw [hl8];decide
  ·show dat (max ([]:Blk).length (0+_))-_≤_;rw [hd8];have:=HQ.out.2.2.2.1;have:=HK1.out.2.2.2.1;omega
  ·rw [hP2];exact HQ.out.2.2.2.2.2
  ·show C2.length+(dat (max ([]:Blk).length (0+_))-_)≤60;rw [hd8];have:=HQ.out.2.2.1.1;have:=HK1.out.2.2.2.2.1;omega
 have KAp:Hid (∀y g o c,Fs w0 y F X2 (Yb (Yb YP [] cN (.dir 0) 64) [cN] lsN (.file []) 64) (YL (YL UG [] cN i1) [cN] lsN i2) (byt (.slice (some ⟨g,o,none⟩) 8 c) (QB 1 [])::rs)→Calls prog 99 #[.pointer (some ⟨F.fb,0,none⟩),.string (Qd [cN,lsN]),.slice (some ⟨g,o,none⟩) 8 c] y fun e w'=>e= .returned (.int .i64 0)∧∃W A' C',Fs w0 w' F W A' (YL (YL UG [] cN i1) [cN] lsN i2) (byt (.slice (some ⟨g,o,none⟩) 8 c) (QB 1 [])::rs)∧Ed X2 W (Yb (Yb YP [] cN (.dir 0) 64) [cN] lsN (.file []) 64) A' C2 C' [cN,lsN] [] (QB 1 [])):=hid fun y g o c hy=>by
  have:=QbO hy HQ.out.1.1 HQ.out.1.2.1 HQ.out.1.2.2 (by rw [hP2];exact HQ.out.2.1.1) (by rw [hP2];exact HQ.out.2.1.2) (ns:= [cN,lsN]) (by simp) (by simp [Y2,Wy]) (by simp) hm3 (ai:=0) (bb:=g) (bo:=o) (vc:=c) (by rw [hl8];rfl);rw [hl8,List.nil_append] at this;exact this
 have KE:Hid (∀y,Calls prog 100 #[.int .i64 1,.map none] y fun e w'=> ∃g o c,e= .returned (.slice (some ⟨g,o,none⟩) 8 c)∧Qc w' (.slice (some ⟨g,o,none⟩) 8 c) (QB 1 []) (Up y.heap.size)∧Frm NoB y w'):=hid fun y=>by
  refine (Wg y (.map none) (L:= []) 1 (by decide) (fun t ht=>by cases ht) (fun W _=>QcV W)).mono ?_;rintro e w' ⟨v,he,hv,hf⟩;have hb:=hv.bytes (fun e=>by rw [e] at hl8;cases hl8);obtain ⟨g,o,c,rfl,-⟩:=hb.cells;rw [hl8] at he hb;exact ⟨g,o,c,he,hb,hf⟩
 have KC:Hid (∀y Y B κ rs',Fs w0 y F Y B κ (rs'++rs)→y.cell? ⟨bf,0,none⟩=some (.pointer (some ⟨F.fb,0,none⟩))∧y.cell? ⟨bd,0,none⟩=some (.string dir)):=hid fun y Y B κ rs' hy=>by
  have h':=hy.sub (List.sublist_append_right rs' rs);exact ⟨(h'.arrCell HH.out.1 0).trans rfl,(h'.arrCell HH.out.2 0).trans (by rw [←HDIR.out];rfl)⟩
 have HK2:=hid (And.intro hk2 (And.intro hP2 (And.intro hfb2 hC2)));have H2:=hid h2;have H2d:=hid (h2.frm (Frm.refl NoB w2).drew);obtain ⟨k1,k2⟩:=KC.out _ _ _ _ [] h2;clear h2 hk2 hX2 hP2 hA2 hi2 hl8 hd8 hm3 hfb2 hC2 hh2 hS2 hp3;go_upto_region 7 with fail
 go_region_held3 (fun y=>y.cell? ⟨bf,0,none⟩=some (.pointer (some ⟨F.fb,0,none⟩))∧y.cell? ⟨bd,0,none⟩=some (.string dir))
  (first | exact KC.out _ _ _ _ [] H2.out | exact KC.out _ _ _ _ [] H2d.out | exact KC.out _ _ _ _ [] (H2d.out.frm hf4) | exact KC.out _ _ _ _ [_] h5)
  (first
   | (go_at_call 100;(with_reducible refine (KE.out _).mono ?_);rintro e w4 ⟨g,o,c,rfl,hb4,hf4⟩;have h4:=H2d.out.mkByt hf4 hb4)
   | (go_at_call 99;(with_reducible refine (KAp.out _ _ _ _ h4).mono ?_);rintro e w5 ⟨rfl,X3,A3,C3,h5,hk3⟩))
 have H5:=hid (And.intro h5 hk3);clear h5 hk3 h4 hb4 hf4 KAp KE KC k1 k2;go_wp2;go_ret;refine ⟨rfl,X3,A3,_,C3,64,H5.out.1.drop 1,(HK1.out.1.goes.trans HK2.out.1.goes).trans H5.out.2.goes,?_,?_,?_,?_⟩
 ·rw [H5.out.2.tree];refine ⟨rfl,rfl,fun s hs=>?_,by decide⟩;by_cases e:s=lsN
  ·exact .inl e
  ·refine absurd ?_ hs;have n1: ¬ [cN,s]= [cN,lsN]:=by simp [e]
   unfold Q4;rw [if_neg n1];unfold Yb;rw [if_neg (by simpa using e),if_neg (by simp),if_neg (by simp),if_neg (by simp)];unfold YP;rw [if_neg (by simp)]
 ·rw [H5.out.2.tree];refine ⟨rfl,fun s hs=>?_⟩;by_cases e:s=cN
  ·exact e
  ·refine absurd ?_ hs;unfold Q4;rw [if_neg (by simp)];unfold Yb;rw [if_neg (by simp),if_neg (by simp [e]),if_neg (by simp [e]),if_neg (by simp)];unfold YP;rw [if_neg (by simp)]
 ·have a1:=HK1.out.1.fi;have a2:=HK2.out.1.fi;have a3:=H5.out.2.fi;omega
 ·have a1:=HK1.out.2.2.2.1;have a2:=HK2.out.2.2.1;have a3:=H5.out.2.fb;have:dat (QB 1 []).length=1:=by rw [QN _ _ (fun t ht=>by cases ht)];rfl
  have:dat ([]:Blk).length=0:=rfl;omega
def Ew (X:Sys) (j:Nat):List Nat:=(X.P.tb+j/8)::(List.range (dat (X.nd j 1))).map fun k=>X.nd j (2+k)
theorem YQ (X:Sys) (j:Nat):(Ew X j).length=1+dat (X.nd j 1):=by simp [Ew];omega
theorem Vv {X:Sys} {C:List Nat} {j:Nat} (h: ∀c∈Ew X j,c∈C):JW X C j:=
 ⟨h _ (List.mem_cons_self ..),fun k hk=>h _ (List.mem_cons_of_mem _ (List.mem_map.2 ⟨k,List.mem_range.2 hk,rfl⟩))⟩
theorem Qgz:QE prog 97:=QJ func97 (by kernel_rfl) rfl
theorem QjG (h:Fs w0 w F X YP UG rs) (hb:F.begun=false) (hd:F.dead=false) (hop:X.op=false) (hl:X.l= []) (hlim:X.D.lim=none) (hm:X.m<1000000) (hfi:2≤X.fi) (hfb:3≤X.fb):
 Calls prog 38 #[.pointer (some ⟨F.fb,0,none⟩),.string (Qd [cN])] w fun e w'=>e= .returned (.int .i64 0)∧∃A' ι' Y n,Fs w0 w' { F with begun:=false,QH:=false } Y A' ι' rs∧W7 A' (QB 1 []) n []∧Qes A'∧Y.op=false∧Y.l= []∧Y.D.lim=none∧Y.m=X.m+1∧Y.P=X.P∧Y.n=X.n∧Y.fi+2=X.fi∧Y.fb+3=X.fb:=by
 have hn0:X.nd 0 1=0:=(h.2.live [] (.dir 0) rfl).2.2;have h1:=(h.newArr #[.pointer (some ⟨F.fb,0,none⟩)] 24 Jc).newArr #[.string (Qd [cN])] 9 QZ;have hmf: ∀(fn:Fn) (first cap:Array Value) (W:World),(Instr.makeFunc fn first cap).run prog W= .ok (.func fn first cap) W:=fun _ _ _ _=>rfl
 have HT:=hid (Uj h1 hb hd hop hlim hm 97 #[.pointer (some ⟨w.heap.size,0,none⟩),.pointer (some ⟨(w.alloc (.cells #[.pointer (some ⟨F.fb,0,none⟩)] 24 (0,0))).heap.size,0,none⟩)] Qgz (K:=fun X' A' ι'=>(∃n,W7 A' (QB 1 []) n [])∧Qes A'∧X'.fi+2=X.fi∧X'.fb+3=X.fb) (fun y hy=>by
  refine (QhP hy rfl rfl hd rfl rfl (i:=1) (j:=0) rfl rfl (C:=X.P.im::X.P.bm::Ew X 0) (fun k hk=>?_) (List.mem_cons_self ..) (List.mem_cons_of_mem _ (List.mem_cons_self ..)) (Vv (X:=X.open') fun c hc=>List.mem_cons_of_mem _ (List.mem_cons_of_mem _ hc)) ?_ hfi hfb).mono ?_
  ·have:X.open'.keys= []:=by show X.l.map (·.1)= [];rw [hl];rfl
   rw [this] at hk;cases hk
  ·rw [List.length_cons,List.length_cons,YQ,hn0];decide
  ·rintro e w' ⟨he,X',A',ι',C',n,q1,q2,q3,q6,q4,q5⟩;exact ⟨he,X',A',ι',q1,q2.wr,⟨n,q3⟩,q6,q4,q5⟩))
 simp only [size_alloc] at HT;have c0:=(h1.arrCell (i:=1) rfl 0).trans (show (#[Value.pointer (some ⟨F.fb,0,none⟩)]:Array Value)[0]?=some (.pointer (some ⟨F.fb,0,none⟩)) from rfl);have HL:=hid (And.intro hlim (show X.D.lim=none from hlim));obtain ⟨dir,hdir⟩: ∃dir,Qd [cN]=dir:=⟨_,rfl⟩;rw [hdir] at HT c0 ⊢;clear h hb hd hop hl hlim hm hfi hfb hn0 h1 hdir;go_enter func38,ntmps38;go_wp2_with fail;refine HT.out.mono ?_;rintro e w2 ⟨rfl,X',A',ι',Y,h2,hc,hx,⟨n,hct⟩,hrt,hfi,hfb⟩;have H2:=hid (And.intro h2 (And.intro hc (And.intro hx (And.intro hct (And.intro hrt (And.intro hfi hfb))))));clear h2 hc hx hct hrt hfi hfb HT c0;go_wp2;go_ret;have hc:=H2.out.2.1;have hx:=H2.out.2.2.1;refine ⟨rfl,A',ι',Y,n,H2.out.1.drop 2,H2.out.2.2.2.1,H2.out.2.2.2.2.1,hc.op,hc.l,hc.same.lim.trans (by rw [hx];exact HL.out.1),hc.m.trans (by rw [hx];rfl),hc.same.P.trans (by rw [hx];rfl),hc.same.n.trans (by rw [hx];rfl),?_,?_⟩
 ·have:Y.fi=X'.fi:=by unfold Sys.fi;rw [hc.v,hc.same.P]
  rw [this];exact H2.out.2.2.2.2.2.1
 ·have:Y.fb=X'.fb:=by unfold Sys.fb;rw [hc.v,hc.same.P]
  rw [this];exact H2.out.2.2.2.2.2.2
theorem QgT: ¬U8T (93:TypeId):=by decide
def Qgg (fb:Nat) (dir:ByteArray) (next:Int) (mb:Nat):Array Value:= #[.pointer (some ⟨fb,0,none⟩),.string dir,.int .i64 next,.map (some mb)]
def Je (cb fb:Nat) (next:Int) (mb:Nat):Res:=arr cb (Qgg fb (Qd [cN]) next mb) 93 QgT
def Q8 (mb:Nat) (L:List Tp):Res:=VE JA okK mb L.length (tpV (QX L))
theorem Fs.mkMap (h:Fs w0 w F X A ι rs) {w':World} (hf:Frm NoB w w') {mb n:Nat} {f:Blk→Option Value} (hm:Qn JA okK w' mb n f) (hn:w.heap.size≤mb):Fs w0 w' F X A ι (VE JA okK mb n f::rs):=by
 obtain ⟨⟨k,l,ha,hl⟩,hr⟩:=h;have h1:At w0 w' X (VE JA okK mb n f::fsS F X::fsL F k l::rs):=⟨(ha.1.make hf (VE JA okK mb n f) hm fun x hx=>by obtain rfl:x=mb:=hx;exact hn).swap,ha.2⟩;exact ⟨⟨k,l,h1.perm ((List.Perm.swap _ _ _).trans ((List.Perm.swap _ _ _).cons _)),hl⟩,hr⟩
theorem Qgb (h:Fs w0 w F X A ι rs) {next:Int} {L:List Tp} {n:Nat} {D:List ByteArray} (hT:W7 A (QB next L) n D) (hroot: ∃m,A []=some (.dir m)) (hL:Q9 L) (hlen:L.length≤20) (hr:Qi8 next L):
 Calls prog 21 #[.pointer (some ⟨F.fb,0,none⟩),.string (Qd [cN])] w fun e w'=> ∃cb mb,e= .returned (.tuple #[.pointer (some ⟨cb,0,none⟩),.int .i64 0])∧Fs w0 w' F X A ι (Je cb F.fb next mb::Q8 mb L::rs):=by
 have hbl:=QN next L hL.nm
 have hdirs: ∀k,k< [cN].length→A ([cN].take k)≠none→∃m,A ([cN].take k)=some (.dir m):=fun k hk _=>by
  obtain rfl:k=0:=by simpa using hk
  exact hroot
 have HS:=hid (Qbd h [cN] (by simp) (by simp [Y2]) (by simp) hdirs);have hst:UW A [cN]= .tuple #[.agg #[.int .i64 2,.int .i64 n],.int .i64 0]:=by unfold UW;rw [hT.c];rfl
 rw [hst] at HS;have KR:Hid (∀y rs',Fs w0 y F X A ι rs'→Calls prog 54 #[.pointer (some ⟨F.fb,0,none⟩),.string (Qd [cN,lsN]),.int .i64 0,.int .i64 70656] y fun e w'=> ∃v,e= .returned (.tuple #[v,.int .i64 0])∧Fs w0 w' F X A ι (byt v (QB next L)::rs')):=hid fun y rs' hy=>by
  refine (QbL hy [cN,lsN] (by simp) (by simp [Y2,Wy]) (by simp) hT.ls 70656 (by omega) (by omega)).mono ?_;rintro e w' ⟨v,he,hg⟩;rcases hg with ⟨-,e0,-⟩ | hg
  ·rw [e0] at hbl;have:0=8+107*L.length:=hbl;omega
  ·exact ⟨v,he,hg⟩
 have KD:Hid (∀y v rs',Fs w0 y F X A ι (byt v (QB next L)::rs')→Calls prog 55 #[v] y fun e w'=> ∃mb,e= .returned (.tuple #[.int .i64 next,.map (some mb),.bool true])∧Fs w0 w' F X A ι (Q8 mb L::byt v (QB next L)::rs')):=hid fun y v rs' hy=>by
  refine (Qge y v hL hlen hr (hy.byt (i:=0) rfl)).mono ?_;rintro e w' ⟨mb,he,hm,hn,hf⟩;exact ⟨mb,he,hy.mkMap hf hm hn⟩
 have hcat: ∀W,(binOp .add 9 (.string (Qd [cN])) (.string ⟨#[47,99,97,116,97,108,111,103]⟩)).run prog W= .ok (.string (Qd [cN]++⟨#[47,99,97,116,97,108,111,103]⟩)) W:=fun W=>rfl
 have hp2:=YT [cN] lsN ⟨#[47,99,97,116,97,108,111,103]⟩ rfl;have hp3:Qd ([cN]++ [lsN])=Qd [cN,lsN]:=rfl;rw [hp3] at hp2;obtain ⟨dir,hdir⟩: ∃dir,Qd [cN]=dir:=⟨_,rfl⟩;have hds:dir.size=2:=by rw [←hdir];rfl
 rw [hdir] at HS hp2 ⊢;have HDIR:=hid hdir;clear h hT hroot hL hlen hr hbl hdirs hst hcat hp3 hdir;go_enter func21,ntmps21;go_wp2_with fail;refine HS.out.mono ?_;clear HS;rintro e w1 ⟨rfl,h1⟩;have h2:=h1.newArr #[.int .i64 2,.int .i64 n] 82 J9;have c0:(w1.alloc (.cells #[.int .i64 2,.int .i64 n] 82 (0,0))).cell? ⟨w1.heap.size,0,none⟩=some (.int .i64 2):=(h2.arrCell (i:=0) rfl 0).trans rfl;have H2:=hid h2;clear h1 h2;go_wp2_with fail;refine (KR.out _ _ H2.out).mono ?_;clear KR c0;rintro e w3 ⟨v,rfl,h3⟩;have HD:=hid (KD.out _ _ _ h3);clear h3 KD H2;go_wp2_with fail;refine HD.out.mono ?_;clear HD;rintro e w4 ⟨mb,rfl,h4⟩;have h5:=(h4.newArr (Qgg F.fb dir next mb) 93 QgT).sub (rs':=arr w4.heap.size (Qgg F.fb dir next mb) 93 QgT::Q8 mb L::rs) (((List.sublist_append_right [_,_] rs).cons_cons _).cons_cons _);have H5:=hid h5;clear h4 h5;go_wp2;go_ret2;refine ⟨_,mb,rfl,?_⟩;unfold Je;rw [HDIR.out];exact H5.out
def J7 (i:Nat):ByteArray:=⟨(Lib.decDigits i).toArray⟩
def Qe (id p:Nat):ByteArray:=⟨(116::(Lib.decDigits id++45::Lib.decDigits p)).toArray⟩
theorem itoa (w:World) (i:Nat) (hi:i<100):Calls prog 60 #[.int .i64 i] w fun e w'=>w=w'∧e= .returned (.string (J7 i)):=
 (Any.strconv_Itoa_small Tryz.itoaS i hi w).mono fun e w' ⟨h1,h2⟩=>⟨h2.symm,h1⟩
theorem Ut: ∀i,i<100→(J7 i).size=if i<10 then 1 else 2:=by decide+kernel
def QM:ByteArray:=⟨(List.replicate 20 48).toArray⟩
def kz (k:Nat):Array Value:=(List.replicate (20-k) (Value.int .u8 0)++List.replicate k (Value.int .u8 48)).toArray
theorem Qid (k:Nat) (hk:k<20):(kz k).setIfInBounds (19-k) (.int .u8 48)=kz (k+1):=by
 have h:k=0∨k=1∨k=2∨k=3∨k=4∨k=5∨k=6∨k=7∨k=8∨k=9∨k=10∨k=11∨k=12∨k=13∨k=14∨k=15∨k=16∨k=17∨k=18∨k=19:=by omega
 rcases h with rfl | rfl | rfl | rfl | rfl | rfl | rfl | rfl | rfl | rfl | rfl | rfl | rfl | rfl | rfl | rfl | rfl | rfl | rfl | rfl<;>rfl
theorem Qi7 (W:World):(zeroValue 240).run prog W= .ok (.agg (kz 0)) W:=by kernel_rfl
theorem Qed (W:World) (g:Nat) (h:W.heap[g]?=some (.cells (kz 20) 240 (0,0))):
 (convert 76 9 (.slice (some ⟨g,0,none⟩) 20 20)).run prog W= .ok (.string QM) W:=by
 have hc:=run_convert_bytes_back (P:=prog) W 76 9 5 ⟨g,0,none⟩ 20 (List.replicate 20 (48:UInt8)) underlying76 underlying5 underlying9 (fun j hj=>by
  rw [Qa7];refine (Qa h).trans ?_;unfold kz;rw [List.getElem?_toArray];simp only [Nat.sub_self,List.replicate_zero,List.nil_append];rw [List.getElem?_replicate,if_pos (by simpa using hj),List.getElem_replicate];rfl)
 exact hc
theorem Qg4 (w:World) (dir:ByteArray) (hds:dir.size≤100):Calls prog 76 #[.string dir,.int .i64 0] w fun e w'=>e= .returned (.string (dir++⟨#[47]⟩++QM))∧Frm NoB w w':=by
 have hb0:=Qb w (.cells (kz 0) 240 (0,0));have hf0:=(Frm.refl NoB w).alloc (.cells (kz 0) 240 (0,0));obtain ⟨y,hy⟩: ∃y,w.alloc (.cells (kz 0) 240 (0,0))=y:=⟨_,rfl⟩;obtain ⟨g,hg⟩: ∃g,w.heap.size=g:=⟨_,rfl⟩;rw [hy,hg] at hb0;rw [hy] at hf0;have HY:=hid (And.intro hy hg);have H0:Hid (y.heap[g]?=some (.cells (kz 0) 240 (0,0))∧Frm NoB w y):=hid ⟨hb0,hf0⟩;have HG:Hid (w.heap.size≤g):=hid (by omega);obtain ⟨n,hn⟩: ∃n,dir.size=n:=⟨_,rfl⟩;have n0:(0:Int)≤(n:Int):=Qk _;have n1:(n:Int)≤100:=by omega
 have hsz:QM.size=20:=rfl;clear hb0 hf0 hy hg hds;go_enter func76,ntmps76;go_upto_region 2 with (refine Qg rfl _ _ Qi7 rfl ?_)
 rw [HY.out.1,HY.out.2];clear HY;go_wp2_with fail;go_loopw [1,6] (fun t1 t6 wr=>t1= .int .i64 0∧∃k:Nat,k≤20∧t6= .int .i64 (19-(k:Int))∧Hid (wr.heap[g]?=some (.cells (kz k) 240 (0,0))∧Frm NoB w wr)) (fun _ t6 _=>(intOf t6+1).toNat)
 case atStart=>exact ⟨rfl,0,by omega,rfl,H0⟩
 case round=>
  clear H0;obtain ⟨rfl,k,hk,rfl,HR⟩:=hrel;have k0:(0:Int)≤(k:Int):=Qk _;by_cases hlt:k<20
  ·have k1:(0:Int)≤19-(k:Int):=by omega
   have k3:(k:Int)≤19:=by omega
   have k2:19-(k:Int)≤19:=by omega
   have k4:(19-(k:Int)).toNat=19-k:=by omega
   have cz: ∃u,wr.cell? ⟨g,19-k,none⟩=some u:=⟨_,(Qa HR.out.1).trans (by unfold kz;rw [List.getElem?_toArray];exact List.getElem?_eq_getElem (by simp;omega))⟩;obtain ⟨u,cz⟩:=cz;have fz:wr.frozen? ⟨g,19-k,none⟩=false:=Qf HR.out.1;have HN:Hid ((wr.setCell ⟨g,19-k,none⟩ (.int .u8 48)).heap[g]?=some (.cells (kz (k+1)) 240 (0,0))∧Frm NoB w (wr.setCell ⟨g,19-k,none⟩ (.int .u8 48))):=hid ⟨by
    have:=Qh (i:=19-k) (.int .u8 48) HR.out.1;rw [Qid k hlt] at this;exact this,HR.out.2.setCell (p:=⟨g,19-k,none⟩) (.inr HG.out) _⟩
   clear HR;go_wp2_with fail;exact ⟨⟨rfl,k+1,hlt,by go_num,HN⟩,by simp [intOf];omega⟩
  ·obtain rfl:k=20:=by omega
   have hcv:=Qed wr g HR.out.1;have HF:=hid HR.out.2;clear HR;go_wp2_with fail;go_ret;exact ⟨rfl,HF.out⟩
theorem QaT (id p:Nat):Qd [cN]++⟨#[47,116]⟩++J7 id++⟨#[45]⟩++J7 p=Qd [cN,Qe id p]:=by
 have h:=Vt [cN] (Qe id p);refine ByteArray.ext (Array.toList_inj.1 ?_);show _=(Qd ([cN]++ [Qe id p])).data.toList;rw [h];simp only [ByteArray.toList_data_append];unfold Qe J7;simp [List.append_assoc]
theorem Y1 (h:Fs w0 w F X A ι rs) {cb fb mb i:Nat} {next:Int} (hr:rs[i]?=some (Je cb fb next mb)):
 Calls prog 39 #[.pointer (some ⟨cb,0,none⟩)] w fun e w'=>w=w'∧e= .returned (.bool true):=by
 have c0:w.cell? ⟨cb,0,none⟩=some (.pointer (some ⟨fb,0,none⟩)):=(h.arrCell hr 0).trans rfl;clear h hr;go_enter func39,ntmps39;go_wp2_with fail;go_ret;exact ⟨rfl,rfl⟩
theorem Qf7 (h:Fs w0 w F X A ι rs) {cb fb mb i:Nat} {next:Int} (hr:rs[i]?=some (Je cb fb next mb)) (id p:Nat) (hiD:id<100) (hp:p<10) (nm:ByteArray) (p2 p3 p4 p5:Int) (p6:Bool) (p7:Int):
 Calls prog 24 #[.pointer (some ⟨cb,0,none⟩),.agg (tpz nm id p2 p3 p4 p5 p6 p7),.int .i64 p] w fun e w'=>e= .returned (.string (Qd [cN,Qe id p]))∧Fs w0 w' F X A ι rs:=by
 have h1:=h.newArr (tpz nm id p2 p3 p4 p5 p6 p7) 31 Jd;have HR:=hid (Y1 h1 (i:=i+1) hr);have KI1:Hid (∀W,Calls prog 60 #[.int .i64 id] W fun e w'=>W=w'∧e= .returned (.string (J7 id))):=hid fun W=>itoa W id hiD
 have KI2:Hid (∀W,Calls prog 60 #[.int .i64 p] W fun e w'=>W=w'∧e= .returned (.string (J7 p))):=hid fun W=>itoa W p (by omega)
 have hs1:(J7 id).size=1∨(J7 id).size=2:=by have:=Ut id hiD;split at this<;>omega
 have hs2:=Ut p (by omega);rw [if_pos (by omega)] at hs2;have HP:=hid (QaT id p);have hds:(Qd [cN]).size=2:=rfl;have happ: ∀a b:ByteArray,(a++b).size=a.size+b.size:=fun a b=>ByteArray.size_append
 have hl1:(⟨#[47,116]⟩:ByteArray).size=2:=rfl;have hl2:(⟨#[45]⟩:ByteArray).size=1:=rfl;have c1:(w.alloc (.cells (tpz nm id p2 p3 p4 p5 p6 p7) 31 (0,0))).cell? ⟨cb,1,none⟩=some (.string (Qd [cN])):=(h1.arrCell (i:=i+1) hr 1).trans rfl;have d1:(w.alloc (.cells (tpz nm id p2 p3 p4 p5 p6 p7) 31 (0,0))).cell? ⟨w.heap.size,1,none⟩=some (.int .i64 id):=(h1.arrCell (i:=0) rfl 1).trans rfl;have H1:=hid h1;obtain ⟨y,hy⟩: ∃y,w.alloc (.cells (tpz nm id p2 p3 p4 p5 p6 p7) 31 (0,0))=y:=⟨_,rfl⟩;obtain ⟨g,hg⟩: ∃g,w.heap.size=g:=⟨_,rfl⟩;rw [hy] at HR c1 d1 H1;rw [hg] at d1;have HY:=hid (And.intro hy hg);rw [←HP.out];generalize Qd [cN]=dir at*
 generalize J7 id=x1 at*
 generalize J7 p=x2 at*
 clear h hr h1 hy hg;go_enter func24,ntmps24;go_upto_region 1 with fail
 rw [HY.out.1,HY.out.2];clear HY;go_wp2_with fail;refine HR.out.mono ?_;clear HR;rintro e w2 ⟨rfl,rfl⟩;rcases hs1 with hs1 | hs1
 all_goals
  go_upto_region 3 with fail
  go_region_held3 (fun z=>z.cell? ⟨cb,1,none⟩=some (.string dir)∧z.cell? ⟨g,1,none⟩=some (.int .i64 id))
   (exact ⟨c1,d1⟩)
   (first
    | (go_at_call 60;(with_reducible refine (KI1.out _).mono ?_);rintro e w4 ⟨rfl,rfl⟩)
    | (go_at_call 60;(with_reducible refine (KI2.out _).mono ?_);rintro e w4 ⟨rfl,rfl⟩))
  go_wp2;go_ret;exact ⟨rfl,(H1.out.frm (Frm.refl NoB y).drew).drop 1⟩
theorem VB (w:World) (c d e:Int) (f:Bool) (g:Int) (h1:512≤c∧c≤8192) (h2: -1≤d∧d≤1099511627776) (h3: -1≤e∧e≤1125899906842624) (h4:0≤g∧g≤1125899906842624):
 Calls prog 41 #[.agg (stz c d e f g)] w fun r w'=>r= .returned (.bool true)∧Frm NoB w w':=by
 have hb0:=Qb w (.cells (stz c d e f g) 29 (0,0));have hf0:=(Frm.refl NoB w).alloc (.cells (stz c d e f g) 29 (0,0));obtain ⟨y,hy⟩: ∃y,w.alloc (.cells (stz c d e f g) 29 (0,0))=y:=⟨_,rfl⟩;obtain ⟨k,hk⟩: ∃k,w.heap.size=k:=⟨_,rfl⟩;rw [hy,hk] at hb0;rw [hy] at hf0;have c0:y.cell? ⟨k,0,none⟩=some (.int .i64 c):=(Qa hb0).trans rfl;have c1:y.cell? ⟨k,1,none⟩=some (.int .i64 d):=(Qa hb0).trans rfl;have c2:y.cell? ⟨k,2,none⟩=some (.int .i64 e):=(Qa hb0).trans rfl;have c4:y.cell? ⟨k,4,none⟩=some (.int .i64 g):=(Qa hb0).trans rfl;have HF:=hid hf0;have HY:=hid (And.intro hy hk);obtain ⟨a1,a2⟩:=h1;obtain ⟨b1,b2⟩:=h2;obtain ⟨e1,e2⟩:=h3;obtain ⟨g1,g2⟩:=h4;clear hb0 hf0 hy hk;go_enter func41,ntmps41;go_upto_region 1 with fail
 rw [HY.out.1,HY.out.2];go_wp2_with fail;go_ret;exact ⟨rfl,HF.out⟩
structure Tx (F:FH) (X:Sys):Prop where
 b:F.begun=true
 o:F.QH=false
 d:F.dead=false
 op:X.op=true
 ov:X.ov=false
theorem Tx.wr {F:FH} {X Y:Sys} (h:Tx F X) (e:Y=X.wr Y.l):Tx F Y:=⟨h.b,h.o,h.d,by rw [e];exact h.op,by rw [e];exact h.ov⟩
theorem Qhm (w:World):Calls prog 155 #[.int .i64 0] w fun e w'=>w=w'∧e= .returned (.bool true):=by
 go_enter func155,ntmps155;go_wp2_with fail;go_ret;exact ⟨rfl,rfl⟩
theorem Qkj (h:Fs w0 w F X A ι rs) (ht:Tx F X) {p:Path} {n:Nat} {s:ByteArray} {C:List Nat} (hm:Yy X A ι C p s n):
 Calls prog 85 #[.pointer (some ⟨F.fb,0,none⟩),.string (Qd (p++ [s])),.int .i64 0] w fun e w'=> ∃sb,e= .returned (.tuple #[.pointer (some ⟨sb,0,none⟩),.int .i64 0])∧∃X' A' ι' C',Fs w0 w' F X' A' ι' rs∧Mk X X' A ι A' ι' C C' p s (.file []) n:=by
 have HC:=hid (Uy h ht.b ht.o ht.d ht.op ht.ov hm);clear h ht hm;generalize Qd (p++ [s])=path at*
 go_enter func85,ntmps85;go_wp2_with fail;refine (Qhm _).mono ?_;rintro e w1 ⟨rfl,rfl⟩;go_wp2_with fail;refine HC.out.mono ?_;clear HC;rintro e w2 ⟨rfl,X',A',ι',C',h2,hk⟩;have H2:=hid (And.intro h2 hk);clear h2 hk;go_wp2;go_ret2;exact ⟨_,rfl,X',A',ι',C',H2.out.1.frm ((Frm.refl NoB w2).alloc _),H2.out.2⟩
theorem QiE (h:Fs w0 w F X A ι rs) (ht:Tx F X) {p:Path} {n:Nat} {s:ByteArray} {C:List Nat} (hm:Yy X A ι C p s n):
 Calls prog 106 #[.pointer (some ⟨F.fb,0,none⟩),.string (Qd (p++ [s]))] w fun e w'=>e= .returned (.int .i64 0)∧∃X' A' ι' C',Fs w0 w' F X' A' ι' rs∧Mk X X' A ι A' ι' C C' p s (.file []) n:=by
 have HC:=hid (Uy h ht.b ht.o ht.d ht.op ht.ov hm);clear h ht hm;generalize Qd (p++ [s])=path at*
 go_enter func106,ntmps106;go_wp2_with fail;refine HC.out.mono ?_;clear HC;rintro e w2 ⟨rfl,X',A',ι',C',h2,hk⟩;have H2:=hid (And.intro h2 hk);clear h2 hk;go_wp2;go_ret;exact ⟨rfl,X',A',ι',C',H2.out⟩
theorem QbH:Qy QM:=Vm _ (by decide) (by decide) (by decide)
structure O6 (X X':Sys) (A:Path→Option Nd) (ι:Path→Nat) (A':Path→Option Nd) (ι':Path→Nat) (C C':List Nat) (d:ByteArray) (n:Nat):Prop where
 tree: ∃S i1 i2,A'=Yb (Yb A [cN] d (.dir 0) S) [cN,d] QM (.file []) 64∧ι'=YL (YL ι [cN] d i1) [cN,d] QM i2∧(S=n∨S=n+64)∧JW X' C' i1∧X'.fb+(dat S-dat n)+1=X.fb∧C'.length≤C.length+3+(dat S-dat n)
 goes:Ei X X' C C'
 fi:X'.fi+2=X.fi
theorem Qim (h:Fs w0 w F X A ι rs) (ht:Tx F X) {d:ByteArray} {i j bf bd n:Nat} {C:List Nat} (hf:rs[i]?=some (arr bf #[.pointer (some ⟨F.fb,0,none⟩)] 24 Jc)) (hdr:rs[j]?=some (arr bd #[.string (Qd [cN,d])] 9 QZ)) (hds:(Qd [cN,d]).size≤60)
 (hm:Yy X A ι C [cN] d n) (hno: ∀s,A [cN,d,s]=none) (hfi:2≤X.fi) (hfb:dat (n+64)-dat n+1≤X.fb) (hroom:C.length+4+(dat (n+64)-dat n)≤60):
 Calls prog 195 #[.pointer (some ⟨bf,0,none⟩),.pointer (some ⟨bd,0,none⟩)] w fun e w'=>e= .returned (.int .i64 0)∧∃X' A' ι' C',Fs w0 w' F X' A' ι' rs∧O6 X X' A ι A' ι' C C' d n:=by
 have HM:=hid (Wc h ht.b ht.o ht.d ht.op ht.ov hm);have c0:w.cell? ⟨bf,0,none⟩=some (.pointer (some ⟨F.fb,0,none⟩)):=(h.arrCell hf 0).trans rfl;have c1:w.cell? ⟨bd,0,none⟩=some (.string (Qd [cN,d])):=(h.arrCell hdr 0).trans rfl;have HH:=hid (And.intro hf hdr);have HQ:=hid (And.intro ht (And.intro hm (And.intro hno (And.intro hfi (And.intro hfb hroom)))));have hp1:Qd ([cN]++ [d])=Qd [cN,d]:=rfl;rw [hp1] at HM;have KP:Hid (∀W,Calls prog 76 #[.string (Qd [cN,d]),.int .i64 0] W fun e w'=>e= .returned (.string (Qd [cN,d,QM]))∧Frm NoB W w'):=hid fun W=>by
  have:=Qg4 W (Qd [cN,d]) (by omega);have e:Qd [cN,d]++⟨#[47]⟩++QM=Qd ([cN,d]++ [QM]):=by
   have e1:(Qd [cN,d]++⟨#[47]⟩++QM)=Qd [cN,d]++(⟨#[47]⟩++QM):=ByteArray.append_assoc;rw [e1];exact YT [cN,d] QM _ rfl
  rw [e] at this;exact this
 obtain ⟨dir,hdir⟩: ∃dir,Qd [cN,d]=dir:=⟨_,rfl⟩;rw [hdir] at HM c1 KP;have HDIR:=hid hdir;clear h ht hf hdr hds hm hno hfi hfb hroom hp1 hdir;go_enter func195,ntmps195;go_wp2_with fail;refine HM.out.mono ?_;clear HM c0 c1;rintro e w1 ⟨rfl,X1,A1,ι1,C1,h1,hk1⟩;obtain ⟨S1,i1,rfl,rfl,hS,hS0,hh1,hfb1,hC1⟩:=hk1.tree;have hdm:dat S1-dat n≤dat (n+64)-dat n:=by rcases hS with rfl | rfl<;>omega
 have hX1:=hk1.goes.wr;have hnd: ¬ [cN]= [cN]++ [d]:=by simp
 have hA1:Yb A [cN] d (.dir 0) S1 [cN,d]=some (.dir 0):=if_pos (show [cN,d]= [cN]++ [d] from rfl);have hi1:YL ι [cN] d i1 [cN,d]=i1:=if_pos (show [cN,d]= [cN]++ [d] from rfl);have hlv:X1.live i1:=hi1▸(h1.2.live [cN,d] (.dir 0) hA1).1;have hN1:Yb A [cN] d (.dir 0) S1 [cN,d,QM]=none:=by unfold Yb;rw [if_neg (by simp),if_neg (by simp)];exact HQ.out.2.2.1 QM
 have hm2:Yy X1 (Yb A [cN] d (.dir 0) S1) (YL ι [cN] d i1) C1 [cN,d] QM 0:=⟨hA1,fun x hx=>by
  rcases List.mem_append.1 hx with h | h
  ·exact HQ.out.2.1.names x h
  ·have:x=QM:=by simpa using h
   rw [this];exact QbH,by simp,hN1,by omega,by have:=hk1.fi;have:=HQ.out.2.2.2.1;omega,by rw [OB];have:=HQ.out.2.2.2.2.1;omega,hk1.goes.cov,
  hk1.goes.sub _ (by rw [hX1];exact HQ.out.2.1.im),hk1.goes.sub _ (by rw [hX1];exact HQ.out.2.1.bm),by rw [hi1];exact hh1,by rw [OB];have:=HQ.out.2.2.2.2.2;omega⟩
 have ht1:=HQ.out.1.wr hX1;have KS:Hid (∀y,Fs w0 y F X1 (Yb A [cN] d (.dir 0) S1) (YL ι [cN] d i1) rs→Calls prog 85 #[.pointer (some ⟨F.fb,0,none⟩),.string (Qd [cN,d,QM]),.int .i64 0] y fun e w'=> ∃sb,e= .returned (.tuple #[.pointer (some ⟨sb,0,none⟩),.int .i64 0])∧∃X' A' ι' C',Fs w0 w' F X' A' ι' rs∧Mk X1 X' (Yb A [cN] d (.dir 0) S1) (YL ι [cN] d i1) A' ι' C1 C' [cN,d] QM (.file []) 0):=hid fun y hy=>Qkj hy ht1 hm2
 have KC:Hid (∀y Y B κ,Fs w0 y F Y B κ rs→y.cell? ⟨bf,0,none⟩=some (.pointer (some ⟨F.fb,0,none⟩))∧y.cell? ⟨bd,0,none⟩=some (.string dir)):=hid fun y Y B κ hy=>
  ⟨(hy.arrCell HH.out.1 0).trans rfl,(hy.arrCell HH.out.2 0).trans (by rw [←HDIR.out];rfl)⟩
 have HK1:=hid (And.intro hk1 (And.intro hS (And.intro hh1 (And.intro hfb1 (And.intro hC1 hlv)))));have H1:=hid h1;have H1d:=hid (h1.frm (Frm.refl NoB w1).drew);obtain ⟨k1,k2⟩:=KC.out _ _ _ _ h1;clear h1 hk1 hS hS0 hh1 hfb1 hC1 hdm hX1 hnd hA1 hi1 hN1 hm2 ht1 hlv;go_upto_region 4 with fail
 go_region_held3 (fun y=>y.cell? ⟨bf,0,none⟩=some (.pointer (some ⟨F.fb,0,none⟩))∧y.cell? ⟨bd,0,none⟩=some (.string dir))
  (first | exact KC.out _ _ _ _ H1.out | exact KC.out _ _ _ _ H1d.out | exact KC.out _ _ _ _ (H1d.out.frm hf4) | exact KC.out _ _ _ _ h5)
  (first
   | (go_at_call 76;(with_reducible refine (KP.out _).mono ?_);rintro e w4 ⟨rfl,hf4⟩)
   | (go_at_call 85;(with_reducible refine (KS.out _ (H1d.out.frm hf4)).mono ?_);rintro e w5 ⟨sb,rfl,X2,A2,ι2,C2,h5,hk2⟩))
 have H5:=hid (And.intro h5 hk2);clear h5 hk2 hf4 KS KP KC k1 k2;go_wp2;go_ret;obtain ⟨S2,i2,e1,e2,-,hS2,hh2,hfb2,hC2⟩:=H5.out.2.tree;obtain rfl:=hS2 rfl;have d64:dat 64-dat 0=1:=by decide
 rw [d64] at hfb2 hC2;have g2:=H5.out.2.goes;refine ⟨rfl,X2,A2,ι2,C2,H5.out.1,⟨S1,i1,i2,e1,e2,HK1.out.2.1,?_,?_,?_⟩,HK1.out.1.goes.trans g2,?_⟩
 ·exact g2.held i1 HK1.out.2.2.2.2.2 HK1.out.2.2.1
 ·have:=HK1.out.2.2.2.1;omega
 ·have:=HK1.out.2.2.2.2.1;omega
 ·have a1:=HK1.out.1.fi;have a2:=H5.out.2.fi;omega
theorem Qfl:QE prog 195:=QJ func195 (by kernel_rfl) rfl
theorem Qkb (h:Fs w0 w F X A ι rs) (ht:Tx F X) {d:ByteArray} {n:Nat} {C:List Nat} (hds:(Qd [cN,d]).size≤60)
 (hm:Yy X A ι C [cN] d n) (hno: ∀s,A [cN,d,s]=none) (hfi:2≤X.fi) (hfb:dat (n+64)-dat n+1≤X.fb) (hroom:C.length+4+(dat (n+64)-dat n)≤60)
 (c e g:Int) (f:Bool) (k:Int) (h1:512≤c∧c≤8192) (h2: -1≤e∧e≤1099511627776) (h3: -1≤g∧g≤1125899906842624) (h4:0≤k∧k≤1125899906842624):
 Calls prog 105 #[.pointer (some ⟨F.fb,0,none⟩),.string (Qd [cN,d]),.agg (stz c e g f k)] w fun r w'=>r= .returned (.int .i64 0)∧∃X' A' ι' C',Fs w0 w' F X' A' ι' rs∧O6 X X' A ι A' ι' C C' d n:=by
 have hh1:=((h.newArr #[.pointer (some ⟨F.fb,0,none⟩)] 24 Jc).newArr #[.string (Qd [cN,d])] 9 QZ).newArr (stz c e g f k) 29 Qkw;have hmf: ∀(fn:Fn) (first cap:Array Value) (W:World),(Instr.makeFunc fn first cap).run prog W= .ok (.func fn first cap) W:=fun _ _ _ _=>rfl
 have KT:Hid (∀y b1 b2 s,Fs w0 y F X A ι (s::arr b2 #[.string (Qd [cN,d])] 9 QZ::arr b1 #[.pointer (some ⟨F.fb,0,none⟩)] 24 Jc::rs)→Calls prog 80 #[.pointer (some ⟨F.fb,0,none⟩),.func (.func 195) #[] #[.pointer (some ⟨b1,0,none⟩),.pointer (some ⟨b2,0,none⟩)]] y fun e w'=>e= .returned (.int .i64 0)∧∃X' A' ι' C',Fs w0 w' F X' A' ι' (s::arr b2 #[.string (Qd [cN,d])] 9 QZ::arr b1 #[.pointer (some ⟨F.fb,0,none⟩)] 24 Jc::rs)∧O6 X X' A ι A' ι' C C' d n):=hid fun y b1 b2 s hy=>
  Qag hy ht.b ht.o ht.d 195 _ Qfl (fun z hz=>Qim hz ht (i:=2) (j:=1) rfl rfl hds hm hno hfi hfb hroom)
 simp only [size_alloc] at hh1;obtain ⟨y,hy⟩: ∃y,((w.alloc (.cells #[.pointer (some ⟨F.fb,0,none⟩)] 24 (0,0))).alloc (.cells #[.string (Qd [cN,d])] 9 (0,0))).alloc (.cells (stz c e g f k) 29 (0,0))=y:=⟨_,rfl⟩;obtain ⟨b1,hb1⟩: ∃b1,w.heap.size=b1:=⟨_,rfl⟩;rw [hy,hb1] at hh1;obtain ⟨b2,hb2⟩: ∃b2,b1+1=b2:=⟨_,rfl⟩;rw [hb2] at hh1;obtain ⟨b3,hb3⟩: ∃b3,b2+1=b3:=⟨_,rfl⟩;rw [hb3] at hh1;have HS:=hid (VB y c e g f k h1 h2 h3 h4);have c0:y.cell? ⟨b1,0,none⟩=some (.pointer (some ⟨F.fb,0,none⟩)):=(hh1.arrCell (i:=2) rfl 0).trans rfl;have s0:y.cell? ⟨b3,0,none⟩=some (.int .i64 c):=(hh1.arrCell (i:=0) rfl 0).trans rfl;have s1:y.cell? ⟨b3,1,none⟩=some (.int .i64 e):=(hh1.arrCell (i:=0) rfl 1).trans rfl;have s2:y.cell? ⟨b3,2,none⟩=some (.int .i64 g):=(hh1.arrCell (i:=0) rfl 2).trans rfl;have s3:y.cell? ⟨b3,3,none⟩=some (.bool f):=(hh1.arrCell (i:=0) rfl 3).trans rfl;have s4:y.cell? ⟨b3,4,none⟩=some (.int .i64 k):=(hh1.arrCell (i:=0) rfl 4).trans rfl;have HB:=hid hh1;have HY:=hid (And.intro hy (And.intro hb1 (And.intro hb2 hb3)));clear h ht hds hm hno hfi hfb hroom h1 h2 h3 h4 hh1 hy hb1 hb2 hb3;generalize Qd [cN,d]=dir at*
 go_enter func105,ntmps105;go_upto_region 1 with fail
 rw [HY.out.1,HY.out.2.1,HY.out.2.2.1,HY.out.2.2.2];clear HY;go_wp2_with fail;refine HS.out.mono ?_;clear HS s0 s1 s2 s3 s4;rintro r w2 ⟨rfl,hf2⟩;have hb2:=HB.out.frm hf2;have c2:w2.cell? ⟨b1,0,none⟩=some (.pointer (some ⟨F.fb,0,none⟩)):=(hb2.arrCell (i:=2) rfl 0).trans rfl;have HT:=hid (KT.out w2 b1 b2 _ hb2);clear hb2 hf2 c0 KT HB;go_wp2_with fail;refine HT.out.mono ?_;clear HT c2;rintro r w3 ⟨rfl,X',A',ι',C',h3,hp⟩;have H3:=hid (And.intro (h3.drop 3) hp);clear h3 hp;go_wp2;go_ret;exact ⟨rfl,X',A',ι',C',H3.out.1,H3.out.2⟩
def QS:ByteArray:=⟨#[112,114,111,100,117,99,101,114,115]⟩
theorem ED:Qy QS:=Vm _ (by decide) (by decide) (by decide)
theorem WJ: ∀id,id<100→∀p,p<10→(1≤(Qe id p).size∧(Qe id p).size≤50)∧(Qe id p).data.toList.all (fun b=>decide (b.toNat<128) && decide (b≠47) && decide (b≠0))=true∧(Qe id p).data.toList≠ [46]∧(Qe id p).data.toList≠ [46,46]∧(Qe id p).size≤5:=by decide+kernel
theorem VJ {id p:Nat} (hiD:id<100) (hp:p<10):Qy (Qe id p):=
 have h:=WJ id hiD p hp
 Vm _ h.1 h.2.1 ⟨h.2.2.1,h.2.2.2.1⟩
theorem QhY: ∀p,p<10→∀q,q<10→Lib.decDigits p=Lib.decDigits q→p=q:=by decide+kernel
theorem QfJ {id p q:Nat} (hp:p<10) (hq:q<10) (h:Qe id p=Qe id q):p=q:=by
 unfold Qe at h;have h1:=congrArg (fun b:ByteArray=>b.data.toList) h;simp only [List.cons.injEq,true_and] at h1;have h2:=List.append_cancel_left h1;rw [List.cons.injEq] at h2;exact QhY p hp q hq h2.2
structure Qdc (A:Path→Option Nd) (d:ByteArray):Prop where
 dir: ∃m,A [cN,d]=some (.dir m)
 seg:A [cN,d,QM]=some (.file [])
 prod:A [cN,d,QS]=some (.file [])
structure Fold (X X':Sys) (A:Path→Option Nd) (ι:Path→Nat) (A':Path→Option Nd) (ι':Path→Nat) (C C':List Nat) (id n n' q:Nat):Prop where
 goes:Ei X X' C C'
 c:A' [cN]=some (.dir n')
 ic:ι' [cN]=ι [cN]
 n1:n≤n'∧n'≤n+64*q
 keep: ∀p,A p≠none→p≠ [cN]→A' p=A p∧ι' p=ι p
 only: ∀p,A' p≠none→A p≠none∨∃j,j<q∧(p= [cN,Qe id j]∨p= [cN,Qe id j,QM]∨p= [cN,Qe id j,QS])
 new: ∀j,j<q→Qdc A' (Qe id j)
 fi:X'.fi+3*q=X.fi
 fb:X'.fb+dat n'+q=X.fb+dat n
 len:C'.length+dat n≤C.length+4*q+dat n'
theorem Fold.kids {X X':Sys} {A A':Path→Option Nd} {ι ι':Path→Nat} {C C':List Nat} {id n n' q:Nat} (h:Fold X X' A ι A' ι' C C' id n n' q) (s:ByteArray) (hs:A' [cN,s]≠none):A [cN,s]≠none∨∃j,j<q∧s=Qe id j:=by
 rcases h.only _ hs with h1 | ⟨j,hj,h1 | h1 | h1⟩
 ·exact .inl h1
 ·exact .inr ⟨j,hj,by simpa using h1⟩
 ·simp at h1
 ·simp at h1
theorem Fold.refl {X:Sys} {A:Path→Option Nd} {ι:Path→Nat} {C:List Nat} (hC:Cov X C) (id:Nat) {n:Nat} (hc:A [cN]=some (.dir n)):Fold X X A ι A ι C C id n n 0:=
 ⟨Ei.refl hC,hc,rfl,⟨Nat.le_refl _,by omega⟩,fun p _ _=>⟨rfl,rfl⟩,fun p h=> .inl h,fun j hj=>absurd hj (Nat.not_lt_zero _),by omega,by omega,by omega⟩
theorem Fold.step {X X1 X2 X3:Sys} {A A1 A2 A3:Path→Option Nd} {ι ι1 ι2 ι3:Path→Nat} {C C1 C2 C3:List Nat} {id n n1 q:Nat} (h:Fold X X1 A ι A1 ι1 C C1 id n n1 q) (hno:A1 [cN,Qe id q]=none) (hks: ∀s,A1 [cN,Qe id q,s]=none)
 (hp:O6 X1 X2 A1 ι1 A2 ι2 C1 C2 (Qe id q) n1) (hk:Mk X2 X3 A2 ι2 A3 ι3 C2 C3 [cN,Qe id q] QS (.file []) 64): ∃n',Fold X X3 A ι A3 ι3 C C3 id n n' (q+1):=by
 obtain ⟨S,i1,i2,rfl,rfl,hS,hh,hfb,hlen⟩:=hp.tree;obtain ⟨S3,i3,rfl,rfl,hS3,-,-,hfb3,hlen3⟩:=hk.tree;have hd:dat S3-dat 64=0:=by rcases hS3 with rfl | rfl<;>decide
 rw [hd] at hfb3 hlen3;have hg3:=(h.goes.trans hp.goes).trans hk.goes;have hnS:n1≤S:=by rcases hS with rfl | rfl<;>omega
 have hdn:dat n1≤dat S:=Jt hnS;have hsp:QM≠QS:=by decide
 have hq: ∀p,Yb (Yb (Yb A1 [cN] (Qe id q) (.dir 0) S) [cN,Qe id q] QM (.file []) 64) [cN,Qe id q] QS (.file []) S3 p=if p= [cN,Qe id q,QS] then some (.file []) else if p= [cN,Qe id q] then some (.dir S3) else if p= [cN,Qe id q,QM] then some (.file []) else if p= [cN] then some (.dir S) else A1 p:=fun p=>by
  unfold Yb;show (if p= [cN,Qe id q,QS] then _ else if p= [cN,Qe id q] then _ else if p= [cN,Qe id q,QM] then _ else if p= [cN,Qe id q] then _ else if p= [cN,Qe id q] then _ else if p= [cN] then _ else _)=_;by_cases e:p= [cN,Qe id q]
  ·rw [if_pos e,if_pos e]
  ·rw [if_neg e,if_neg e,if_neg e,if_neg e]
 have hqi: ∀p,YL (YL (YL ι1 [cN] (Qe id q) i1) [cN,Qe id q] QM i2) [cN,Qe id q] QS i3 p=if p= [cN,Qe id q,QS] then i3 else if p= [cN,Qe id q,QM] then i2 else if p= [cN,Qe id q] then i1 else ι1 p:=fun p=>rfl
 refine ⟨S,hg3,?_,?_,⟨by have:=h.n1;omega,by have:=h.n1;rcases hS with rfl | rfl<;>omega⟩,fun p hs hc=>?_,fun p hs=>?_,fun j hj=>?_,?_,?_,?_⟩
 ·rw [hq,if_neg (by simp),if_neg (by simp),if_neg (by simp),if_pos rfl]
 ·rw [←h.ic,hqi,if_neg (by simp),if_neg (by simp),if_neg (by simp)]
 ·obtain ⟨k1,k2⟩:=h.keep p hs hc;have hA1:A1 p≠none:=by rw [k1];exact hs
  have n1:p≠ [cN,Qe id q]:=fun e=>hA1 (by rw [e];exact hno)
  have n2:p≠ [cN,Qe id q,QS]:=fun e=>hA1 (by rw [e];exact hks _)
  have n3:p≠ [cN,Qe id q,QM]:=fun e=>hA1 (by rw [e];exact hks _)
  rw [hq,hqi,if_neg n2,if_neg n1,if_neg n3,if_neg hc,if_neg n2,if_neg n3,if_neg n1];exact ⟨k1,k2⟩
 ·rw [hq] at hs;by_cases n2:p= [cN,Qe id q,QS]
  ·exact .inr ⟨q,by omega,.inr (.inr n2)⟩
  ·rw [if_neg n2] at hs;by_cases n1:p= [cN,Qe id q]
   ·exact .inr ⟨q,by omega,.inl n1⟩
   ·rw [if_neg n1] at hs;by_cases n3:p= [cN,Qe id q,QM]
    ·exact .inr ⟨q,by omega,.inr (.inl n3)⟩
    ·rw [if_neg n3] at hs;have hA1:A1 p≠none:=by
      by_cases e:p= [cN]
      ·rw [e,h.c];simp
      ·rw [if_neg e] at hs;exact hs
     rcases h.only p hA1 with h1 | ⟨j,hj,h1⟩
     ·exact .inl h1
     ·exact .inr ⟨j,by omega,h1⟩
 ·by_cases e:j=q
  ·subst e;refine ⟨⟨S3,?_⟩,?_,?_⟩
   ·rw [hq,if_neg (by simp),if_pos rfl]
   ·rw [hq,if_neg (by simp [hsp]),if_neg (by simp),if_pos rfl]
   ·rw [hq,if_pos rfl]
  ·obtain ⟨⟨m,a1⟩,a2,a3⟩:=h.new j (by omega);have hne:Qe id j≠Qe id q:=fun e=>by rw [e,hno] at a1;cases a1
   refine ⟨⟨m,?_⟩,?_,?_⟩
   ·rw [hq,if_neg (by simp),if_neg (by simp [hne]),if_neg (by simp),if_neg (by simp)];exact a1
   ·rw [hq,if_neg (by simp [hne]),if_neg (by simp),if_neg (by simp [hne]),if_neg (by simp)];exact a2
   ·rw [hq,if_neg (by simp [hne]),if_neg (by simp),if_neg (by simp [hne]),if_neg (by simp)];exact a3
 ·have a1:=h.fi;have a2:=hp.fi;have a3:=hk.fi;omega
 ·have a1:=h.fb;omega
 ·have a1:=h.len;omega
structure Kt (X:Sys) (A:Path→Option Nd) (ι:Path→Nat) (C:List Nat) (id n P:Nat):Prop where
 c:A [cN]=some (.dir n)
 idl:id<100
 Pl:1≤P∧P≤8
 no: ∀q,q<P→A [cN,Qe id q]=none
 size:n+64*P≤5120
 fi:3*P≤X.fi
 fb:P+(dat (n+64*P)-dat n)≤X.fb
 cov:Cov X C
 im:X.P.im∈C
 bm:X.P.bm∈C
 held:JW X C (ι [cN])
 room:C.length+4*P+(dat (n+64*P)-dat n)≤60
theorem Kt.part {X X1:Sys} {A A1:Path→Option Nd} {ι ι1:Path→Nat} {C C1:List Nat} {id n n1 P q:Nat} (h:Kt X A ι C id n P) (hr:Rep X A ι) (f:Fold X X1 A ι A1 ι1 C C1 id n n1 q) (hq:q<P) (hr1:Rep X1 A1 ι1):
 A1 [cN,Qe id q]=none∧Yy X1 A1 ι1 C1 [cN] (Qe id q) n1∧(∀s,A1 [cN,Qe id q,s]=none)∧2≤X1.fi∧dat (n1+64)-dat n1+1≤X1.fb∧C1.length+4+(dat (n1+64)-dat n1)≤60:=by
 have hP:=h.Pl;have hn:=f.n1;have d1:dat n≤dat n1:=Jt hn.1;have d2:dat (n1+64)≤dat (n+64*P):=Jt (by omega);have d3:dat n1≤dat (n1+64):=Jt (by omega);have e1:=f.fi;have e2:=f.fb;have e3:=f.len;have m1:=h.fi;have m2:=h.fb;have m3:=h.room;have m4:=h.size;have hno:A1 [cN,Qe id q]=none:=by
  cases hx:A1 [cN,Qe id q] with
  | none=>rfl
  | some x=>
    rcases f.kids (Qe id q) (by rw [hx];exact fun e=>by cases e) with h1 | ⟨j,hj,h1⟩
    ·exact absurd (h.no q hq) h1
    ·have:=QfJ (by omega) (by omega) h1;omega
 refine ⟨hno,⟨f.c,fun x hx=>?_,by simp,hno,by omega,by omega,by omega,f.goes.cov,f.goes.sub _ (by rw [f.goes.wr];exact h.im),f.goes.sub _ (by rw [f.goes.wr];exact h.bm),?_,by omega⟩,fun s=>?_,by omega,by omega,by omega⟩
 ·rcases List.mem_append.1 hx with h1 | h1
  ·have:x=cN:=by simpa using h1
   rw [this];exact Y2
  ·have:x=Qe id q:=by simpa using h1
   rw [this];exact VJ h.idl (by omega)
 ·rw [f.ic];exact f.goes.held _ (hr.live [cN] _ h.c).1 h.held
 ·cases hx:A1 [cN,Qe id q,s] with
  | none=>rfl
  | some x=>
    obtain ⟨-,m,hm⟩:=hr1.up [cN,Qe id q] s (by show A1 [cN,Qe id q,s]≠none;rw [hx];exact fun e=>by cases e);rw [hno] at hm;cases hm
theorem Kt.prod {X X1 X2:Sys} {A A1 A2:Path→Option Nd} {ι ι1 ι2:Path→Nat} {C C1 C2:List Nat} {id n n1 P q:Nat} (h:Kt X A ι C id n P) (f:Fold X X1 A ι A1 ι1 C C1 id n n1 q) (hq:q<P)
 (hk: ∀s,A1 [cN,Qe id q,s]=none) (hfb:dat (n1+64)-dat n1+1≤X1.fb) (hp:O6 X1 X2 A1 ι1 A2 ι2 C1 C2 (Qe id q) n1):Yy X2 A2 ι2 C2 [cN,Qe id q] QS 64:=by
 obtain ⟨S,i1,i2,rfl,rfl,hS,hh,hfb2,hlen⟩:=hp.tree;have hP:=h.Pl;have hn:=f.n1;have d1:dat n≤dat n1:=Jt hn.1;have d2:dat (n1+64)≤dat (n+64*P):=Jt (by omega);have d3:dat n1≤dat (n1+64):=Jt (by omega);have d4:dat S≤dat (n1+64):=Jt (by rcases hS with rfl | rfl<;>omega);have d5:dat (64+64)-dat 64=0:=by decide
 have e1:=f.fi;have e3:=f.len;have e4:=hp.fi;have m1:=h.fi;have m3:=h.room;have hg:=f.goes.trans hp.goes;refine ⟨?_,fun x hx=>?_,by simp,?_,by omega,by omega,by rw [d5];omega,hg.cov,hg.sub _ (by rw [hg.wr];exact h.im),hg.sub _ (by rw [hg.wr];exact h.bm),?_,by rw [d5];omega⟩
 ·unfold Yb;rw [if_neg (by simp),if_pos rfl]
 ·rcases List.mem_append.1 hx with h1 | h1
  ·have:x=cN∨x=Qe id q:=by simpa using h1
   rcases this with rfl | rfl
   ·exact Y2
   ·exact VJ h.idl (by omega)
  ·have:x=QS:=by simpa using h1
   rw [this];exact ED
 ·unfold Yb;rw [if_neg (by simp;decide),if_neg (by simp),if_neg (by simp),if_neg (by simp)];exact hk QS
 ·have:YL (YL ι1 [cN] (Qe id q) i1) [cN,Qe id q] QM i2 [cN,Qe id q]=i1:=by
   unfold YL;rw [if_neg (by simp)];exact if_pos (show [cN,Qe id q]= [cN]++ [Qe id q] from rfl)
  rw [this];exact hh
theorem US {id p:Nat} (hiD:id<100) (hp:p<10):(Qd [cN,Qe id p]).size≤60:=by
 have h:=(WJ id hiD p hp).2.2.2.2;have h2:=Vt [cN] (Qe id p);have h3:(Qd [cN,Qe id p]).data.toList.length=2+1+(Qe id p).size:=by
  show (Qd ([cN]++ [Qe id p])).data.toList.length=_;rw [h2,List.length_append,List.length_cons];show 2+((Qe id p).data.toList.length+1)=_;rw [Array.length_toList];show 2+((Qe id p).size+1)=_;omega
 rw [Array.length_toList] at h3;show (Qd [cN,Qe id p]).data.size≤60;omega
theorem Qff (h:Fs w0 w F X A ι rs) (ht:Tx F X) {cb mb i0:Nat} {next:Int} (hr:rs[i0]?=some (Je cb F.fb next mb)) {C:List Nat} {id n P:Nat} (hm:Kt X A ι C id n P) (nm:ByteArray) (p3 p4 p5:Int) (p6:Bool) (p7:Int)
 (h1:512≤p3∧p3≤8192) (h2: -1≤p4∧p4≤1099511627776) (h3: -1≤p5∧p5≤1125899906842624) (h4:0≤p7∧p7≤1125899906842624):
 Calls prog 46 #[.pointer (some ⟨cb,0,none⟩),.agg (tpz nm id P p3 p4 p5 p6 p7)] w fun e w'=>e= .returned (.int .i64 0)∧∃X' A' ι' C' n',Fs w0 w' F X' A' ι' rs∧Fold X X' A ι A' ι' C C' id n n' P:=by
 have hb:=h.newArr (tpz nm id P p3 p4 p5 p6 p7) 31 Jd;obtain ⟨y,hy⟩: ∃y,w.alloc (.cells (tpz nm id P p3 p4 p5 p6 p7) 31 (0,0))=y:=⟨_,rfl⟩;obtain ⟨g,hg⟩: ∃g,w.heap.size=g:=⟨_,rfl⟩;rw [hy,hg] at hb;have KC:Hid (∀z Y B κ,Fs w0 z F Y B κ (arr g (tpz nm id P p3 p4 p5 p6 p7) 31 Jd::rs)→z.cell? ⟨cb,0,none⟩=some (.pointer (some ⟨F.fb,0,none⟩))∧(z.cell? ⟨g,2,none⟩=some (.int .i64 P)∧z.cell? ⟨g,3,none⟩=some (.int .i64 p3)∧z.cell? ⟨g,4,none⟩=some (.int .i64 p4)∧z.cell? ⟨g,5,none⟩=some (.int .i64 p5)∧z.cell? ⟨g,6,none⟩=some (.bool p6)∧z.cell? ⟨g,7,none⟩=some (.int .i64 p7))∧z.heap[g]?=some (.cells (tpz nm id P p3 p4 p5 p6 p7) 31 (0,0))):=hid fun z Y B κ hz=>
  ⟨(hz.arrCell (i:=i0+1) hr 0).trans rfl,⟨(hz.arrCell (i:=0) rfl 2).trans rfl,(hz.arrCell (i:=0) rfl 3).trans rfl,(hz.arrCell (i:=0) rfl 4).trans rfl,(hz.arrCell (i:=0) rfl 5).trans rfl,(hz.arrCell (i:=0) rfl 6).trans rfl,(hz.arrCell (i:=0) rfl 7).trans rfl⟩,hz.block (i:=0) rfl⟩
 have KDir:Hid (∀z Y B κ q,Fs w0 z F Y B κ (arr g (tpz nm id P p3 p4 p5 p6 p7) 31 Jd::rs)→q<10→Calls prog 24 #[.pointer (some ⟨cb,0,none⟩),.agg (tpz nm id P p3 p4 p5 p6 p7),.int .i64 (q:Nat)] z fun e w'=>e= .returned (.string (Qd [cN,Qe id q]))∧Fs w0 w' F Y B κ (arr g (tpz nm id P p3 p4 p5 p6 p7) 31 Jd::rs)):=hid fun z Y B κ q hz hq=>Qf7 hz (i:=i0+1) hr id q hm.idl hq nm P p3 p4 p5 p6 p7
 have KPart:Hid (∀z X1 A1 ι1 C1 n1 q,Fs w0 z F X1 A1 ι1 (arr g (tpz nm id P p3 p4 p5 p6 p7) 31 Jd::rs)→Fold X X1 A ι A1 ι1 C C1 id n n1 q→q<P→Calls prog 105 #[.pointer (some ⟨F.fb,0,none⟩),.string (Qd [cN,Qe id q]),.agg #[.int .i64 p3,.int .i64 p4,.int .i64 p5,.bool p6,.int .i64 p7]] z fun r w'=>r= .returned (.int .i64 0)∧∃X' A' ι' C',Fs w0 w' F X' A' ι' (arr g (tpz nm id P p3 p4 p5 p6 p7) 31 Jd::rs)∧O6 X1 X' A1 ι1 A' ι' C1 C' (Qe id q) n1):=hid fun z X1 A1 ι1 C1 n1 q hz f hq=>by
  obtain ⟨q1,q2,q3,q4,q5,q6⟩:=hm.part h.2 f hq hz.2;exact Qkb hz (ht.wr f.goes.wr) (US hm.idl (by have:=hm.Pl;omega)) q2 q3 q4 q5 q6 p3 p4 p5 p6 p7 h1 h2 h3 h4
 have KProd:Hid (∀z X1 A1 ι1 C1 n1 q X2 A2 ι2 C2,Rep X1 A1 ι1→Fold X X1 A ι A1 ι1 C C1 id n n1 q→q<P→O6 X1 X2 A1 ι1 A2 ι2 C1 C2 (Qe id q) n1→Fs w0 z F X2 A2 ι2 (arr g (tpz nm id P p3 p4 p5 p6 p7) 31 Jd::rs)→Calls prog 106 #[.pointer (some ⟨F.fb,0,none⟩),.string (Qd [cN,Qe id q]++⟨#[47,112,114,111,100,117,99,101,114,115]⟩)] z fun r w'=>r= .returned (.int .i64 0)∧∃X' A' ι' C' n',Fs w0 w' F X' A' ι' (arr g (tpz nm id P p3 p4 p5 p6 p7) 31 Jd::rs)∧Fold X X' A ι A' ι' C C' id n n' (q+1)):=hid fun z X1 A1 ι1 C1 n1 q X2 A2 ι2 C2 hr1 f hq hp hz=>by
  obtain ⟨q1,q2,q3,q4,q5,q6⟩:=hm.part h.2 f hq hr1;have:=QiE hz ((ht.wr f.goes.wr).wr hp.goes.wr) (hm.prod f hq q3 q5 hp);rw [YT [cN,Qe id q] QS _ rfl];refine this.mono ?_;rintro r w' ⟨he,X',A',ι',C',hz',hk⟩;obtain ⟨n',hf⟩:=f.step q1 q3 hp hk;exact ⟨he,X',A',ι',C',n',hz',hf⟩
 have KSz:Hid (∀q,q<10→(Qd [cN,Qe id q]).size≤60):=hid fun q hq=>US hm.idl hq
 have H0:Hid (Fs w0 y F X A ι (arr g (tpz nm id P p3 p4 p5 p6 p7) 31 Jd::rs)∧Fold X X A ι A ι C C id n n 0):=hid ⟨hb,Fold.refl hm.cov id hm.c⟩;have HY:=hid (And.intro hy hg);have P0:(0:Int)≤(P:Int):=Qk _;have P1:(P:Int)≤8:=by have:=hm.Pl;omega
 have c2:=(KC.out _ _ _ _ hb).2.1.1;clear h ht hr hm h1 h2 h3 h4 hb hy hg;go_enter func46,ntmps46;go_upto_region 1 with fail
 rw [HY.out.1,HY.out.2];clear HY;go_wp2_with fail;go_loopw [5,6,7,8,11] (fun _ _ _ _ t11 wr=> ∃q:Nat,q≤P∧t11= .int .i64 q∧∃X1 A1 ι1 C1 n1,Hid (Fs w0 wr F X1 A1 ι1 (arr g (tpz nm id P p3 p4 p5 p6 p7) 31 Jd::rs)∧Fold X X1 A ι A1 ι1 C C1 id n n1 q)) (fun _ _ _ _ t11 _=>P-(intOf t11).toNat)
 case atStart=>exact ⟨0,Nat.zero_le _,rfl,X,A,ι,C,n,H0⟩
 case round=>
  clear H0 c2;obtain ⟨q,hq,rfl,X1,A1,ι1,C1,n1,HR⟩:=hrel;have q0:(0:Int)≤(q:Int):=Qk _;by_cases hlt:q<P
  ·have q1:(q:Int)<(P:Int):=by omega
   have HD:=hid (KDir.out _ _ _ _ q HR.out.1 (by omega));have HBK:=hid (KC.out _ _ _ _ HR.out.1).2.2;have HQ:=hid (And.intro HR.out.2 (And.intro hlt HR.out.1.2));clear KDir HR;go_wp2_with (refine Of rfl _ rfl g rfl nm id P p3 p4 p5 p6 p7 HBK.out ?_);refine HD.out.mono ?_;clear HD HBK;rintro e w2 ⟨rfl,h2⟩;obtain ⟨c0,⟨c2,c3,c4,c5,c6,c7⟩,-⟩:=KC.out _ _ _ _ h2;have h2d:=h2.frm (Frm.refl NoB w2).drew;have HP:=hid (KPart.out _ _ _ _ _ _ q h2d HQ.out.1 HQ.out.2.1);have H2:=hid h2;have H2d:=hid h2d;clear h2 h2d KPart;go_upto_region 5 with fail
   go_region_held3 (fun z=>z.cell? ⟨cb,0,none⟩=some (.pointer (some ⟨F.fb,0,none⟩))∧(z.cell? ⟨g,2,none⟩=some (.int .i64 P)∧z.cell? ⟨g,3,none⟩=some (.int .i64 p3)∧z.cell? ⟨g,4,none⟩=some (.int .i64 p4)∧z.cell? ⟨g,5,none⟩=some (.int .i64 p5)∧z.cell? ⟨g,6,none⟩=some (.bool p6)∧z.cell? ⟨g,7,none⟩=some (.int .i64 p7)))
    (first | exact ⟨(KC.out _ _ _ _ H2.out).1,(KC.out _ _ _ _ H2.out).2.1⟩ | exact ⟨(KC.out _ _ _ _ H2d.out).1,(KC.out _ _ _ _ H2d.out).2.1⟩ | exact ⟨(KC.out _ _ _ _ h5).1,(KC.out _ _ _ _ h5).2.1⟩)
    (first
     | (go_at_call 105;(with_reducible refine HP.out.mono ?_);rintro e w5 ⟨rfl,X2,A2,ι2,C2,h5,hp5⟩))
   have HPR:=hid (KProd.out _ _ _ _ _ _ q _ _ _ _ HQ.out.2.2 HQ.out.1 HQ.out.2.1 hp5 h5);have d0:=(KC.out _ _ _ _ h5).1;obtain ⟨sz,hsz⟩: ∃sz,(Qd [cN,Qe id q]).size=sz:=⟨_,rfl⟩;have z0:(0:Int)≤(sz:Int):=Qk _;have z1:(sz:Int)≤60:=by have:=KSz.out q (by have:=HQ.out.2.1;omega);omega
   have hlp:(⟨#[47,112,114,111,100,117,99,101,114,115]⟩:ByteArray).size=10:=rfl;clear h5 hp5 KProd HP H2 H2d c0 c2 c3 c4 c5 c6 c7 KC KSz;generalize Qd [cN,Qe id q]=dir at*
   go_wp2_with fail;refine HPR.out.mono ?_;clear HPR d0;rintro e w6 ⟨rfl,X3,A3,ι3,C3,n3,h6,hf6⟩;have H6:=hid (And.intro h6 hf6);have hlt2:=HQ.out.2.1;clear h6 hf6 hsz;go_wp2_with fail;exact ⟨⟨q+1,hlt2,by go_num,X3,A3,ι3,C3,n3,H6⟩,by simp [intOf];omega⟩
  ·obtain rfl:q=P:=by omega
   clear KDir KPart KProd KSz KC;go_wp2_with fail;go_ret;exact ⟨rfl,X1,A1,ι1,C1,n1,HR.out.1.drop 1,HR.out.2⟩
theorem QfQ (A:Path→Option Nd) (p:Path) (x y:Option Nd):Q4 (Q4 A p x) p y=Q4 A p y:=by
 funext q
 unfold Q4;by_cases e:q=p
 ·rw [if_pos e,if_pos e]
 ·rw [if_neg e,if_neg e,if_neg e]
theorem Qd2 (b x:Blk):(Yg b 0 x).take x.length=x:=by
 unfold Yg;simp
theorem W8 (b x:Blk):(Yg b 0 x).length=max b.length x.length:=by
 unfold Yg;simp;omega
theorem QjK (h:Fs w0 w F X A ι rs) (ht:Tx F X) {cb mb mb' i j:Nat} {next next':Int} {L':List Tp} {old:Blk} (hr:rs[i]?=some (Je cb F.fb next mb)) (hr2:rs[j]?=some (Q8 mb' L')) (hL:Q9 L') (hlen:L'.length≤20) (hA:A [cN,lsN]=some (.file old)) (ho:old.length≤5120)
 {C:List Nat} (hC:Cov X C) (hbm:X.P.bm∈C) (hh:JW X C (ι [cN,lsN])) (hfb:dat (QB next' L').length-dat old.length≤X.fb) (hroom:C.length+(dat (QB next' L').length-dat old.length)≤60):
 Calls prog 104 #[.pointer (some ⟨cb,0,none⟩),.int .i64 next',.map (some mb')] w fun e w'=>e= .returned (.int .i64 0)∧∃X' C',Fs w0 w' F X' (Q4 A [cN,lsN] (some (.file (QB next' L')))) ι rs∧Ei X X' C C'∧X'.fi=X.fi∧X'.fb+dat (QB next' L').length=X.fb+dat old.length∧C'.length≤C.length+(dat (QB next' L').length-dat old.length):=by
 have hel:=QN next' L' hL.nm;obtain ⟨n,hn⟩: ∃n,(QB next' L').length=n:=⟨_,rfl⟩;have hmx:dat (max old.length n)-dat old.length=dat n-dat old.length:=by
  rcases Nat.le_total old.length n with e | e
  ·rw [Nat.max_eq_right e]
  ·rw [Nat.max_eq_left e];have:=Jt e;omega
 have KE:Hid (∀W,Fs w0 W F X A ι rs→Calls prog 100 #[.int .i64 next',.map (some mb')] W fun e w'=> ∃g o c,e= .returned (.slice (some ⟨g,o,none⟩) n c)∧Fs w0 w' F X A ι (byt (.slice (some ⟨g,o,none⟩) n c) (QB next' L')::rs)):=hid fun W hW=>by
  have hmap:Qn JA okK W mb' L'.length (tpV (QX L')):=by
   obtain ⟨⟨k,l,ha,-⟩,-⟩:=hW;exact ha.mapAt (i:=j+2) hr2
  refine (Wg W (.map (some mb')) next' (by omega) hL.nm (fun Z hZ=>O7 Z mb' hL (by omega) (hmap.frm hZ (fun e=>e)))).mono ?_;rintro e w' ⟨v,he,hv,hf⟩;have hb:=hv.bytes (fun e=>by rw [e] at hel;have:0=8+107*L'.length:=hel;omega);obtain ⟨g,o,c,rfl,-⟩:=hb.cells;rw [hn] at he hb;exact ⟨g,o,c,he,hW.mkByt hf hb⟩
 have KW:Hid (∀W g o c,Fs w0 W F X A ι (byt (.slice (some ⟨g,o,none⟩) n c) (QB next' L')::rs)→Calls prog 194 #[.pointer (some ⟨F.fb,0,none⟩),.string (Qd [cN,lsN]),.int .i64 0,.slice (some ⟨g,o,none⟩) n c] W fun e w'=>e= .returned (.int .i64 0)∧∃X1 C1,Fs w0 w' F X1 (Q4 A [cN,lsN] (some (.file (Yg old 0 (QB next' L'))))) ι (byt (.slice (some ⟨g,o,none⟩) n c) (QB next' L')::rs)∧Ed X X1 A (Q4 A [cN,lsN] (some (.file (Yg old 0 (QB next' L'))))) C C1 [cN,lsN] old (Yg old 0 (QB next' L'))):=hid fun W g o c hW=>by
  have:=Qdf hW ht.b ht.o ht.d ht.op ht.ov (ns:= [cN,lsN]) (by simp) (by simp [Y2,Wy]) (by simp) (a:=0) (x:=QB next' L') (C:=C) ⟨hA,Nat.zero_le _,(by rw [Nat.zero_add,hel];omega),by rw [Nat.zero_add,hn,hmx];rw [hn] at hfb;exact hfb,hC,hbm,hh,by rw [Nat.zero_add,hn,hmx];rw [hn] at hroom;exact hroom⟩ (ai:=0) (bb:=g) (bo:=o) (vc:=c) (by rw [hn];rfl);rw [hn] at this;refine this.mono ?_;rintro e w' ⟨he,X1,A1,C1,h1,hed⟩;obtain rfl:=hed.tree;exact ⟨he,X1,C1,h1,hed⟩
 have KT:Hid (∀W X1 C1 rs',Ed X X1 A (Q4 A [cN,lsN] (some (.file (Yg old 0 (QB next' L'))))) C C1 [cN,lsN] old (Yg old 0 (QB next' L'))→Fs w0 W F X1 (Q4 A [cN,lsN] (some (.file (Yg old 0 (QB next' L'))))) ι rs'→X.live (ι [cN,lsN])→Calls prog 158 #[.pointer (some ⟨F.fb,0,none⟩),.string (Qd [cN,lsN]),.int .i64 n] W fun e w'=>e= .returned (.int .i64 0)∧∃X' C',Fs w0 w' F X' (Q4 A [cN,lsN] (some (.file (QB next' L')))) ι rs'∧Ei X X' C C'∧X'.fi=X.fi∧X'.fb+dat (QB next' L').length=X.fb+dat old.length∧C'.length≤C.length+(dat (QB next' L').length-dat old.length)):=hid fun W X1 C1 rs' hed hW hlv=>by
  have hol:=W8 old (QB next' L');have h60:C1.length≤60:=by have:=hed.len;rw [hol,hn,hmx] at this;rw [hn] at hroom;omega
  have htx:=ht.wr hed.goes.wr;have:=Qac hW htx.b htx.o htx.d htx.op htx.ov (ns:= [cN,lsN]) (by simp) (by simp [Y2,Wy]) (by simp) (b:=Yg old 0 (QB next' L')) (S:=n) (by unfold Q4;rw [if_pos rfl]) (by rw [hol];omega) hed.goes.cov (hed.goes.sub _ (by rw [hed.goes.wr];exact hbm)) (hed.goes.held _ hlv hh) h60;refine this.mono ?_;rintro e w' ⟨he,X2,A2,C2,h2,hed2⟩;obtain rfl:=hed2.tree;rw [←hn,Qd2] at hed2 h2;rw [QfQ] at h2;have f1:=hed.fb;have f2:=hed2.fb;have l1:=hed.len;have l2:=hed2.len;rw [hol,hn,hmx] at l1;rw [hol,hn] at l2;have hmx2:dat n-dat (max old.length n)=0:=by have:=Jt (Nat.le_max_right old.length n);omega
  rw [hmx2] at l2;exact ⟨he,X2,C2,h2,hed.goes.trans hed2.goes,hed2.fi.trans hed.fi,by omega,by rw [hn];omega⟩
 have hlv:X.live (ι [cN,lsN]):=(h.2.live _ _ hA).1;have KC:Hid (∀z Y B κ rs',Fs w0 z F Y B κ (rs'++rs)→z.cell? ⟨cb,0,none⟩=some (.pointer (some ⟨F.fb,0,none⟩))∧z.cell? ⟨cb,1,none⟩=some (.string (Qd [cN]))):=hid fun z Y B κ rs' hz=>by
  have hz:=hz.sub (List.sublist_append_right rs' rs);exact ⟨(hz.arrCell hr 0).trans rfl,(hz.arrCell hr 1).trans rfl⟩
 have HLV:=hid hlv;have HE:=hid (KE.out _ h);have hp2:=YT [cN] lsN ⟨#[47,99,97,116,97,108,111,103]⟩ rfl;have hp3:Qd ([cN]++ [lsN])=Qd [cN,lsN]:=rfl;rw [hp3] at hp2;obtain ⟨dir,hdir⟩: ∃dir,Qd [cN]=dir:=⟨_,rfl⟩;have hds:dir.size=2:=by rw [←hdir];rfl
 rw [hdir] at hp2 KC;generalize Qd [cN,lsN]=path at*
 have n0:(0:Int)≤(n:Int):=Qk _;have n1:(n:Int)≤2148:=by omega
 clear h ht hr hr2 hL hlen hA ho hC hbm hh hfb hroom hel hn hmx hlv KE hp3 hdir;go_enter func104,ntmps104;go_wp2_with fail;refine HE.out.mono ?_;clear HE;rintro e w1 ⟨g,o,c,rfl,h1⟩;obtain ⟨k1,k2⟩:=KC.out _ _ _ _ [_] h1;have H1:=hid h1;have H1d:=hid (h1.frm (Frm.refl NoB w1).drew);have HW:=hid (KW.out _ _ _ _ H1d.out);clear h1 KW;go_upto_region 2 with fail
 go_region_held3 (fun z=>z.cell? ⟨cb,0,none⟩=some (.pointer (some ⟨F.fb,0,none⟩))∧z.cell? ⟨cb,1,none⟩=some (.string dir))
  (first | exact KC.out _ _ _ _ [_] H1.out | exact KC.out _ _ _ _ [_] H1d.out | exact KC.out _ _ _ _ [_] h2)
  (first
   | (go_at_call 194;(with_reducible refine HW.out.mono ?_);rintro e w2 ⟨rfl,X1,C1,h2,hed⟩))
 have h2:=h2.drop 1;obtain ⟨k3,k4⟩:=KC.out _ _ _ _ [] h2;have H2:=hid h2;have H2d:=hid (h2.frm (Frm.refl NoB w2).drew);have HT:=hid (KT.out _ _ _ _ hed H2d.out HLV.out);clear h2 hed HW H1 H1d KT k1 k2;go_upto_region 5 with fail
 go_region_held3 (fun z=>z.cell? ⟨cb,0,none⟩=some (.pointer (some ⟨F.fb,0,none⟩))∧z.cell? ⟨cb,1,none⟩=some (.string dir))
  (first | exact KC.out _ _ _ _ [] H2.out | exact KC.out _ _ _ _ [] H2d.out | exact KC.out _ _ _ _ [] h3)
  (first
   | (go_at_call 158;(with_reducible refine HT.out.mono ?_);rintro e w3 ⟨rfl,X2,C2,h3,hg3⟩))
 have H3:=hid (And.intro h3 hg3);clear h3 hg3 HT H2 H2d KC k3 k4;go_wp2;go_ret;exact ⟨rfl,X2,C2,H3.out.1,H3.out.2⟩
theorem J8: ¬U8T (25:TypeId):=by decide
theorem QgV: ¬U8T (91:TypeId):=by decide
structure OR (X:Sys) (A:Path→Option Nd) (ι:Path→Nat) (C:List Nat) (old new:Blk):Prop where
 ls:A [cN,lsN]=some (.file old)
 oldl:old.length≤5120
 cov:Cov X C
 bm:X.P.bm∈C
 held:JW X C (ι [cN,lsN])
 fb:dat new.length-dat old.length≤X.fb
 room:C.length+(dat new.length-dat old.length)≤60
structure Wd (X X':Sys) (C C':List Nat) (old new:Blk):Prop where
 goes:Ei X X' C C'
 fi:X'.fi=X.fi
 fb:X'.fb+dat new.length=X.fb+dat old.length
 len:C'.length≤C.length+(dat new.length-dat old.length)
theorem Qfd (h:Fs w0 w F X A ι rs) (ht:Tx F X) {cb mb mb' i j i1 i2 i3 i4 b1 b2 b3 b4:Nat} {next next':Int} {L':List Tp} {old:Blk} {fn:FuncId} {caps:Array Value} (hr:rs[i]?=some (Je cb F.fb next mb)) (hr2:rs[j]?=some (Q8 mb' L'))
 (q1:rs[i1]?=some (arr b1 #[.pointer (some ⟨cb,0,none⟩)] 25 J8)) (q2:rs[i2]?=some (arr b2 #[.int .i64 next'] 3 Jj)) (q3:rs[i3]?=some (arr b3 #[.map (some mb')] 91 QgV)) (q4:rs[i4]?=some (arr b4 #[.func (.func fn) #[] caps] 100 J6))
 (hL:Q9 L') (hlen:L'.length≤20) {C:List Nat} (hs:OR X A ι C old (QB next' L')) (hE:QE prog fn) {R:World→Prop}
 (HM: ∀y X1 C1,Fs w0 y F X1 (Q4 A [cN,lsN] (some (.file (QB next' L')))) ι rs→Wd X X1 C C1 old (QB next' L')→Calls prog fn caps y fun e w'=>e= .returned (.int .i64 0)∧R w'):
 Calls prog 103 #[.pointer (some ⟨b1,0,none⟩),.pointer (some ⟨b2,0,none⟩),.pointer (some ⟨b3,0,none⟩),.pointer (some ⟨b4,0,none⟩)] w fun e w'=>e= .returned (.int .i64 0)∧R w':=by
 have HS:=hid (QjK h ht hr hr2 hL hlen hs.ls hs.oldl hs.cov hs.bm hs.held hs.fb hs.room);have c1:w.cell? ⟨b1,0,none⟩=some (.pointer (some ⟨cb,0,none⟩)):=(h.arrCell q1 0).trans rfl;have c2:w.cell? ⟨b2,0,none⟩=some (.int .i64 next'):=(h.arrCell q2 0).trans rfl;have c3:w.cell? ⟨b3,0,none⟩=some (.map (some mb')):=(h.arrCell q3 0).trans rfl;have HQ:=hid q4;have HMM:=hid HM;have HEN:=hid hE;clear h ht hr hr2 q1 q2 q3 q4 hL hlen hs hE HM;go_enter func103,ntmps103;go_wp2_with fail;refine HS.out.mono ?_;clear HS c1 c2 c3;rintro e w2 ⟨rfl,X1,C1,h2,g1,g2,g3,g4⟩;have c4:w2.cell? ⟨b4,0,none⟩=some (.func (.func fn) #[] caps):=(h2.arrCell HQ.out 0).trans rfl;have HC:=hid (HMM.out w2 X1 C1 h2 ⟨g1,g2,g3,g4⟩);clear h2 g1 g2 g3 g4 HMM;go_wp2_with fail;refine Yj HEN.out HC.out ?_;rintro e w3 ⟨rfl,hR⟩;refine ⟨_,rfl,?_⟩;have HR:=hid hR;clear hR HC c4;go_wp2;go_ret;exact ⟨rfl,HR.out⟩
theorem QdJ:QE prog 103:=QJ func103 (by kernel_rfl) rfl
theorem Qcb (h:Fs w0 w F X A ι rs) (hb:F.begun=false) (hd:F.dead=false) (hop:X.op=false) (hlim:X.D.lim=none) (hm:X.m<1000000) {cb mb mb' i j:Nat} {next next':Int} {L':List Tp} {old:Blk} {fn:FuncId} {caps:Array Value} (hr:rs[i]?=some (Je cb F.fb next mb)) (hr2:rs[j]?=some (Q8 mb' L'))
 (hL:Q9 L') (hlen:L'.length≤20) {C:List Nat} (hs:OR X.open' A ι C old (QB next' L')) (hE:QE prog fn) {K:Sys→(Path→Option Nd)→(Path→Nat)→Prop}
 (HM: ∀y X1 C1 rs',Fs w0 y { F with begun:=true,QH:=false } X1 (Q4 A [cN,lsN] (some (.file (QB next' L')))) ι (rs'++rs)→Wd X.open' X1 C C1 old (QB next' L')→Calls prog fn caps y fun e w'=>e= .returned (.int .i64 0)∧∃X' A' ι',Fs w0 w' { F with begun:=true,QH:=false } X' A' ι' (rs'++rs)∧X'=X.open'.wr X'.l∧K X' A' ι'):
 Calls prog 44 #[.pointer (some ⟨cb,0,none⟩),.int .i64 next',.map (some mb'),.func (.func fn) #[] caps] w fun e w'=>e= .returned (.int .i64 0)∧∃X' A' ι' Y,Fs w0 w' { F with begun:=false,QH:=false } Y A' ι' (rs.set i (Je cb F.fb next' mb'))∧Comm X' Y∧X'=X.open'.wr X'.l∧K X' A' ι':=by
 have hh:=(((h.newArr #[.pointer (some ⟨cb,0,none⟩)] 25 J8).newArr #[.int .i64 next'] 3 Jj).newArr #[.map (some mb')] 91 QgV).newArr #[.func (.func fn) #[] caps] 100 J6;have hmf: ∀(fn:Fn) (first cap:Array Value) (W:World),(Instr.makeFunc fn first cap).run prog W= .ok (.func fn first cap) W:=fun _ _ _ _=>rfl
 simp only [size_alloc] at hh;obtain ⟨y,hy⟩: ∃y,(((w.alloc (.cells #[.pointer (some ⟨cb,0,none⟩)] 25 (0,0))).alloc (.cells #[.int .i64 next'] 3 (0,0))).alloc (.cells #[.map (some mb')] 91 (0,0))).alloc (.cells #[.func (.func fn) #[] caps] 100 (0,0))=y:=⟨_,rfl⟩;obtain ⟨b1,hb1⟩: ∃b1,w.heap.size=b1:=⟨_,rfl⟩;rw [hy,hb1] at hh;obtain ⟨b2,hb2⟩: ∃b2,b1+1=b2:=⟨_,rfl⟩;rw [hb2] at hh;obtain ⟨b3,hb3⟩: ∃b3,b2+1=b3:=⟨_,rfl⟩;rw [hb3] at hh;obtain ⟨b4,hb4⟩: ∃b4,b3+1=b4:=⟨_,rfl⟩;rw [hb4] at hh;have HT:=hid (Uj hh hb hd hop hlim hm 103 #[.pointer (some ⟨b1,0,none⟩),.pointer (some ⟨b2,0,none⟩),.pointer (some ⟨b3,0,none⟩),.pointer (some ⟨b4,0,none⟩)] QdJ (K:=K) (fun z hz=>
  Qfd hz ⟨rfl,rfl,hd,rfl,rfl⟩ (i:=i+4) (j:=j+4) (i1:=3) (i2:=2) (i3:=1) (i4:=0) hr hr2 rfl rfl rfl rfl hL hlen hs hE (fun v X1 C1 hv hsv=>HM v X1 C1 [_,_,_,_] hv hsv)))
 have c0:y.cell? ⟨b1,0,none⟩=some (.pointer (some ⟨cb,0,none⟩)):=(hh.arrCell (i:=3) rfl 0).trans rfl;have d0:y.cell? ⟨cb,0,none⟩=some (.pointer (some ⟨F.fb,0,none⟩)):=(hh.arrCell (i:=i+4) hr 0).trans rfl;have HY:=hid (And.intro hy (And.intro hb1 (And.intro hb2 (And.intro hb3 hb4))));have HR:=hid hr;clear h hb hd hop hlim hm hr hr2 hL hlen hs hE HM hh hy hb1 hb2 hb3 hb4;go_enter func44,ntmps44;go_upto_region 1 with fail
 rw [HY.out.1,HY.out.2.1,HY.out.2.2.1,HY.out.2.2.2.1,HY.out.2.2.2.2];clear HY;go_wp2_with fail;refine HT.out.mono ?_;clear HT c0 d0;rintro e w2 ⟨rfl,X',A',ι',Y,h2,hc,hx,hk⟩;have hr:=HR.out;have e1:w2.cell? ⟨b1,0,none⟩=some (.pointer (some ⟨cb,0,none⟩)):=(h2.arrCell (i:=3) rfl 0).trans rfl;have e2:w2.cell? ⟨b2,0,none⟩=some (.int .i64 next'):=(h2.arrCell (i:=2) rfl 0).trans rfl;have e3:w2.cell? ⟨b3,0,none⟩=some (.map (some mb')):=(h2.arrCell (i:=1) rfl 0).trans rfl;have f2:w2.cell? ⟨cb,2,none⟩=some (.int .i64 next):=(h2.arrCell (i:=i+4) hr 2).trans rfl;have f3:w2.cell? ⟨cb,3,none⟩=some (.map (some mb)):=(h2.arrCell (i:=i+4) hr 3).trans rfl;have g2:w2.frozen? ⟨cb,2,none⟩=false:=(h2.weak.1.elim fun n hn=>hn.elim fun l ha=>ha.arrFree (i:=i+6) hr 2);have g3:w2.frozen? ⟨cb,3,none⟩=false:=(h2.weak.1.elim fun n hn=>hn.elim fun l ha=>ha.arrFree (i:=i+6) hr 3);have hil:i<rs.length:=(List.getElem?_eq_some_iff.1 hr).1;have hA1:=(h2.setArr (i+4) hr 2 (.int .i64 next')).setArr (i+4) (c:=(Qgg F.fb (Qd [cN]) next mb).setIfInBounds 2 (.int .i64 next')) (by rw [List.getElem?_set_self (by show i+4<rs.length+4;omega)]) 3 (.map (some mb'));have hB1:=(h2.setArr (i+4) hr 3 (.map (some mb'))).setArr (i+4) (c:=(Qgg F.fb (Qd [cN]) next mb).setIfInBounds 3 (.map (some mb'))) (by rw [List.getElem?_set_self (by show i+4<rs.length+4;omega)]) 2 (.int .i64 next');rw [List.set_set] at hA1 hB1;have HA:Hid (Fs w0 ((w2.setCell ⟨cb,2,none⟩ (.int .i64 next')).setCell ⟨cb,3,none⟩ (.map (some mb'))).drew { F with begun:=false,QH:=false } Y A' ι' (rs.set i (Je cb F.fb next' mb'))):=hid ((hA1.frm (Frm.refl NoB _).drew).drop 4);have HB:Hid (Fs w0 ((w2.setCell ⟨cb,3,none⟩ (.map (some mb'))).setCell ⟨cb,2,none⟩ (.int .i64 next')).drew { F with begun:=false,QH:=false } Y A' ι' (rs.set i (Je cb F.fb next' mb'))):=hid ((hB1.frm (Frm.refl NoB _).drew).drop 4);have HH:=hid (And.intro hc (And.intro hx hk));clear h2 hc hx hk hr hil hA1 hB1 HR;go_upto_region 3 with fail
 go_region
 all_goals
  go_wp2;go_ret
  first
   | exact ⟨rfl,X',A',ι',Y,HA.out,HH.out⟩
   | exact ⟨rfl,X',A',ι',Y,HB.out,HH.out⟩
def JI (t:Tp):List Tp→List Tp
 | []=> [t]
 | a::r=>if QD t.nm a.nm then t::a::r else a::JI t r
theorem YR (t x:Tp): ∀L:List Tp,x∈JI t L↔x=t∨x∈L
 | []=>by simp [JI]
 | a::r=>by
   unfold JI;split
   ·simp
   ·rw [List.mem_cons,YR t x r,List.mem_cons];constructor
    ·rintro (h | h | h)
     ·exact .inr (.inl h)
     ·exact .inl h
     ·exact .inr (.inr h)
    ·rintro (h | h | h)
     ·exact .inr (.inl h)
     ·exact .inl h
     ·exact .inr (.inr h)
theorem YF (t:Tp): ∀L:List Tp,(JI t L).length=L.length+1
 | []=>rfl
 | a::r=>by
   unfold JI;split
   ·rfl
   ·rw [List.length_cons,YF t r,List.length_cons]
theorem QcM {a b c:ByteArray} (h1:QD a b=true) (h2:QD b c=true):QD a c=true:=by
 rw [Ju] at h1 h2 ⊢;exact decide_eq_true (List.lt_trans (of_decide_eq_true h1) (of_decide_eq_true h2))
theorem QcJ (t:Tp): ∀L:List Tp,L.Pairwise (fun x y=>QD x.nm y.nm=true)→(∀x∈L,x.nm≠t.nm)→(JI t L).Pairwise fun x y=>QD x.nm y.nm=true
 | [],_,_=>by simp [JI]
 | a::r,h,hn=>by
   rw [List.pairwise_cons] at h;unfold JI;split
   ·rename_i hlt
    rw [List.pairwise_cons];refine ⟨fun x hx=>?_,List.pairwise_cons.2 h⟩;rcases List.mem_cons.1 hx with rfl | hx
    ·exact hlt
    ·exact QcM hlt (h.1 x hx)
   ·rename_i hlt
    rw [List.pairwise_cons];refine ⟨fun x hx=>?_,QcJ t r h.2 fun x hx=>hn x (List.mem_cons_of_mem _ hx)⟩;rcases (YR t x r).1 hx with rfl | hx
    ·cases hq:QD a.nm x.nm with
     | true=>rfl
     | false=>exact absurd (UL hq (by simpa using hlt)) (hn a (List.mem_cons_self ..))
    ·exact h.1 x hx
theorem Q9.ins {L:List Tp} (h:Q9 L) (t:Tp) (ht:t.nm.size≤50) (hn: ∀x∈L,x.nm≠t.nm):Q9 (JI t L):=
 ⟨QcJ t L h.asc hn,fun x hx=>by
  rcases (YR t x L).1 hx with rfl | hx
  ·exact ht
  ·exact h.nm x hx⟩
theorem Q9.map_iff {L:List Tp} (h:Q9 L) (a:Blk) (t:Tp):QX L a=some t↔t∈L∧a=Qj t.nm:=by
 constructor
 ·intro e;exact Q9.sub e
 ·rintro ⟨h1,rfl⟩;exact (h.find (h.nm t h1)).2 ⟨h1,rfl⟩
theorem Q9.map_ins {L:List Tp} (h:Q9 L) (t:Tp) (ht:t.nm.size≤50) (hn: ∀x∈L,x.nm≠t.nm) (a:Blk):QX (JI t L) a=if a=Qj t.nm then some t else QX L a:=by
 apply Option.ext;intro x;rw [(h.ins t ht hn).map_iff,YR];by_cases e:a=Qj t.nm
 ·rw [if_pos e];constructor
  ·rintro ⟨rfl | hx,e2⟩
   ·rfl
   ·exact absurd (JO _ _ ht (h.nm x hx) (e.symm.trans e2)).symm (hn x hx)
  ·intro e2;injection e2 with e2
   subst e2;exact ⟨.inl rfl,e⟩
 ·rw [if_neg e,h.map_iff];constructor
  ·rintro ⟨rfl | hx,e2⟩
   ·exact absurd e2 e
   ·exact ⟨hx,e2⟩
  ·rintro ⟨hx,e2⟩;exact ⟨.inr hx,e2⟩
theorem Qex (h:Fs w0 w F X A ι rs) {mb j:Nat} {L:List Tp} (hr:rs[j]?=some (Q8 mb L)):
 Calls prog 43 #[.map (some mb)] w fun e w'=> ∃mb',e= .returned (.map (some mb'))∧Fs w0 w' F X A ι (Q8 mb' L::rs):=by
 have hmap:Qn JA okK w mb L.length (tpV (QX L)):=by
  obtain ⟨⟨k,l,ha,-⟩,-⟩:=h;exact ha.mapAt (i:=j+2) hr
 obtain ⟨es,clock,hb,h2,h3,h4,h5⟩:=hmap;refine (AnyW.maps_Clone Tryz.cloneT mb es clock w hb).mono ?_;rintro e w' ⟨he,hw⟩;refine ⟨w.heap.size,he,?_⟩;rw [hw];exact h.mkMap ((Frm.refl NoB w).alloc _) ⟨es,clock,Qb _ _,h2,h3,h4,h5⟩ (Nat.le_refl _)
theorem QeY (h:Fs w0 w F X A ι rs) (ht:Tx F X) {cb mb i0 i1 i2 b1 b2:Nat} {next:Int} (hr:rs[i0]?=some (Je cb F.fb next mb)) {C:List Nat} {id n P:Nat} (hm:Kt X A ι C id n P) (nm:ByteArray) (p3 p4 p5:Int) (p6:Bool) (p7:Int)
 (q1:rs[i1]?=some (arr b1 #[.pointer (some ⟨cb,0,none⟩)] 25 J8)) (q2:rs[i2]?=some (arr b2 (tpz nm id P p3 p4 p5 p6 p7) 31 Jd))
 (h1:512≤p3∧p3≤8192) (h2: -1≤p4∧p4≤1099511627776) (h3: -1≤p5∧p5≤1125899906842624) (h4:0≤p7∧p7≤1125899906842624):
 Calls prog 45 #[.pointer (some ⟨b1,0,none⟩),.pointer (some ⟨b2,0,none⟩)] w fun e w'=>e= .returned (.int .i64 0)∧∃X' A' ι' C' n',Fs w0 w' F X' A' ι' rs∧Fold X X' A ι A' ι' C C' id n n' P:=by
 have HF:=hid (Qff h ht hr hm nm p3 p4 p5 p6 p7 h1 h2 h3 h4);have c1:w.cell? ⟨b1,0,none⟩=some (.pointer (some ⟨cb,0,none⟩)):=(h.arrCell q1 0).trans rfl;have HB:=hid (h.block q2);clear h ht hr hm q1 q2 h1 h2 h3 h4;go_enter func45,ntmps45;go_wp2_with (refine Of rfl _ rfl b2 rfl nm id P p3 p4 p5 p6 p7 HB.out ?_);refine HF.out.mono ?_;clear HF HB c1;rintro e w2 ⟨rfl,X',A',ι',C',n',h2,hf⟩;have H2:=hid (And.intro h2 hf);clear h2 hf;go_wp2;go_ret;exact ⟨rfl,X',A',ι',C',n',H2.out.1,H2.out.2⟩
def UC (id P:Nat):List ByteArray:=(List.range P).map (Qe id)
theorem KJ {id P:Nat} {s:ByteArray}:s∈UC id P↔∃q,q<P∧s=Qe id q:=by
 unfold UC;rw [List.mem_map];constructor
 ·rintro ⟨q,h1,h2⟩;exact ⟨q,List.mem_range.1 h1,h2.symm⟩
 ·rintro ⟨q,h1,h2⟩;exact ⟨q,List.mem_range.2 h1,h2.symm⟩
def QfY (next:Nat) (D:List ByteArray):Prop:= ∀s∈D,∃id p,id<next∧p<8∧s=Qe id p
theorem QjW: ∀id,id<100→∀id',id'<100→(Lib.decDigits id++ [45]:List UInt8)=Lib.decDigits id'++ [45]→id=id':=by decide+kernel
theorem OF: ∀id,id<100→(45:UInt8)∉Lib.decDigits id:=by decide+kernel
theorem Qc5 {a b:List UInt8} {x:UInt8} (ha:x∉a) (hb:x∉b): ∀ {r s:List UInt8},a++x::r=b++x::s→a=b:=by
 induction a generalizing b with
 | nil=>
   intro r s h;cases b with
   | nil=>rfl
   | cons y b=>
     rw [List.nil_append,List.cons_append,List.cons.injEq] at h;exact absurd (by rw [h.1];exact List.mem_cons_self ..) hb
 | cons y a ih=>
   intro r s h;cases b with
   | nil=>
     rw [List.nil_append,List.cons_append,List.cons.injEq] at h;exact absurd (by rw [←h.1];exact List.mem_cons_self ..) ha
   | cons z b=>
     rw [List.cons_append,List.cons_append,List.cons.injEq] at h;rw [h.1,ih (fun hx=>ha (List.mem_cons_of_mem _ hx)) (fun hx=>hb (List.mem_cons_of_mem _ hx)) h.2]
theorem WG {id id' p p':Nat} (h1:id<100) (h2:id'<100) (h:Qe id p=Qe id' p'):id=id':=by
 unfold Qe at h;have h3:=congrArg (fun b:ByteArray=>b.data.toList) h;simp only [List.cons.injEq,true_and] at h3;have h4:=Qc5 (OF id h1) (OF id' h2) h3;exact QjW id h1 id' h2 (by rw [h4])
theorem OH: ∀id,id<100→∀p,p<10→Qe id p≠lsN:=by
 intro id hiD p hp e;have h1:=congrArg (fun b:ByteArray=>b.data.toList[0]?) e;simp [Qe,lsN] at h1
structure Qar (X:Sys) (A:Path→Option Nd) (next:Nat) (L:List Tp) (n:Nat) (D:List ByteArray) (P:Nat):Prop where
 tree:W7 A (QB next L) n D
 cat:Q9 L
 few:L.length<20
 id:next<100
 Pl:1≤P∧P≤8
 old:QfY next D
 size:n+64*P≤5120
 fi:3*P≤X.fi
 fb:P+(dat (n+64*P)-dat n)+(dat (8+107*(L.length+1))-dat (8+107*L.length))≤X.fb
def Wp (X:Sys) (ι:Path→Nat):List Nat:=X.P.im::X.P.bm::(Ew X (ι [cN])++Ew X (ι [cN,lsN]))
theorem Qar.save (hA:Rep X A ι) (hl:X.l= []) {next n P:Nat} {L:List Tp} {D:List ByteArray} (h:Qar X A next L n D P) (t:Tp) (ht:t.nm.size≤50) (next':Int):
 OR X.open' A ι (Wp X ι) (QB next L) (QB next' (JI t L))∧(Wp X ι).length=4+dat n+dat (8+107*L.length)∧JW X (Wp X ι) (ι [cN]):=by
 have e1:=QN (next:Int) L h.cat.nm;have e2:(QB next' (JI t L)).length=8+107*(L.length+1):=by
  rw [QN next' (JI t L) (fun x hx=>by
   rcases (YR t x L).1 hx with rfl | hx
   ·exact ht
   ·exact h.cat.nm x hx),YF]
 have s1:X.nd (ι [cN]) 1=n:=(hA.live _ _ h.tree.c).2.2;have s2:X.nd (ι [cN,lsN]) 1=(QB next L).length:=(hA.live _ _ h.tree.ls).2.2;have hlen:(Wp X ι).length=4+dat n+dat (8+107*L.length):=by
  unfold Wp;rw [List.length_cons,List.length_cons,List.length_append,YQ,YQ,s1,s2,e1];omega
 have hf:=h.few;have hs:=h.size;have hb:=h.fb;have d1:dat n≤10:=Yq (by omega);have d2:dat (8+107*L.length)≤5:=by unfold dat;omega
 have d3:dat (8+107*(L.length+1))≤5:=by unfold dat;omega
 refine ⟨⟨h.tree.ls,by rw [e1];omega,?_,?_,?_,?_,?_⟩,hlen,?_⟩
 ·intro k hk;have:X.l= []:=hl;simp [Sys.keys,Sys.open',this] at hk
 ·exact List.mem_cons_of_mem _ (List.mem_cons_self ..)
 ·exact Vv (X:=X) (fun c hc=>List.mem_cons_of_mem _ (List.mem_cons_of_mem _ (List.mem_append_right _ hc)))
 ·rw [e1,e2];show _≤X.fb;omega
 ·rw [e1,e2,hlen];omega
 ·exact Vv (X:=X) (fun c hc=>List.mem_cons_of_mem _ (List.mem_cons_of_mem _ (List.mem_append_left _ hc)))
theorem Qar.fold (hA:Rep X A ι) (hl:X.l= []) {next n P:Nat} {L:List Tp} {D:List ByteArray} (h:Qar X A next L n D P) (t:Tp) (ht:t.nm.size≤50) (next':Int) {X1:Sys} {C1:List Nat} (hs:Wd X.open' X1 (Wp X ι) C1 (QB next L) (QB next' (JI t L))):
 Kt X1 (Q4 A [cN,lsN] (some (.file (QB next' (JI t L))))) ι C1 next n P:=by
 have hsv:=h.save hA hl t ht next';have e1:=QN (next:Int) L h.cat.nm;have e2:(QB next' (JI t L)).length=8+107*(L.length+1):=by
  rw [QN next' (JI t L) (fun x hx=>by
   rcases (YR t x L).1 hx with rfl | hx
   ·exact ht
   ·exact h.cat.nm x hx),YF]
 have hfi:=hs.fi;have hfb:=hs.fb;have hln:=hs.len;rw [e1,e2] at hfb hln;rw [hsv.2.1] at hln;have hf:=h.few;have hz:=h.size;have hp:=h.Pl;have hb:=h.fb;have hi:=h.fi;have d1:dat n≤10:=Yq (by omega);have d2:dat (8+107*L.length)≤5:=by unfold dat;omega
 have d3:dat (8+107*(L.length+1))≤5:=by unfold dat;omega
 have d4:dat (n+64*P)≤10:=Yq (by omega);have f1:X.open'.fi=X.fi:=rfl;have f2:X.open'.fb=X.fb:=rfl;have eP:X1.P=X.P:=by rw [hs.goes.wr];rfl
 refine ⟨?_,h.id,h.Pl,?_,hz,by omega,by omega,hs.goes.cov,?_,?_,?_,by omega⟩
 ·unfold Q4;rw [if_neg (by simp)];exact h.tree.c
 ·intro q hq;unfold Q4;rw [if_neg (by intro e;simp at e;exact OH next h.id q (by omega) e)];cases hx:A [cN,Qe next q] with
  | none=>rfl
  | some x=>
    rcases h.tree.kids (Qe next q) (by rw [hx];simp) with e | e
    ·exact absurd e (OH next h.id q (by omega))
    ·obtain ⟨id,p,h1,h2,h3⟩:=h.old _ e;have:=WG h.id (by have:=h.id;omega) h3;omega
 ·rw [eP];exact hs.goes.sub _ (List.mem_cons_self ..)
 ·rw [eP];exact hs.goes.sub _ (List.mem_cons_of_mem _ (List.mem_cons_self ..))
 ·exact hs.goes.held _ ((hA.live _ _ h.tree.c).1) hsv.2.2
structure U1 (X Y:Sys) (A A':Path→Option Nd) (old new:Blk) (id n n' P:Nat):Prop where
 same:Ot X Y
 op:Y.op=false
 l:Y.l= []
 m:Y.m=X.m+1
 c:A' [cN]=some (.dir n')
 n1:n≤n'∧n'≤n+64*P
 ls:A' [cN,lsN]=some (.file new)
 keep: ∀p,A p≠none→p≠ [cN]→p≠ [cN,lsN]→A' p=A p
 only: ∀p,A' p≠none→A p≠none∨∃j,j<P∧(p= [cN,Qe id j]∨p= [cN,Qe id j,QM]∨p= [cN,Qe id j,QS])
 born: ∀j,j<P→Qdc A' (Qe id j)
 fi:Y.fi+3*P=X.fi
 fb:Y.fb+dat n'+P+dat new.length=X.fb+dat n+dat old.length
theorem QjO {X X1 X' Y:Sys} {A A':Path→Option Nd} {ι ι':Path→Nat} {C C1 C':List Nat} {old new:Blk} {id n n' P:Nat} {D:List ByteArray} (ht:W7 A old n D) (hs:Wd X.open' X1 C C1 old new) (hf:Fold X1 X' (Q4 A [cN,lsN] (some (.file new))) ι A' ι' C1 C' id n n' P) (hx:X'=X.open'.wr X'.l) (hc:Comm X' Y):
 U1 X Y A A' old new id n n' P:=by
 have hlsne: [cN,lsN]≠ [cN]:=by simp
 have hset:Q4 A [cN,lsN] (some (.file new)) [cN,lsN]=some (.file new):=if_pos rfl;have hoth: ∀p,p≠ [cN,lsN]→Q4 A [cN,lsN] (some (.file new)) p=A p:=fun p e=>if_neg e
 have e1:Y.fi=X'.fi:=by unfold Sys.fi;rw [hc.v,hc.same.P]
 have e2:Y.fb=X'.fb:=by unfold Sys.fb;rw [hc.v,hc.same.P]
 have f1:X.open'.fi=X.fi:=rfl;have f2:X.open'.fb=X.fb:=rfl;refine ⟨Ot.trans (by rw [hx];exact ⟨rfl,rfl,rfl,rfl,rfl,rfl,rfl⟩) hc.same,hc.op,hc.l,hc.m.trans (by rw [hx];rfl),hf.c,hf.n1,?_,fun p h1 h2 h3=>?_,fun p hp=>?_,hf.new,?_,?_⟩
 ·rw [(hf.keep [cN,lsN] (by rw [hset];simp) hlsne).1,hset]
 ·rw [(hf.keep p (by rw [hoth p h3];exact h1) h2).1,hoth p h3]
 ·rcases hf.only p hp with h | h
  ·by_cases e:p= [cN,lsN]
   ·left;rw [e,ht.ls];simp
   ·rw [hoth p e] at h;exact .inl h
  ·exact .inr h
 ·have a1:=hf.fi;have a2:=hs.fi;omega
 ·have a1:=hf.fb;have a2:=hs.fb;omega
theorem UX (id P:Nat):(UC id P).length=P:=by simp [UC]
theorem U1.tree {X Y:Sys} {A A':Path→Option Nd} {old new:Blk} {id n n' P:Nat} {D:List ByteArray} (h:U1 X Y A A' old new id n n' P) (ht:W7 A old n D):W7 A' new n' (D++UC id P):=by
 refine ⟨h.c,h.ls,fun s hs=>?_,?_⟩
 ·rcases h.only _ hs with h1 | ⟨j,hj,h1 | h1 | h1⟩
  ·rcases ht.kids s h1 with e | e
   ·exact .inl e
   ·exact .inr (List.mem_append_left _ e)
  ·have e:s=Qe id j:=by simpa using h1
   exact .inr (List.mem_append_right _ (KJ.2 ⟨j,hj,e⟩))
  ·simp at h1
  ·simp at h1
 ·have a1:=h.n1;have a2:=ht.size;rw [List.length_append,UX];omega
theorem QfY.more {next P:Nat} {D:List ByteArray} (h:QfY next D) (hP:P≤8):QfY (next+1) (D++UC next P):=fun s hs=>by
 rcases List.mem_append.1 hs with hs | hs
 ·obtain ⟨id,p,h1,h2,h3⟩:=h s hs;exact ⟨id,p,by omega,h2,h3⟩
 ·obtain ⟨q,hq,rfl⟩:=KJ.1 hs;exact ⟨next,q,by omega,by omega,rfl⟩
theorem Qdc.keep {X Y:Sys} {A A':Path→Option Nd} {old new:Blk} {id n n' P:Nat} (h:U1 X Y A A' old new id n n' P) {d:ByteArray} (e:d≠lsN) (hd:Qdc A d):Qdc A' d:=by
 obtain ⟨⟨m,h1⟩,h2,h3⟩:=hd;refine ⟨⟨m,?_⟩,?_,?_⟩
 ·rw [h.keep _ (by rw [h1];simp) (by simp) (by simp [e])];exact h1
 ·rw [h.keep _ (by rw [h2];simp) (by simp) (by simp)];exact h2
 ·rw [h.keep _ (by rw [h3];simp) (by simp) (by simp)];exact h3
theorem QbA {fn:Func} {t u v x:Tmp} (h:fn.results= #[.tmp t,.tmp u,.tmp v,.tmp x]) (tmps:Array Value) (P:Program) (w:World):
 (results fn tmps).run P w= .ok (.tuple #[tmps.getD t undef,tmps.getD u undef,tmps.getD v undef,tmps.getD x undef]) w:=by
 simp [results,h]
structure Calm (F:FH) (X:Sys):Prop where
 b:F.begun=false
 d:F.dead=false
 op:X.op=false
 l:X.l= []
 lim:X.D.lim=none
theorem QeF:Ve 1200 600:=⟨by decide,by decide,by decide⟩
theorem Qjq:Qi8 1 []:=⟨by constructor<;>omega,fun t ht=>by cases ht⟩
theorem Qjo:Q9 []:=⟨List.Pairwise.nil,fun t ht=>by cases ht⟩
theorem Qg5:Qd [cN]=⟨#[47,99]⟩:=rfl
end
end Go.Proofs.YtlemndledcmhiaaGreatDoor
