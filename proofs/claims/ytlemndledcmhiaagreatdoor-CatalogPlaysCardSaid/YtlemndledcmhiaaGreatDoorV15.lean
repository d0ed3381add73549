/-
  The catalog, from the device up, part 15.
-/
import Derived.Test.YtlemndledcmhiaaGreatDoorV14
namespace Go.Proofs.YtlemndledcmhiaaGreatDoor
set_option linter.unusedVariables false
set_option linter.unusedSimpArgs false
set_option maxHeartbeats 8000000
set_option maxRecDepth 100000
open Tryz
open Lib (hid)
open Go.ChangeMaps Go.MapKept Go.RowKit
theorem Qig (w:World) (v:Value) (l:List Stp) (h:Stps w v l) (hm:l.length≤maxLen):
 Calls prog 25 #[v] w fun e w'=>Qjv l w e w':=by
 obtain ⟨a,cap,rfl,hc⟩:=h;have HC:=hid hc;have m1:(l.length:Int)≤9223372036854775807:=by unfold maxLen at hm;omega
 have n0:(0:Int)≤(l.length:Int):=Qk _;clear hc hm;go_enter func25,ntmps25;go_wp2_with fail;go_loopw [3,4] (fun t3 t4 wr=> ∃(i:Nat) (n:Int),t3= .int .i64 n∧t4= .int .i64 i∧i≤l.length∧w=wr∧Hid ((∀s∈l.take i,s.nm.size≤300)∧(l.length≤60→n=QY (l.take i)))) (fun _ t4 _=>l.length-(intOf t4).toNat)
 case atStart=>exact ⟨0,0,rfl,rfl,Nat.zero_le _,rfl,hid ⟨fun s hs=>by simp at hs,fun _=>by simp [QY]⟩⟩
 case round=>
  obtain ⟨i,n,rfl,rfl,hi,rfl,HN⟩:=hrel;have i0:(0:Int)≤(i:Int):=Qk _;by_cases hlt:i<l.length
  ·obtain ⟨⟨kd,nm,P,p3,p4,p5,p6,p7⟩,hs⟩: ∃s,l[i]?=some s:=⟨_,List.getElem?_eq_getElem hlt⟩;have i1:(i:Int)<(l.length:Int):=by omega
   obtain ⟨b,o,rfl,-,c0,c1,c2,-⟩:=HC.out i _ hs;obtain ⟨kk,hkk⟩: ∃kk,o+i*8=kk:=⟨_,rfl⟩;rw [hkk] at c0 c1 c2;have c1:w.cell? ⟨b,kk+1,none⟩=some (.string nm):=c1;have c2:w.cell? ⟨b,kk+2,none⟩=some (.int .i64 P):=c2;have HS:=hid (And.intro hs hlt);have z0:(0:Int)≤(nm.size:Int):=Qk _;clear hs hlt hi c0;by_cases hz:nm.size≤300
   ·have hz1:(nm.size:Int)≤300:=by omega
    have hz2: ¬(300:Int)<(nm.size:Int):=by omega
    have HZ:Hid (∀s∈l.take (i+1),s.nm.size≤300):=hid fun s hs=>by
     obtain ⟨h1,h2⟩:=List.getElem?_eq_some_iff.1 HS.out.1;rw [List.take_succ_eq_append_getElem h1,h2] at hs;rcases List.mem_append.1 hs with hs | hs
     ·exact HN.out.1 s hs
     ·obtain rfl:s=_:=by simpa using hs
      exact hz
    have HT:=hid (Yz HS.out.1);by_cases hP:0<P
    ·have hcost:cost P=min P 9:=by unfold cost;rw [if_pos hP]
     by_cases h60:l.length≤60
     ·have e1:n=QY (l.take i):=HN.out.2 h60;have e2:=Ob (l.take i);have e3:(l.take i).length≤60:=by rw [List.length_take];omega
      have g0:0≤n:=by omega
      have g1:n≤540:=by omega
      have HW:Hid (n+min P 9=QY (l.take (i+1))):=hid (by
       have e4:QY (l.take (i+1))=QY (l.take i)+cost P:=HT.out;rw [e4,e1,hcost])
      obtain ⟨m,hm⟩: ∃m,min P 9=m:=⟨_,rfl⟩;have g2:1≤m:=by omega
      have g3:m≤9:=by omega
      rw [hm] at HW;clear e1 e2 e3 hcost HN HT hz h60;go_wp2_with fail;exact ⟨⟨i+1,n+m,by go_num,by go_num,HS.out.2,trivial,hid ⟨HZ.out,fun _=>HW.out⟩⟩,by have:=HS.out.2;simp [intOf];omega⟩
     ·have H60:=hid h60;obtain ⟨m,hm⟩: ∃m,min P 9=m:=⟨_,rfl⟩;clear hcost HN HT hz h60;go_wp2_with fail;exact ⟨⟨i+1,_,rfl,by go_num,HS.out.2,trivial,hid ⟨HZ.out,fun h=>absurd h H60.out⟩⟩,by have:=HS.out.2;simp [intOf];omega⟩
    ·have hP': ¬(0:Int)<P:=hP;have HW:Hid (l.length≤60→n=QY (l.take (i+1))):=hid fun h60=>by
      have e4:QY (l.take (i+1))=QY (l.take i)+cost P:=HT.out;have e5:cost P=0:=by unfold cost;rw [if_neg hP]
      rw [e4,e5,HN.out.2 h60];omega
     clear HN HT hz;go_wp2_with fail;exact ⟨⟨i+1,n,rfl,by go_num,HS.out.2,trivial,hid ⟨HZ.out,HW.out⟩⟩,by have:=HS.out.2;simp [intOf];omega⟩
   ·have hz1:(300:Int)<(nm.size:Int):=by omega
    clear hz;go_wp2_with fail;go_ret;exact ⟨false,rfl,Frm.refl _ _,fun h=>by cases h⟩
  ·obtain rfl:i=l.length:=by omega
   by_cases h60:l.length≤60
   ·have g60:(l.length:Int)≤60:=by omega
    by_cases hn:n≤60
    ·have HR:Hid (QfZ l true):=hid fun _=>by
      have h1:=HN.out.1;have h2:=HN.out.2 h60;rw [List.take_length] at h1 h2;exact ⟨h60,h1,by omega⟩
     clear h60 HN hlt hi;go_wp2_with fail;go_ret;exact ⟨true,rfl,Frm.refl _ _,HR.out⟩
    ·have hn': ¬n≤(60:Int):=hn;clear h60 HN hlt hi;go_wp2_with fail;go_ret;exact ⟨false,rfl,Frm.refl _ _,fun h=>by cases h⟩
   ·have g60: ¬(l.length:Int)≤60:=by omega
    clear h60 HN hlt hi;go_wp2_with fail;go_ret;exact ⟨false,rfl,Frm.refl _ _,fun h=>by cases h⟩
section
variable {w0:Gnd} {w:World} {rs:List Res} {fb cb next used ops:Nat} {L:List Tp}
theorem Qcx (h:St w0 w rs):
 Calls prog 10 #[] w fun e w'=> ∃hb fb cb,e= .returned (.tuple #[.pointer (some ⟨hb,0,none⟩),.pointer (some ⟨fb,0,none⟩),.pointer (some ⟨cb,0,none⟩),.bool true])∧QC w0 w' fb cb 1 0 0 [] rs:=by
 refine (QhR h).mono ?_;rintro e w' ⟨hb,F,X,A,ι,cb,mb,n,he,hf,hc,ht,-,hm,hfi,hfb⟩;refine ⟨hb,F.fb,cb,he,F,X,A,ι,mb,n,[],rfl,hf,hc,ht,hf.2.root,Qjo,Qjq,(fun s hs=>by cases hs),(fun d hd=>absurd hd List.not_mem_nil),fun id p t e=>?_,rfl,by omega,by omega,?_,Nat.zero_le _,fun t ht=>absurd ht List.not_mem_nil⟩
 ·obtain ⟨m,hm⟩:=(hf.2.up [cN,Qe id p] t e).2;rcases ht.kids (Qe id p) (by rw [hm];exact fun e=>(by cases e)) with e2 | e2
  ·rw [e2,ht.ls] at hm;cases hm
  ·cases e2
 ·have d8:dat (8+107*([]:List Tp).length)=1:=rfl;rw [d8];omega
theorem Qcq (h:QC w0 w fb cb next used ops L rs) {t:Tp} (ht:t∈L) (hn:next≤100) (id p:Nat) (hiD:t.id=id) (hp:(p:Int)<t.parts) (hp10:p<10):
 Calls prog 35 #[.pointer (some ⟨fb,0,none⟩),.string (Qd [cN,Qe id p,QS])] w fun e w'=>e= .returned (.tuple #[.agg #[.int .i64 1,.int .i64 0],.int .i64 0])∧QC w0 w' fb cb next used ops L rs:=by
 obtain ⟨F,X,A,ι,mb,n,D,rfl,hf,hc,hr⟩:=h;obtain ⟨id',P,q1,q2,q3,q4,q5,q6⟩:=hr.top t ht;obtain rfl:id=id':=by omega
 obtain ⟨⟨m,a1⟩,a2,a3⟩:=(q6 p (by omega)).2;have hst:UW A [cN,Qe id p,QS]= .tuple #[.agg #[.int .i64 1,.int .i64 0],.int .i64 0]:=by unfold UW;rw [a3];rfl
 have hs:=Qbd hf [cN,Qe id p,QS] (by simp) (by
  intro x hx;simp only [List.mem_cons,List.not_mem_nil,or_false] at hx;rcases hx with rfl | rfl | rfl
  ·exact Y2
  ·exact VJ (by omega) hp10
  ·exact ED) (by simp) (fun k hk _=>by
   have hk:k<3:=hk
   match k,hk with
   | 0,_=>exact hf.2.root
   | 1,_=>exact ⟨_,hr.tree.c⟩
   | 2,_=>exact ⟨_,a1⟩)
 rw [hst] at hs;refine hs.mono ?_;rintro e w' ⟨he,hf'⟩;exact ⟨he,F,X,A,ι,mb,n,D,rfl,hf',hc,hr⟩
theorem QbN (h:St w0 w rs):Calls prog 9 #[] w fun e w'=>e= .returned (.bool true)∧St w0 w' rs:=by
 have HF:=hid (Qcx h);have KC:Hid (∀W fb cb,QC w0 W fb cb 1 0 0 [] rs→Calls prog 11 #[.pointer (some ⟨cb,0,none⟩),.string ⟨#[97]⟩,.int .i64 2,.agg (stz 600 (-1) (-1) false 0)] W fun e w'=>e= .returned (.tuple #[.agg (tpz ⟨#[97]⟩ 1 2 600 (-1) (-1) false 0),.int .i64 0])∧QC w0 w' fb cb 2 2 1 [Qab] rs):=hid fun W fb cb hW=>Qau hW (by decide) (by decide) (P:=2) (by decide) (by decide) (by decide) (nm:=⟨#[97]⟩) (by decide) (named (Qd1 97 (by decide))) (by simp) (p6:=false) Qhy
 have KD:Hid (∀W fb cb,QC w0 W fb cb 2 2 1 [Qab] rs→Calls prog 24 #[.pointer (some ⟨cb,0,none⟩),.agg (tpz ⟨#[97]⟩ 1 2 600 (-1) (-1) false 0),.int .i64 1] W fun e w'=>e= .returned (.string ⟨#[47,99,47,116,49,45,49]⟩)∧QC w0 w' fb cb 2 2 1 [Qab] rs):=hid fun W fb cb hW=>by
  have:=QjQ hW 1 1 (by decide) (by decide) ⟨#[97]⟩ 2 600 (-1) (-1) false 0;rw [Qiv] at this;exact this
 have KS:Hid (∀W fb cb,QC w0 W fb cb 2 2 1 [Qab] rs→Calls prog 35 #[.pointer (some ⟨fb,0,none⟩),.string ⟨#[47,99,47,116,49,45,49,47,112,114,111,100,117,99,101,114,115]⟩] W fun e w'=>e= .returned (.tuple #[.agg #[.int .i64 1,.int .i64 0],.int .i64 0])∧QC w0 w' fb cb 2 2 1 [Qab] rs):=hid fun W fb cb hW=>by
  have:=Qcq hW (t:=Qab) (List.mem_cons_self ..) (by decide) 1 1 rfl (by decide) (by decide);rw [Qiy] at this;exact this
 have KE:Hid (∀W fb cb,QC w0 W fb cb 2 2 1 [Qab] rs→Calls prog 15 #[.pointer (some ⟨cb,0,none⟩),.string ⟨#[97]⟩] W fun e w'=>e= .returned (.int .i64 0)∧QC w0 w' fb cb 2 2 2 [] rs):=hid fun W fb cb hW=>by
  have:=Qax hW (by decide) (by decide) (t:=Qab) (List.mem_cons_self ..) (named (Qd1 97 (by decide)));rw [show Yc Qab.nm [Qab]= [] by simp [Yc]] at this;exact this
 have KN:Hid (∀W fb cb,QC w0 W fb cb 2 2 2 [] rs→Calls prog 15 #[.pointer (some ⟨cb,0,none⟩),.string ⟨#[97]⟩] W fun e w'=>e= .returned (.int .i64 4)∧QC w0 w' fb cb 2 2 2 [] rs):=hid fun W fb cb hW=>Oz hW (by decide) (named (Qd1 97 (by decide))) (by simp)
 clear h;go_enter func9,ntmps9;go_wp2_with fail;refine HF.out.mono ?_;clear HF;rintro e w1 ⟨hb,fb,cb,rfl,h1⟩;have H1:=hid h1;clear h1;go_wp2_with fail;refine (Qit w1).mono ?_;rintro e w2 ⟨rfl,hf⟩;have HC:=hid (KC.out _ _ _ (H1.out.frm hf));clear hf H1 KC;go_wp2_with fail;refine HC.out.mono ?_;clear HC;rintro e w3 ⟨rfl,h3⟩;have HK0:=hid (Qb w3 (.cells (tp0) 31 (0,0)));have H4:=hid (h3.frm (((Frm.refl NoB w3).alloc (.cells (tp0) 31 (0,0))).setRowNew (Nat.le_refl _) (tpz ⟨#[97]⟩ 1 2 600 (-1) (-1) false 0)));have HB4:=hid (setRow_heap _ _ _ (tpz ⟨#[97]⟩ 1 2 600 (-1) (-1) false 0) _ _ HK0.out);clear h3;go_upto_region 5 with (first | (refine Qg rfl _ _ JU rfl ?_) | (refine JE rfl _ _ rfl w3.heap.size ⟨#[97]⟩ 1 2 600 (-1) (-1) false 0 rfl rfl _ rfl HK0.out ?_))
 clear HK0;obtain ⟨w4,hw4⟩: ∃w4,(w3.alloc (.cells (tp0) 31 (0,0))).setRow w3.heap.size (tpz ⟨#[97]⟩ 1 2 600 (-1) (-1) false 0)=w4:=⟨_,rfl⟩;obtain ⟨g4,hg4⟩: ∃g4,w3.heap.size=g4:=⟨_,rfl⟩;show Code.wp prog _ _ _ ((w3.alloc (.cells (tp0) 31 (0,0))).setRow w3.heap.size (tpz ⟨#[97]⟩ 1 2 600 (-1) (-1) false 0));rw [hw4] at H4 HB4 ⊢;rw [hg4] at HB4 ⊢;clear hw4 hg4;have e1:w4.cell? ⟨g4,1,none⟩=some (.int .i64 1):=(Qa HB4.out).trans rfl;have HD:=hid (KD.out _ _ _ H4.out);clear KD H4;go_wp2_with (refine Of rfl _ rfl g4 rfl ⟨#[97]⟩ 1 2 600 (-1) (-1) false 0 HB4.out ?_);refine HD.out.mono ?_;clear HD HB4 e1;rintro e w5 ⟨rfl,h5⟩;have HS:=hid (KS.out _ _ _ h5);clear h5 KS;go_wp2_with fail;refine HS.out.mono ?_;clear HS;rintro e w6 ⟨rfl,h6⟩;have H6:=hid (h6.frm ((Frm.refl NoB w6).alloc (.cells #[.int .i64 1,.int .i64 0] 82 (0,0))));have e7:(w6.alloc (.cells #[.int .i64 1,.int .i64 0] 82 (0,0))).cell? ⟨w6.heap.size,0,none⟩=some (.int .i64 1):=(Qa (Qb w6 _)).trans rfl;have HE:=hid (KE.out _ _ _ H6.out);clear h6 KE H6;go_wp2_with fail;refine HE.out.mono ?_;clear HE e7;rintro e w8 ⟨rfl,h8⟩;have HN:=hid (KN.out _ _ _ h8);clear h8 KN;go_wp2_with fail;refine HN.out.mono ?_;clear HN;rintro e w9 ⟨rfl,h9⟩;have H9:=hid h9.st;clear h9;go_wp2;go_ret;exact ⟨rfl,H9.out⟩
end
theorem QgW: ¬U8T (61:TypeId):=by decide
def UK (k:Int) (nm:ByteArray) (a c d e:Int) (f:Bool) (g:Int):Array Value:= #[.int .i64 k,.string nm,.int .i64 a,.int .i64 c,.int .i64 d,.int .i64 e,.bool f,.int .i64 g]
theorem Qi9 (W:World):(zeroValue 61).run prog W= .ok (.agg (UK 0 ByteArray.empty 0 0 0 0 false 0)) W:=by kernel_rfl
theorem Qib (k:Int) (nm:ByteArray) (a c d e:Int) (f:Bool) (g:Int):(prog.info? 61).map (·.size)=some (UK k nm a c d e f g).size:=by kernel_rfl
theorem Qj8 (k:Int) (nm:ByteArray) (a c d e:Int) (f:Bool) (g:Int):((UK k nm a c d e f g).all fun x=>x.oneCell')=true:=by simp [UK,Value.oneCell']
theorem QhC {ops:Array Oper} {rest:List Oper} {o:Oper} {a:Act} {w:World} {Q:Exit→Act→World→Prop} (hgd:o.guard=none) (x y:Operand) (ho:o.op= .store 61 x y) (g:Nat) (k:Int) (nm:ByteArray) (p2 p3 p4 p5:Int) (p6:Bool) (p7:Int) (hx:a.eval x= .pointer (some ⟨g,0,none⟩)) (hy:a.eval y= .agg (UK k nm p2 p3 p4 p5 p6 p7)) (old:Array Value) (hold:old.size=8)
 (hg:w.heap[g]?=some (.cells old 61 (0,0))) (h:wpList prog ops Q rest (a.put o.dst undef) (w.setRow g (UK k nm p2 p3 p4 p5 p6 p7))):wpList prog ops Q (o::rest) a w:=
 wpList_store_row hgd _ x y ho g (UK k nm p2 p3 p4 p5 p6 p7) hx hy _ old hg (Qib _ _ _ _ _ _ _ _) (by rw [hold];rfl) (Qj8 _ _ _ _ _ _ _ _) h
structure E6 (l:List Stp) (i next used ops:Nat) (L:List Tp):Prop where
 nu:next≤used+1
 us:(used:Int)≤QY (l.take i)
 op:ops≤i
 ok: ∀t∈L,OkT t
theorem catalogPlays_any (w:World) (hsyn:SynV w) (v:Value) (l:List Stp) (h:Stps w v l) (hm:l.length≤maxLen):
 Calls prog 6 #[v] w fun e w'=>e= .returned (.bool true)∧Frm NoB w w':=by
 have HSYN:=hid hsyn;have HSML:=hid (Qig w v l h hm);obtain ⟨va,vc,rfl,hc⟩:=h;have HC:=hid hc;have m1:(l.length:Int)≤9223372036854775807:=by unfold maxLen at hm;omega
 have n0:(0:Int)≤(l.length:Int):=Qk _;clear hc hm hsyn;go_enter func6,ntmps6;go_wp2_with fail;refine HSML.out.mono ?_;clear HSML;rintro e w2 ⟨sm,rfl,hf2,hsm⟩;have h2:=(St.start w).frm0 hf2;cases sm with
 | false=>
   have HA:=hid (QbN h2);clear hf2 hsm h2;go_wp2_with fail;refine HA.out.mono ?_;clear HA;rintro e w3 ⟨rfl,h3⟩;have H3:=hid h3.base;clear h3;go_wp2;go_ret;exact ⟨rfl,H3.out⟩
 | true=>
   have HSM0:=hid (hsm rfl);have HF:=hid (Qcx h2);clear hf2 hsm h2;go_wp2_with fail;refine HF.out.mono ?_;clear HF;rintro e w3 ⟨hb,fb,cb0,rfl,h3⟩;have h4:=h3.mk ((Frm.refl NoB w3).alloc (.cells #[.slice none 0 0,.int .i64 1] 111 (0,0))) (Vg w3.heap.size 0 none [] ((1:Nat):Int)) ⟨Qb _ _,World.ownsRow_nil _ _ _ _⟩ (fun x hx=>by
    rcases hx with rfl | ⟨p,e,_⟩
    ·exact Nat.le_refl _
    ·cases e)
   have HNEW:=hid (QkJ w3);have H4:=hid h4;clear h3 h4;go_wp2_with fail;refine HNEW.out.mono ?_;clear HNEW;rintro e w4 ⟨rfl,rfl⟩;obtain ⟨y4,hy4⟩: ∃y4,w3.alloc (.cells #[.slice none 0 0,.int .i64 1] 111 (0,0))=y4:=⟨_,rfl⟩;obtain ⟨mb,hmb⟩: ∃mb,w3.heap.size=mb:=⟨_,rfl⟩;rw [hy4,hmb] at H4;rw [hy4,hmb];clear hy4 hmb;go_wp2_with fail;go_loopw [5,8,11,13,14,15,16,17,43,76,87,101] (fun t5 t8 _ _ _ _ _ _ _ _ _ _ wr=> ∃(i cb nx us op c:Nat) (a:Option Addr) (L:List Tp),t5= .pointer (some ⟨cb,0,none⟩)∧t8= .int .i64 i∧i≤l.length∧Hid (QC w wr fb cb nx us op L [Vg mb c a L nx])∧Hid (E6 l i nx us op L)) (fun _ t8 _ _ _ _ _ _ _ _ _ _ _=>l.length-(intOf t8).toNat)
   case atStart=>exact ⟨0,cb0,1,0,0,0,none,[],rfl,rfl,Nat.zero_le _,H4,hid ⟨by decide,by simp [QY],Nat.le_refl _,fun t ht=>by cases ht⟩⟩
   case round=>
    clear H4;obtain ⟨i,cb,nx,us,op,c,a,L,rfl,rfl,hi,HR,HG⟩:=hrel;have i0:(0:Int)≤(i:Int):=Qk _;by_cases hlt:i<l.length
    ·have i1:(i:Int)<(l.length:Int):=by omega
     obtain ⟨⟨kd,nm,P,p3,p4,p5,p6,p7⟩,hs⟩: ∃s,l[i]?=some s:=⟨_,List.getElem?_eq_getElem hlt⟩;have hmem:=List.mem_of_getElem? hs;have HS:Hid (l[i]?=some ⟨kd,nm,P,p3,p4,p5,p6,p7⟩∧i≤60∧nm.size≤300∧(us:Int)+cost P≤60):=hid ⟨hs,by have:=HSM0.out.len;omega,HSM0.out.nm _ hmem,by
      have h1:QY (l.take (i+1))=QY (l.take i)+cost P:=Yz hs;have h2:=Wl l (i+1);have h3:=HSM0.out.cost;have h4:=HG.out.us;omega⟩
     have HN:Hid (nx≤100):=hid (by
      have h2:=Wl l i;have h3:=HSM0.out.cost;have h4:=HG.out.us;have h5:=HG.out.nu;omega)
     have HLT:Hid (i+1≤l.length):=hid hlt;obtain ⟨b,o,rfl,q0,q1,q2,q3,q4,q5,q6,q7,q8⟩:=(HC.out i _ hs).frm HR.out.st.base;obtain ⟨kk,hkk⟩: ∃kk,o+i*8=kk:=⟨_,rfl⟩;rw [hkk] at q1 q2 q3 q4 q5 q6 q7 q8;have q1:wr.cell? ⟨b,kk,none⟩=some (.int .i64 kd):=q1;have q2:wr.cell? ⟨b,kk+1,none⟩=some (.string nm):=q2;have q3:wr.cell? ⟨b,kk+2,none⟩=some (.int .i64 P):=q3;have q4:wr.cell? ⟨b,kk+3,none⟩=some (.int .i64 p3):=q4;have q5:wr.cell? ⟨b,kk+4,none⟩=some (.int .i64 p4):=q5;have q6:wr.cell? ⟨b,kk+5,none⟩=some (.int .i64 p5):=q6;have q7:wr.cell? ⟨b,kk+6,none⟩=some (.bool p6):=q7;have q8:wr.cell? ⟨b,kk+7,none⟩=some (.int .i64 p7):=q8;have HK0:=hid (Qb wr (.cells (UK 0 ByteArray.empty 0 0 0 0 false 0) 61 (0,0)));have h10:=(HR.out.mkArr (((Frm.refl NoB wr).alloc (.cells (UK 0 ByteArray.empty 0 0 0 0 false 0) 61 (0,0))).setRowNew (Nat.le_refl _) (UK kd nm P p3 p4 p5 p6 p7)) QgW (setRow_heap _ _ _ (UK kd nm P p3 p4 p5 p6 p7) _ _ HK0.out) (Nat.le_refl _)).perm (List.Perm.swap _ _ _);clear hs hlt hi hmem q0;go_upto_region 11 with (first | (refine Qg rfl _ _ Qi9 rfl ?_) | (refine QhC rfl _ _ rfl wr.heap.size kd nm P p3 p4 p5 p6 p7 rfl rfl _ rfl HK0.out ?_))
     show Code.wp prog _ _ _ ((wr.alloc (.cells (UK 0 ByteArray.empty 0 0 0 0 false 0) 61 (0,0))).setRow wr.heap.size (UK kd nm P p3 p4 p5 p6 p7));obtain ⟨y10,hy10⟩: ∃y10,(wr.alloc (.cells (UK 0 ByteArray.empty 0 0 0 0 false 0) 61 (0,0))).setRow wr.heap.size (UK kd nm P p3 p4 p5 p6 p7)=y10:=⟨_,rfl⟩;rw [hy10] at h10 ⊢;clear HK0 hy10 q1 q2 q3 q4 q5 q6 q7 q8;generalize wr.heap.size=sb at*
     have s0:y10.cell? ⟨sb,0,none⟩=some (.int .i64 kd):=(h10.arrCell (i:=1) rfl 0).trans rfl;have s1:y10.cell? ⟨sb,1,none⟩=some (.string nm):=(h10.arrCell (i:=1) rfl 1).trans rfl;have s2:y10.cell? ⟨sb,2,none⟩=some (.int .i64 P):=(h10.arrCell (i:=1) rfl 2).trans rfl;have s3:y10.cell? ⟨sb,3,none⟩=some (.int .i64 p3):=(h10.arrCell (i:=1) rfl 3).trans rfl;have s4:y10.cell? ⟨sb,4,none⟩=some (.int .i64 p4):=(h10.arrCell (i:=1) rfl 4).trans rfl;have s5:y10.cell? ⟨sb,5,none⟩=some (.int .i64 p5):=(h10.arrCell (i:=1) rfl 5).trans rfl;have s6:y10.cell? ⟨sb,6,none⟩=some (.bool p6):=(h10.arrCell (i:=1) rfl 6).trans rfl;have s7:y10.cell? ⟨sb,7,none⟩=some (.int .i64 p7):=(h10.arrCell (i:=1) rfl 7).trans rfl;have H10:=hid h10;clear h10 hkk;by_cases k1:kd=1
     ·obtain rfl:kd=1:=k1;obtain ⟨nm',z1,z2,z3,z4,z5,z6,z7,E,nx',us',op',L',hE,q1,q2,q3,q4,hc1,hc2⟩:=QbU (w0:=(w:Gnd)) (fb:=fb) (cb:=cb) (ops:=op) (mb:=mb) (c:=c) (a:=a) HR.out.room.1 HR.out.room.2 HG.out.ok HG.out.nu (by have:=HG.out.op;have:=HS.out.2.1;omega) nm HS.out.2.2.1 P HS.out.2.2.2 p3 p4 p5 p6 p7;have HC1:=hid (hc1 _ _ H10.out);have K2:=hid hc2;have HQ:=hid (show E6 l (i+1) nx' us' op' L' from ⟨q1,Int.le_trans q2 (by have h1:QY (l.take (i+1))=QY (l.take i)+cost P:=Yz HS.out.1;have h2:=HG.out.us;omega),by have:=HG.out.op;omega,q4⟩);have HE1:=hid hE;clear hc1 hc2 q1 q2 q3 q4 hE HR H10 HG;go_wp2_with fail;refine HC1.out.mono ?_;clear HC1 s0 s1 s2 s3 s4 s5 s6 s7;rintro e w11 ⟨rfl,h11⟩;have HK0:=hid (Qb w11 (.cells (tp0) 31 (0,0)));have h12:=(h11.mkArr (((Frm.refl NoB w11).alloc (.cells (tp0) 31 (0,0))).setRowNew (Nat.le_refl _) (tpz nm' z1 z2 z3 z4 z5 z6 z7)) Jd (setRow_heap _ _ _ (tpz nm' z1 z2 z3 z4 z5 z6 z7) _ _ HK0.out) (Nat.le_refl _)).perm (List.Perm.swap _ _ _);clear h11;go_upto_region 14 with (first | (refine Qg rfl _ _ JU rfl ?_) | (refine JE rfl _ _ rfl w11.heap.size nm' z1 z2 z3 z4 z5 z6 z7 rfl rfl _ rfl HK0.out ?_))
      show Code.wp prog _ _ _ ((w11.alloc (.cells (tp0) 31 (0,0))).setRow w11.heap.size (tpz nm' z1 z2 z3 z4 z5 z6 z7));obtain ⟨y12,hy12⟩: ∃y12,(w11.alloc (.cells (tp0) 31 (0,0))).setRow w11.heap.size (tpz nm' z1 z2 z3 z4 z5 z6 z7)=y12:=⟨_,rfl⟩;rw [hy12] at h12 ⊢;clear HK0 hy12;generalize w11.heap.size=g5 at*
      have s1:y12.cell? ⟨sb,1,none⟩=some (.string nm):=(h12.arrCell (i:=2) rfl 1).trans rfl;have s2:y12.cell? ⟨sb,2,none⟩=some (.int .i64 P):=(h12.arrCell (i:=2) rfl 2).trans rfl;have s3:y12.cell? ⟨sb,3,none⟩=some (.int .i64 p3):=(h12.arrCell (i:=2) rfl 3).trans rfl;have s4:y12.cell? ⟨sb,4,none⟩=some (.int .i64 p4):=(h12.arrCell (i:=2) rfl 4).trans rfl;have s5:y12.cell? ⟨sb,5,none⟩=some (.int .i64 p5):=(h12.arrCell (i:=2) rfl 5).trans rfl;have s6:y12.cell? ⟨sb,6,none⟩=some (.bool p6):=(h12.arrCell (i:=2) rfl 6).trans rfl;have s7:y12.cell? ⟨sb,7,none⟩=some (.int .i64 p7):=(h12.arrCell (i:=2) rfl 7).trans rfl;have HC2:=hid (K2.out _ _ h12);clear h12 K2;go_wp2_with fail;refine HC2.out.mono ?_;clear HC2 s1 s2 s3 s4 s5 s6 s7;rintro e w13 ⟨rfl,a',c',h13⟩;have HK0:=hid (Qb w13 (.cells (tp0) 45 (0,0)));have h14:=(h13.mkArr (((Frm.refl NoB w13).alloc (.cells (tp0) 45 (0,0))).setRowNew (Nat.le_refl _) (tpz nm' z1 z2 z3 z4 z5 z6 z7)) Qj4 (setRow_heap _ _ _ (tpz nm' z1 z2 z3 z4 z5 z6 z7) _ _ HK0.out) (Nat.le_refl _)).perm (List.Perm.swap _ _ _);clear h13;go_upto_region 15 with (first | (refine Qg rfl _ _ V9 rfl ?_) | (refine JV rfl _ _ rfl w13.heap.size nm' z1 z2 z3 z4 z5 z6 z7 rfl rfl _ rfl HK0.out ?_))
      show Code.wp prog _ _ _ ((w13.alloc (.cells (tp0) 45 (0,0))).setRow w13.heap.size (tpz nm' z1 z2 z3 z4 z5 z6 z7));obtain ⟨y14,hy14⟩: ∃y14,(w13.alloc (.cells (tp0) 45 (0,0))).setRow w13.heap.size (tpz nm' z1 z2 z3 z4 z5 z6 z7)=y14:=⟨_,rfl⟩;rw [hy14] at h14 ⊢;clear HK0 hy14;generalize w13.heap.size=g7 at*
      have KS:Hid (∀y,QC w y fb cb nx' us' op' L' [Vg mb c' a' L' nx',arr g7 (tpz nm' z1 z2 z3 z4 z5 z6 z7) 45 Qj4,arr g5 (tpz nm' z1 z2 z3 z4 z5 z6 z7) 31 Jd,arr sb (UK 1 nm P p3 p4 p5 p6 p7) 61 QgW]→y.cell? ⟨g5,0,none⟩=some (.string nm')∧y.cell? ⟨g5,1,none⟩=some (.int .i64 z1)∧y.cell? ⟨g5,2,none⟩=some (.int .i64 z2)∧y.cell? ⟨g5,3,none⟩=some (.int .i64 z3)∧y.cell? ⟨g5,4,none⟩=some (.int .i64 z4)∧y.cell? ⟨g5,5,none⟩=some (.int .i64 z5)∧y.cell? ⟨g5,6,none⟩=some (.bool z6)∧y.cell? ⟨g5,7,none⟩=some (.int .i64 z7)∧y.cell? ⟨g7,0,none⟩=some (.string nm')∧y.cell? ⟨g7,1,none⟩=some (.int .i64 z1)∧y.cell? ⟨g7,2,none⟩=some (.int .i64 z2)∧y.cell? ⟨g7,3,none⟩=some (.int .i64 z3)∧y.cell? ⟨g7,4,none⟩=some (.int .i64 z4)∧y.cell? ⟨g7,5,none⟩=some (.int .i64 z5)∧y.cell? ⟨g7,6,none⟩=some (.bool z6)∧y.cell? ⟨g7,7,none⟩=some (.int .i64 z7)):=hid fun y h=>⟨(h.arrCell (i:=2) rfl 0).trans rfl,(h.arrCell (i:=2) rfl 1).trans rfl,(h.arrCell (i:=2) rfl 2).trans rfl,(h.arrCell (i:=2) rfl 3).trans rfl,(h.arrCell (i:=2) rfl 4).trans rfl,(h.arrCell (i:=2) rfl 5).trans rfl,(h.arrCell (i:=2) rfl 6).trans rfl,(h.arrCell (i:=2) rfl 7).trans rfl,(h.arrCell (i:=1) rfl 0).trans rfl,(h.arrCell (i:=1) rfl 1).trans rfl,(h.arrCell (i:=1) rfl 2).trans rfl,(h.arrCell (i:=1) rfl 3).trans rfl,(h.arrCell (i:=1) rfl 4).trans rfl,(h.arrCell (i:=1) rfl 5).trans rfl,(h.arrCell (i:=1) rfl 6).trans rfl,(h.arrCell (i:=1) rfl 7).trans rfl⟩
      have KTP:Hid (∀W,Calls prog 19 #[.agg #[.string nm',.int .i64 z1,.int .i64 z2,.int .i64 z3,.int .i64 z4,.int .i64 z5,.bool z6,.int .i64 z7]] W fun e w'=>e= .returned (.agg #[.string nm',.int .i64 z1,.int .i64 z2,.int .i64 z3,.int .i64 z4,.int .i64 z5,.bool z6,.int .i64 z7])∧Frm NoB W w'):=hid fun W=>QeK W nm' z1 z2 z3 z4 z5 z6 z7
      have hne:=fun W=>QgX W nm' z1 z2 z3 z4 z5 z6 z7
      have H14:=hid h14;have H14d:=hid (h14.frm (Frm.refl NoB y14).drew);obtain ⟨k0,k1,k2,k3,k4,k5,k6,k7,k8,k9,k10,k11,k12,k13,k14,k15⟩:=KS.out y14 h14;clear h14;go_region_held3 (fun y=>y.cell? ⟨g5,0,none⟩=some (.string nm')∧y.cell? ⟨g5,1,none⟩=some (.int .i64 z1)∧y.cell? ⟨g5,2,none⟩=some (.int .i64 z2)∧y.cell? ⟨g5,3,none⟩=some (.int .i64 z3)∧y.cell? ⟨g5,4,none⟩=some (.int .i64 z4)∧y.cell? ⟨g5,5,none⟩=some (.int .i64 z5)∧y.cell? ⟨g5,6,none⟩=some (.bool z6)∧y.cell? ⟨g5,7,none⟩=some (.int .i64 z7)∧y.cell? ⟨g7,0,none⟩=some (.string nm')∧y.cell? ⟨g7,1,none⟩=some (.int .i64 z1)∧y.cell? ⟨g7,2,none⟩=some (.int .i64 z2)∧y.cell? ⟨g7,3,none⟩=some (.int .i64 z3)∧y.cell? ⟨g7,4,none⟩=some (.int .i64 z4)∧y.cell? ⟨g7,5,none⟩=some (.int .i64 z5)∧y.cell? ⟨g7,6,none⟩=some (.bool z6)∧y.cell? ⟨g7,7,none⟩=some (.int .i64 z7))
       (first | exact KS.out _ H14.out | exact KS.out _ H14d.out | exact KS.out _ (H14d.out.frm hf9))
       (first | (go_at_call 19;(with_reducible refine (KTP.out _).mono ?_);rintro e w9 ⟨rfl,hf9⟩) | fail)
      have h15:=H14d.out.frm hf9;clear k0 k1 k2 k3 k4 k5 k6 k7 k8 k9 k10 k11 k12 k13 k14 k15 hf9 H14 H14d KS KTP hne;have HSM:=hid (Wu h15 (by have:=HQ.out.nu;have h1:=HQ.out.us;have h2:=Wl l (i+1);have:=HSM0.out.cost;omega) HQ.out.ok);have HLT2:=hid HLT.out;clear HLT;go_wp2_with fail;refine HSM.out.mono ?_;clear HSM;rintro e wE ⟨rfl,hE⟩;have HE:=hid (hE.sub ((List.nil_sublist _).cons_cons _));clear hE;go_wp2_with fail;exact ⟨⟨i+1,cb,nx',us',op',c',a',L',rfl,by go_num,HLT2.out,HE,HQ⟩,by have:=HLT2.out;simp [intOf];omega⟩
     ·by_cases k2:kd=2
      ·obtain rfl:kd=2:=k2;obtain ⟨E,op',L',hE,q3,q4,hc1,hc2⟩:=Qb2 (w0:=(w:Gnd)) (fb:=fb) (cb:=cb) (used:=us) (ops:=op) (mb:=mb) (c:=c) (a:=a) HR.out.room.1 HR.out.room.2 HG.out.ok (HN.out) (by have:=HG.out.op;have:=HS.out.2.1;omega) nm HS.out.2.2.1;have K1:=hid hc1;have K2:=hid hc2;have HQ:=hid (show E6 l (i+1) nx us op' L' from ⟨HG.out.nu,Int.le_trans HG.out.us (by have h1:QY (l.take (i+1))=QY (l.take i)+cost P:=Yz HS.out.1;have:=Uq P;omega),by have:=HG.out.op;omega,q4⟩);have H10d:=hid (H10.out.frm (Frm.refl NoB y10).drew);clear hc1 hc2 q3 q4 hE HR HG;go_upto_region 18 with fail
       go_region_held3 (fun y=>y.cell? ⟨sb,1,none⟩=some (.string nm))
        (first | exact (H10.out.arrCell (i:=1) rfl 1).trans rfl | exact (H10d.out.arrCell (i:=1) rfl 1).trans rfl | exact (h11.arrCell (i:=1) rfl 1).trans rfl | exact (h13.arrCell (i:=1) rfl 1).trans rfl)
        (first
         | (go_at_call 15;(with_reducible refine (K1.out _ _ H10d.out).mono ?_);rintro e w11 ⟨rfl,h11⟩)
         | (go_at_call 26;(with_reducible refine (K2.out _ _ h11).mono ?_);rintro e w13 ⟨rfl,a',c',h13⟩)
         | fail)
       clear K1 K2 H10 H10d h11 s0 s1 s2 s3 s4 s5 s6 s7;have HSM:=hid (Wu h13 HN.out HQ.out.ok);have HLT2:=hid HLT.out;clear HLT;go_wp2_with fail;refine HSM.out.mono ?_;clear HSM;rintro e wE ⟨rfl,hE⟩;have HE:=hid (hE.sub ((List.nil_sublist _).cons_cons _));clear hE;go_wp2_with fail;exact ⟨⟨i+1,cb,nx,us,op',c',a',L',rfl,by go_num,HLT2.out,HE,HQ⟩,by have:=HLT2.out;simp [intOf];omega⟩
      ·by_cases k3:kd=3
       ·obtain rfl:kd=3:=k3;have HO:Hid (Calls prog 21 #[.pointer (some ⟨fb,0,none⟩),.string ⟨#[47,99]⟩] y10 fun e w'=> ∃cb',e= .returned (.tuple #[.pointer (some ⟨cb',0,none⟩),.int .i64 0])∧QC w w' fb cb' nx us op L [Vg mb c a L nx,arr sb (UK 3 nm P p3 p4 p5 p6 p7) 61 QgW]):=hid (by
         have:=QhW H10.out;rw [show Qd [cN]=⟨#[47,99]⟩ by decide+kernel] at this;exact this)
        have HQ:=hid (show E6 l (i+1) nx us op L from ⟨HG.out.nu,Int.le_trans HG.out.us (by have h1:QY (l.take (i+1))=QY (l.take i)+cost P:=Yz HS.out.1;have:=Uq P;omega),by have:=HG.out.op;omega,HG.out.ok⟩);clear HR HG H10;go_wp2_with fail;refine HO.out.mono ?_;clear HO s0 s1 s2 s3 s4 s5 s6 s7;rintro e w11 ⟨cb',rfl,h11⟩;have HSM:=hid (Wu h11 HN.out HQ.out.ok);have HLT2:=hid HLT.out;clear HLT;go_wp2_with fail;refine HSM.out.mono ?_;clear HSM;rintro e wE ⟨rfl,hE⟩;have HE:=hid (hE.sub ((List.nil_sublist _).cons_cons _));clear hE;go_wp2_with fail;exact ⟨⟨i+1,cb',nx,us,op,c,a,L,rfl,by go_num,HLT2.out,HE,HQ⟩,by have:=HLT2.out;simp [intOf];omega⟩
       ·by_cases k4:kd=4
        ·obtain rfl:kd=4:=k4;have HO:=hid (Qgk H10.out HSYN.out HN.out (by have:=HG.out.op;have:=HS.out.2.1;omega));have HQ:=hid (show E6 l (i+1) nx us (op+1) L from ⟨HG.out.nu,Int.le_trans HG.out.us (by have h1:QY (l.take (i+1))=QY (l.take i)+cost P:=Yz HS.out.1;have:=Uq P;omega),by have:=HG.out.op;omega,HG.out.ok⟩);clear HR HG H10;go_wp2_with fail;refine HO.out.mono ?_;clear HO s0 s1 s2 s3 s4 s5 s6 s7;rintro e w11 ⟨bs,rfl,h11⟩;have HSM:=hid (Wu h11 HN.out HQ.out.ok);have HLT2:=hid HLT.out;clear HLT;go_wp2_with fail;refine HSM.out.mono ?_;clear HSM;rintro e wE ⟨rfl,hE⟩;have HE:=hid (hE.sub ((List.nil_sublist _).cons_cons _));clear hE;go_wp2_with fail;exact ⟨⟨i+1,cb,nx,us,(op+1),c,a,L,rfl,by go_num,HLT2.out,HE,HQ⟩,by have:=HLT2.out;simp [intOf];omega⟩
        ·have HQ:=hid (show E6 l (i+1) nx us op L from ⟨HG.out.nu,Int.le_trans HG.out.us (by have h1:QY (l.take (i+1))=QY (l.take i)+cost P:=Yz HS.out.1;have:=Uq P;omega),by have:=HG.out.op;omega,HG.out.ok⟩);have h11:=H10.out;clear HR HG H10;have HSM:=hid (Wu h11 HN.out HQ.out.ok);have HLT2:=hid HLT.out;clear HLT;go_wp2_with fail;refine HSM.out.mono ?_;clear HSM;rintro e wE ⟨rfl,hE⟩;have HE:=hid (hE.sub ((List.nil_sublist _).cons_cons _));clear hE;go_wp2_with fail;exact ⟨⟨i+1,cb,nx,us,op,c,a,L,rfl,by go_num,HLT2.out,HE,HQ⟩,by have:=HLT2.out;simp [intOf];omega⟩
    ·obtain rfl:i=l.length:=by omega
     have HA:=hid (QbN HR.out.st);clear HR HG hlt hi;go_wp2_with fail;refine HA.out.mono ?_;clear HA;rintro e w8 ⟨rfl,h8⟩;have H8:=hid h8.base;clear h8;go_wp2;go_ret;exact ⟨rfl,H8.out⟩
end Go.Proofs.YtlemndledcmhiaaGreatDoor
