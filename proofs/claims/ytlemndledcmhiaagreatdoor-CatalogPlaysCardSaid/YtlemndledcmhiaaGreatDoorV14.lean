/-
  The catalog, from the device up, part 14.
-/
import Derived.Test.YtlemndledcmhiaaGreatDoorV13
import Derived.Deep.Slices
import Derived.Deep.Fields
namespace Go.Proofs.YtlemndledcmhiaaGreatDoor
set_option linter.unusedVariables false
set_option linter.unusedSimpArgs false
set_option maxHeartbeats 8000000
set_option maxRecDepth 100000
open Tryz
open Lib (hid)
open Go.ChangeMaps Go.MapKept Go.RowKit
structure YN (X:Sys) (A:Path→Option Nd) (next used ops n:Nat) (L:List Tp) (D:List ByteArray):Prop where
 tree:W7 A (QB next L) n D
 root: ∃m,A []=some (.dir m)
 cat:Q9 L
 num:Qi8 next L
 old:QfY next D
 dir: ∀d∈D,A [cN,d]≠none→∃m,A [cN,d]=some (.dir m)
 two: ∀id p t,A [cN,Qe id p,t]≠none→(t=QM∨t=QS)∧A [cN,Qe id p,t]=some (.file [])
 dlen:D.length=used
 m:X.m≤3+ops
 fi:597≤X.fi+3*used
 fb:875≤X.fb+dat n+dat (8+107*L.length)+used
 few:L.length≤20
 top: ∀t∈L,∃id P:Nat,t.id=id∧t.parts=P∧id<next∧1≤P∧P≤8∧∀p,p<P→Qe id p∈D∧Qdc A (Qe id p)
theorem YN.may {X:Sys} {A:Path→Option Nd} {next used ops n:Nat} {L:List Tp} {D:List ByteArray} (h:YN X A next used ops n L D) {P:Nat} (hL:L.length<20) (hn:next<100) (hP:1≤P∧P≤8) (hu:used+P≤70):Qar X A next L n D P:=by
 have a1:=h.tree.size;rw [h.dlen] at a1;have a2:=h.fi;have a3:=h.fb;have d1:dat n≤10:=Yq (by omega);have d2:dat (8+107*L.length)≤5:=by unfold dat;omega
 have d3:dat (8+107*(L.length+1))≤5:=by unfold dat;omega
 have d4:dat (n+64*P)≤10:=Yq (by omega);exact ⟨h.tree,h.cat,hL,hn,hP,h.old,by omega,by omega,by omega⟩
theorem YN.kids {X:Sys} {A:Path→Option Nd} {next used ops n:Nat} {L:List Tp} {D:List ByteArray} (h:YN X A next used ops n L D) (hn:next≤100):Kids A n:=
 ⟨h.root,h.tree.c,fun s hs=>(h.tree.kids s hs).imp (fun e=>e) fun hd=>by
  obtain ⟨id,p,q1,q2,rfl⟩:=h.old s hd;exact ⟨id,p,by omega,by omega,rfl,h.dir _ hd hs⟩,fun id p t ht=>⟨(h.two id p t ht).1,[],(h.two id p t ht).2⟩⟩
theorem YN.swept {X Y:Sys} {A A':Path→Option Nd} {next used ops n:Nat} {L:List Tp} {D:List ByteArray} (h:YN X A next used ops n L D) (hn:next≤100) (hs:Qjg X Y A A' L):YN Y A' next used (ops+1) n L D:=by
 obtain ⟨id,p,hiD,hp,hno,hs⟩:=hs;have key: ∃q sz,A'=Q4 A q none∧Qas X Y sz∧(q= [cN,Qe id p]∨∃t,q= [cN,Qe id p,t]):=by
  rcases hs with ⟨m,_,_,h3,h4⟩ | ⟨t,f,_,h3,h4⟩
  ·exact ⟨_,_,h3,h4,.inl rfl⟩
  ·exact ⟨_,_,h3,h4,.inr ⟨t,rfl⟩⟩
 obtain ⟨q,sz,rfl,hr,hq⟩:=key;have hsub: ∀r x,Q4 A q none r=some x→A r=some x:=fun r x e=>by
  unfold Q4 at e;split at e
  ·cases e
  ·exact e
 have hne: ∀r,r≠q→Q4 A q none r=A r:=fun r e=>by
  unfold Q4;rw [if_neg e]
 have hnn: ∀r,Q4 A q none r≠none→A r≠none∧Q4 A q none r=A r:=fun r e=>by
  cases hx:Q4 A q none r with
  | none=>exact absurd hx e
  | some x=>rw [hsub r x hx];exact ⟨fun e=>(by cases e),rfl⟩
 have hl:Qe id p≠lsN:=fun e=>Ey id hiD p hp e.symm
 refine ⟨⟨?_,?_,fun s hs=>h.tree.kids s (hnn _ hs).1,h.tree.size⟩,?_,h.cat,h.num,h.old,fun d hd e=>?_,fun id' p' t e=>?_,h.dlen,?_,?_,?_,h.few,fun t ht=>?_⟩
 ·rw [hne _ (by rcases hq with rfl | ⟨t,rfl⟩<;>simp)];exact h.tree.c
 ·rw [hne _ (by rcases hq with rfl | ⟨t,rfl⟩<;>simp [hl.symm])];exact h.tree.ls
 ·rw [hne _ (by rcases hq with rfl | ⟨t,rfl⟩<;>simp)];exact h.root
 ·rw [(hnn _ e).2];exact h.dir d hd (hnn _ e).1
 ·rw [(hnn _ e).2];exact h.two id' p' t (hnn _ e).1
 ·have:=hr.m;have:=h.m;omega
 ·have:=hr.fi;have:=h.fi;omega
 ·have:=hr.fb;have:=h.fb;omega
 ·obtain ⟨id',P,q1,q2,q3,q4,q5,q6⟩:=h.top t ht;refine ⟨id',P,q1,q2,q3,q4,q5,fun p' hp'=>?_⟩;obtain ⟨q7,q8⟩:=q6 p' hp';have hid2:Qe id' p'≠Qe id p:=fun e=>hno t ht (by rw [q1,WG (by omega) hiD e])
  refine ⟨q7,?_,?_,?_⟩
  ·rw [hne _ (by rcases hq with rfl | ⟨t,rfl⟩<;>simp [hid2])];exact q8.dir
  ·rw [hne _ (by rcases hq with rfl | ⟨t,rfl⟩<;>simp [hid2])];exact q8.seg
  ·rw [hne _ (by rcases hq with rfl | ⟨t,rfl⟩<;>simp [hid2])];exact q8.prod
theorem YN.made {X Y:Sys} {A A':Path→Option Nd} {next used ops n n' P:Nat} {L:List Tp} {D:List ByteArray} (h:YN X A next used ops n L D) (hL:L.length<20) (hn:next<100) (hP:1≤P∧P≤8) {t:Tp} (h1:t.id=next) (h2:t.parts=P) (hnm:t.nm.size≤50) (hno: ∀x∈L,x.nm≠t.nm) (hnum: ∀x∈t.nums,I64 x)
 (hm:U1 X Y A A' (QB next L) (QB ((next:Int)+1) (JI t L)) next n n' P):YN Y A' (next+1) (used+P) (ops+1) n' (JI t L) (D++UC next P):=by
 have hc:=h.cat.ins t hnm hno;have e1:(QB ((next:Int)+1) (JI t L)).length=8+107*(JI t L).length:=QN _ _ hc.nm;have e2:=QN (next:Int) L h.cat.nm;have hsN:((next:Int)+1)=((next+1:Nat):Int):=by omega
 have hpl: ∀id p,id<100→p<10→Qe id p≠lsN:=fun id p a b e=>Ey id a p b e.symm
 have hborn: ∀j,j<P→∀t,A' [cN,Qe next j,t]≠none→t=QM∨t=QS→A' [cN,Qe next j,t]=some (.file []):=fun j hj t _ ht=>by
  rcases ht with rfl | rfl
  ·exact (hm.born j hj).seg
  ·exact (hm.born j hj).prod
 refine ⟨?_,?_,hc,⟨Oc (by omega),fun x hx=>?_⟩,h.old.more hP.2,fun d hd e=>?_,fun id p u e=>?_,?_,?_,?_,?_,?_,fun x hx=>?_⟩
 ·have:=hm.tree h.tree;rw [hsN] at this;exact this
 ·obtain ⟨m,hr⟩:=h.root;exact ⟨m,(hm.keep [] (by rw [hr];exact fun e=>by cases e) (by simp) (by simp)).trans hr⟩
 ·rcases (YR t x L).1 hx with rfl | hx
  ·exact hnum
  ·exact h.num.nums x hx
 ·rcases hm.only _ e with h3 | ⟨j,hj,h3 | h3 | h3⟩
  ·rcases List.mem_append.1 hd with hd | hd
   ·obtain ⟨id,p,q1,q2,rfl⟩:=h.old d hd;rw [hm.keep _ h3 (by simp) (by simp [hpl id p (by omega) (by omega)])];exact h.dir _ hd h3
   ·obtain ⟨q,hq,rfl⟩:=KJ.1 hd;exact (hm.born q hq).dir
  ·have e:d=Qe next j:=by simpa using h3
   rw [e];exact (hm.born j hj).dir
  ·simp at h3
  ·simp at h3
 ·rcases hm.only _ e with h3 | ⟨j,hj,h3 | h3 | h3⟩
  ·rw [hm.keep _ h3 (by simp) (by simp)];exact h.two id p u h3
  ·simp at h3
  ·have e3:Qe id p=Qe next j∧u=QM:=by simpa using h3
   rw [e3.1,e3.2];exact ⟨.inl rfl,(hm.born j hj).seg⟩
  ·have e3:Qe id p=Qe next j∧u=QS:=by simpa using h3
   rw [e3.1,e3.2];exact ⟨.inr rfl,(hm.born j hj).prod⟩
 ·rw [List.length_append,UX,h.dlen]
 ·have a1:=hm.m;have a2:=h.m;omega
 ·have a1:=hm.fi;have a2:=h.fi;omega
 ·have a1:=hm.fb;have a2:=h.fb;rw [e1,e2] at a1;omega
 ·rw [YF];omega
 ·rcases (YR t x L).1 hx with rfl | hx
  ·exact ⟨next,P,h1,h2,by omega,hP.1,hP.2,fun p hp=>⟨List.mem_append_right _ (KJ.2 ⟨p,hp,rfl⟩),hm.born p hp⟩⟩
  ·obtain ⟨id,Q,q1,q2,q3,q4,q5,q6⟩:=h.top x hx;exact ⟨id,Q,q1,q2,by omega,q4,q5,fun p hp=>⟨List.mem_append_left _ (q6 p hp).1,(q6 p hp).2.keep hm (hpl id p (by omega) (by omega))⟩⟩
theorem YN.gone {X Y:Sys} {A A':Path→Option Nd} {next used ops n:Nat} {L:List Tp} {D:List ByteArray} (h:YN X A next used ops n L D) (hn:next≤100) {t:Tp} (ht:t∈L) (hg:QhN X Y A A' (QB next L) (QB next (Yc t.nm L))):YN Y A' next used (ops+1) n (Yc t.nm L) D:=by
 have hc:=h.cat.del t.nm;have e1:=QN (next:Int) (Yc t.nm L) hc.nm;have e2:=QN (next:Int) L h.cat.nm;have hk: ∀p,p≠ [cN,lsN]→A' p=A p:=fun p hp=>by rw [hg.tree];exact if_neg hp
 have hpl: ∀id p,id<100→p<10→Qe id p≠lsN:=fun id p a b e=>Ey id a p b e.symm
 refine ⟨⟨?_,?_,fun s hs=>?_,h.tree.size⟩,?_,hc,⟨h.num.next,fun x hx=>h.num.nums x (Uz.1 hx).1⟩,h.old,fun d hd e=>?_,fun id p u e=>?_,h.dlen,?_,?_,?_,?_,fun x hx=>?_⟩
 ·rw [hk _ (by simp)];exact h.tree.c
 ·rw [hg.tree];exact if_pos rfl
 ·by_cases e:s=lsN
  ·exact .inl e
  ·exact h.tree.kids s (by rw [←hk _ (by simp [e])];exact hs)
 ·rw [hk _ (by simp)];exact h.root
 ·obtain ⟨id,p,q1,q2,rfl⟩:=h.old d hd;rw [hk _ (by simp [hpl id p (by omega) (by omega)])] at e ⊢;exact h.dir _ hd e
 ·rw [hk _ (by simp)] at e ⊢;exact h.two id p u e
 ·have a1:=hg.m;have a2:=h.m;omega
 ·have a1:=hg.fi;have a2:=h.fi;omega
 ·have a1:=hg.fb;have a2:=h.fb;rw [e1,e2] at a1;omega
 ·have:=h.cat.del_length ht;have:=h.few;omega
 ·obtain ⟨id,Q,q1,q2,q3,q4,q5,q6⟩:=h.top x (Uz.1 hx).1;refine ⟨id,Q,q1,q2,q3,q4,q5,fun p hp=>⟨(q6 p hp).1,?_⟩⟩;obtain ⟨⟨m,a1⟩,a2,a3⟩:=(q6 p hp).2;exact ⟨⟨m,by rw [hk _ (by simp [hpl id p (by omega) (by omega)])];exact a1⟩,by rw [hk _ (by simp)];exact a2,by rw [hk _ (by simp)];exact a3⟩
theorem YN.saveDel {X:Sys} {A:Path→Option Nd} {ι:Path→Nat} {next used ops n:Nat} {L:List Tp} {D:List ByteArray} (h:YN X A next used ops n L D) (hA:Rep X A ι) (hl:X.l= []) (nm:ByteArray):
 OR X.open' A ι (X.P.bm::Ew X (ι [cN,lsN])) (QB next L) (QB next (Yc nm L)):=by
 have e1:=QN (next:Int) (Yc nm L) (h.cat.del nm).nm;have e2:=QN (next:Int) L h.cat.nm;have s2:X.nd (ι [cN,lsN]) 1=(QB next L).length:=(hA.live _ _ h.tree.ls).2.2;have hle:(Yc nm L).length≤L.length:=List.length_filter_le _ _;have hd:dat (QB next (Yc nm L)).length≤dat (QB next L).length:=Jt (by rw [e1,e2];omega);have hf:=h.few;have d2:dat (QB next L).length≤5:=by rw [e2];unfold dat;omega
 refine ⟨h.tree.ls,by rw [e2];omega,?_,List.mem_cons_self ..,Vv (X:=X) fun c hc=>List.mem_cons_of_mem _ hc,by omega,?_⟩
 ·intro k hk;have:X.l= []:=hl;simp [Sys.keys,Sys.open',this] at hk
 ·rw [List.length_cons,YQ,s2];omega
section
variable {w0:Gnd} {w:World} {rs:List Res} {X:Sys} {F:FH} {A:Path→Option Nd} {ι:Path→Nat}
theorem Qe7 {cb mb n next used ops:Nat} {L:List Tp} {D:List ByteArray} (h:Fs w0 w F X A ι (Je cb F.fb next mb::Q8 mb L::rs)) (hc:Calm F X) (hR:YN X A next used ops n L D) (hm:X.m<1000000) {t:Tp} (ht:t∈L) (hN:Yt t.nm true):
 Calls prog 15 #[.pointer (some ⟨cb,0,none⟩),.string t.nm] w fun e w'=>e= .returned (.int .i64 0)∧∃Y A' mb',Fs w0 w' { F with begun:=false,QH:=false } Y A' ι (Je cb F.fb next mb'::Q8 mb' (Yc t.nm L)::rs)∧QhN X Y A A' (QB next L) (QB next (Yc t.nm L)):=by
 have HR:=hid (Y1 h (i:=0) rfl);have hn:t.nm.size≤50:=hR.cat.nm t ht;have HF:=hid (Qdr h (i:=0) (j:=1) rfl rfl hn hN ((hR.cat.map_iff _ _).2 ⟨ht,rfl⟩));have KDel:Hid (∀z mb',Fs w0 z F X A ι (Q8 mb' L::Je cb F.fb next mb::Q8 mb L::rs)→∃o,(∀ty,(Builtin.delete_ #[91,95] ty #[.map (some mb'),.agg ((Qj t.nm).map B8).toArray]).run prog z= .ok (.tuple #[]) (setBlock z mb' o))∧Fs w0 (setBlock z mb' o) F X A ι (Q8 mb' (Yc t.nm L)::Je cb F.fb next mb::Q8 mb L::rs)):=hid fun z mb' hz=>hz.catDel 0 rfl hR.cat ht
 have KCh:Hid (∀z mb',Fs w0 z F X A ι (Q8 mb' (Yc t.nm L)::Je cb F.fb next mb::Q8 mb L::rs)→Calls prog 44 #[.pointer (some ⟨cb,0,none⟩),.int .i64 next,.map (some mb'),.func (.func 48) #[] #[]] z fun e w'=>e= .returned (.int .i64 0)∧∃Y A',Fs w0 w' { F with begun:=false,QH:=false } Y A' ι (Je cb F.fb next mb'::Q8 mb' (Yc t.nm L)::rs)∧QhN X Y A A' (QB next L) (QB next (Yc t.nm L))):=hid fun z mb' hz=>by
  have hlen:(Yc t.nm L).length≤20:=Nat.le_trans (List.length_filter_le _ _) hR.few;refine (Qcb hz hc.b hc.d hc.op hc.lim hm (i:=1) (j:=0) rfl rfl (hR.cat.del t.nm) hlen (hR.saveDel hz.2 hc.l t.nm) QdL (K:=fun X' A' ι'=>(∃C1,Wd X.open' X' (X.P.bm::Ew X (ι [cN,lsN])) C1 (QB next L) (QB next (Yc t.nm L)))∧A'=Q4 A [cN,lsN] (some (.file (QB next (Yc t.nm L))))∧ι'=ι) (fun y X1 C1 rs' hy hsv=>?_)).mono ?_
  ·refine (Qe0 y).mono ?_;rintro e w' ⟨rfl,rfl⟩;exact ⟨rfl,X1,_,ι,hy,hsv.goes.wr,⟨C1,hsv⟩,rfl,rfl⟩
  ·rintro e w' ⟨rfl,X',A',ι',Y,h2,hcm,hx,⟨C1,hsv⟩,hA,rfl⟩;refine ⟨rfl,Y,A',?_,gone hsv hA hx hcm⟩;have h3:Fs w0 w' { F with begun:=false,QH:=false } Y A' ι' (Q8 mb' (Yc t.nm L)::Je cb F.fb next mb'::Q8 mb L::rs):=h2;exact (h3.perm (List.Perm.swap _ _ _)).sub (((List.Sublist.refl rs).cons (Q8 mb L)).cons_cons _ |>.cons_cons _)
 have HH:=hid h;have hnn:=hid hn;clear h hc hR hm ht hN hn;obtain ⟨nm,q1,q2,q3,q4,q5,q6,q7⟩:=t;go_enter func15,ntmps15;go_wp2_with fail;refine HR.out.mono ?_;clear HR;rintro e w2 ⟨rfl,rfl⟩;go_wp2_with fail;refine HF.out.mono ?_;clear HF;rintro e w3 ⟨rfl,h3⟩;have HK0:=hid (Qb w3 (.cells (tp0) 31 (0,0)));have H3:=hid (h3.frm (((Frm.refl NoB w3).alloc (.cells (tp0) 31 (0,0))).setRowNew (Nat.le_refl _) (tpz nm q1 q2 q3 q4 q5 q6 q7)));clear h3 HH
 dsimp only [Wm,Tp.cells]
 go_upto_region 4 with (first | (refine Qg rfl _ _ JU rfl ?_) | (refine JE rfl _ _ rfl w3.heap.size nm q1 q2 q3 q4 q5 q6 q7 rfl rfl _ rfl HK0.out ?_))
 clear HK0;obtain ⟨w4,hw4⟩: ∃w4,(w3.alloc (.cells (tp0) 31 (0,0))).setRow w3.heap.size (tpz nm q1 q2 q3 q4 q5 q6 q7)=w4:=⟨_,rfl⟩;show Code.wp prog _ _ _ ((w3.alloc (.cells (tp0) 31 (0,0))).setRow w3.heap.size (tpz nm q1 q2 q3 q4 q5 q6 q7));rw [hw4] at H3 ⊢;have c3:w4.cell? ⟨cb,3,none⟩=some (.map (some mb)):=(H3.out.arrCell (i:=0) rfl 3).trans rfl;have HCl:=hid (Qex H3.out (j:=1) rfl);clear hw4 H3;go_wp2_with fail;refine HCl.out.mono ?_;clear HCl c3;rintro e w5 ⟨mb',rfl,h5⟩;have KO:=hid (QfK w5 nm hnn.out);have H5:=hid h5;clear h5;go_wp2_with fail;refine KO.out.mono ?_;clear KO;rintro e w6 ⟨rfl,hf6⟩;obtain ⟨o,hdel0,h7⟩:=KDel.out w6 mb' (H5.out.frm hf6);have hdel: ∀ty,(Builtin.delete_ #[91,95] ty #[.map (some mb'),.agg (Jb nm)]).run prog w6= .ok (.tuple #[]) (setBlock w6 mb' o):=hdel0;clear hdel0;have d2:(setBlock w6 mb' o).cell? ⟨cb,2,none⟩=some (.int .i64 next):=(h7.arrCell (i:=1) rfl 2).trans rfl;have HCh:=hid (KCh.out _ _ h7);clear h7 hf6 H5 KDel KCh;go_wp2_with fail;refine HCh.out.mono ?_;clear HCh hdel d2;rintro e w8 ⟨rfl,Y,A',h8,hg⟩;have H8:=hid (And.intro h8 hg);clear h8 hg;go_wp2;go_ret;exact ⟨rfl,Y,A',mb',H8.out.1,H8.out.2⟩
def QC (w0:Gnd) (w:World) (fb cb next used ops:Nat) (L:List Tp) (rs:List Res):Prop:=
 ∃F X A ι mb n D,F.fb=fb∧Fs w0 w F X A ι (Je cb F.fb next mb::Q8 mb L::rs)∧Calm F X∧YN X A next used ops n L D
theorem QC.room {w0:Gnd} {w:World} {fb cb next used ops:Nat} {L:List Tp} {rs:List Res} (h:QC w0 w fb cb next used ops L rs):Q9 L∧L.length≤20:=by
 obtain ⟨F,X,A,ι,mb,n,D,rfl,hf,hc,hr⟩:=h;exact ⟨hr.cat,hr.few⟩
theorem Qax {w0:Gnd} {w:World} {fb cb next used ops:Nat} {L:List Tp} {rs:List Res} (h:QC w0 w fb cb next used ops L rs) (hn:next≤100) (ho:ops≤1000) {t:Tp} (ht:t∈L) (hN:Yt t.nm true):
 Calls prog 15 #[.pointer (some ⟨cb,0,none⟩),.string t.nm] w fun e w'=>e= .returned (.int .i64 0)∧QC w0 w' fb cb next used (ops+1) (Yc t.nm L) rs:=by
 obtain ⟨F,X,A,ι,mb,n,D,rfl,hf,hc,hr⟩:=h;refine (Qe7 hf hc hr (by have:=hr.m;omega) ht hN).mono ?_;rintro e w' ⟨rfl,Y,A',mb',h',hg⟩;exact ⟨rfl,{ F with begun:=false,QH:=false },Y,A',ι,mb',n,D,rfl,h',⟨rfl,hc.d,hg.op,hg.l,hg.same.lim.trans hc.lim⟩,hr.gone hn ht hg⟩
theorem Qgk {w0:Gnd} {w:World} {fb cb next used ops:Nat} {L:List Tp} {rs:List Res} (h:QC w0 w fb cb next used ops L rs) (hE:SynV w0.w) (hn:next≤100) (ho:ops≤1000):
 Calls prog 22 #[.pointer (some ⟨cb,0,none⟩)] w fun e w'=> ∃b:Bool,e= .returned (.tuple #[.bool b,.int .i64 0])∧QC w0 w' fb cb next used (ops+1) L rs:=by
 obtain ⟨F,X,A,ι,mb,n,D,rfl,hf,hc,hr⟩:=h;refine (QhQ hf hE hc (by have:=hr.m;omega) (i:=0) (j:=1) rfl rfl hr.cat (hr.kids hn)).mono ?_;rintro e w' (⟨rfl,h',-⟩ | ⟨rfl,Y,A',h',hs⟩)
 ·exact ⟨false,rfl,F,X,A,ι,mb,n,D,rfl,h',hc,{ hr with m:=by have:=hr.m;omega }⟩
 ·have hs2:=hs;obtain ⟨_,_,_,_,_,hk⟩:=hs2;have hY: ∃sz,Qas X Y sz:=by rcases hk with ⟨_,_,_,_,q⟩ | ⟨_,_,_,_,q⟩<;>exact ⟨_,q⟩
  obtain ⟨sz,hq⟩:=hY;exact ⟨true,rfl,F,Y,A',ι,mb,n,D,rfl,h',⟨hc.b,hc.d,hq.op,hq.l,hq.same.lim.trans hc.lim⟩,hr.swept hn hs⟩
theorem Qau {w0:Gnd} {w:World} {fb cb next used ops:Nat} {L:List Tp} {rs:List Res} (h:QC w0 w fb cb next used ops L rs) (hL:L.length<20) (hn:next<100) {P:Nat} (hP:1≤P∧P≤8) (hu:used+P≤70) (ho:ops<900000) {nm:ByteArray} (hn50:nm.size≤50) (hN:Yt nm true) (hno: ∀x∈L,x.nm≠nm) {p3 p4 p5:Int} {p6:Bool} {p7:Int} (hs:Oy p3 p4 p5 p7):
 Calls prog 11 #[.pointer (some ⟨cb,0,none⟩),.string nm,.int .i64 P,.agg (stz p3 p4 p5 p6 p7)] w fun e w'=>e= .returned (.tuple #[.agg (tpz nm next P p3 p4 p5 p6 p7),.int .i64 0])∧QC w0 w' fb cb (next+1) (used+P) (ops+1) (JI ⟨nm,next,P,p3,p4,p5,p6,p7⟩ L) rs:=by
 obtain ⟨F,X,A,ι,mb,n,D,rfl,hf,hc,hr⟩:=h;refine (Qf5 hf hc.b hc.d hc.op hc.lim (by have:=hr.m;omega) hc.l (hr.may hL hn hP hu) hn50 hN hno p3 p4 p5 p6 p7 hs.h1 hs.h2 hs.h3 hs.h4).mono ?_;rintro e w' ⟨he,Y,A',ι',n',mb',hf',hm⟩;refine ⟨he,{ F with begun:=false,QH:=false },Y,A',ι',mb',n',D++UC next P,rfl,?_,⟨rfl,hc.d,hm.op,hm.l,hm.same.lim.trans hc.lim⟩,hr.made hL hn hP (t:=⟨nm,next,P,p3,p4,p5,p6,p7⟩) rfl rfl hn50 hno ?_ hm⟩
 ·have:((next:Int)+1)=((next+1:Nat):Int):=by omega
  rw [this] at hf';exact hf'
 ·have h1:=hs.h1;have h2:=hs.h2;have h3:=hs.h3;have h4:=hs.h4;intro x hx;simp only [Tp.nums,List.mem_cons,List.not_mem_nil,or_false] at hx;rcases hx with rfl | rfl | rfl | rfl | rfl | rfl | rfl
  ·exact Oc (by omega)
  ·exact Oc (by omega)
  ·constructor<;>omega
  ·constructor<;>omega
  ·constructor<;>omega
  ·cases p6<;>(constructor<;>simp [JH])
  ·constructor<;>omega
theorem QdW: ¬U8T (29:TypeId):=by decide
theorem Qb4 {cb mb P:Nat} {next:Int} {L:List Tp} (h:Fs w0 w F X A ι (Je cb F.fb next mb::Q8 mb L::rs)) (hc:Q9 L) (h20:L.length=20) (hP:1≤P∧P≤8) {nm:ByteArray} (hn50:nm.size≤50) (hnm:Yt nm true) (hno: ∀x∈L,x.nm≠nm) (p3 p4 p5:Int) (p6:Bool) (p7:Int)
 (h1:512≤p3∧p3≤8192) (h2: -1≤p4∧p4≤1099511627776) (h3: -1≤p5∧p5≤1125899906842624) (h4:0≤p7∧p7≤1125899906842624):
 Calls prog 11 #[.pointer (some ⟨cb,0,none⟩),.string nm,.int .i64 P,.agg (stz p3 p4 p5 p6 p7)] w fun e w'=>e= .returned (.tuple #[.agg (tp0),.int .i64 2])∧Fs w0 w' F X A ι (Je cb F.fb next mb::Q8 mb L::rs):=by
 have hh:=(((h.newArr #[.pointer (some ⟨cb,0,none⟩)] 25 J8).newArr (stz p3 p4 p5 p6 p7) 29 QdW).newArr (tp0) 31 Jd);simp only [size_alloc] at hh;obtain ⟨y,hy⟩: ∃y,((w.alloc (.cells #[.pointer (some ⟨cb,0,none⟩)] 25 (0,0))).alloc (.cells (stz p3 p4 p5 p6 p7) 29 (0,0))).alloc (.cells (tp0) 31 (0,0))=y:=⟨_,rfl⟩;obtain ⟨b1,hb1⟩: ∃b1,w.heap.size=b1:=⟨_,rfl⟩;rw [hy,hb1] at hh;obtain ⟨b2,hb2⟩: ∃b2,b1+1=b2:=⟨_,rfl⟩;rw [hb2] at hh;obtain ⟨b3,hb3⟩: ∃b3,b2+1=b3:=⟨_,rfl⟩;rw [hb3] at hh;have P1:(1:Int)≤(P:Int):=by omega
 have P8:(P:Int)≤8:=by omega
 have c0:y.cell? ⟨b1,0,none⟩=some (.pointer (some ⟨cb,0,none⟩)):=(hh.arrCell (i:=2) rfl 0).trans rfl;have hnm50:Hid (nm.size≤50):=hid hn50;have HR:=hid (Y1 hh (i:=3) rfl);have HN:=hid (hnm y);have KS:Hid (∀W,Calls prog 41 #[.agg (stz p3 p4 p5 p6 p7)] W fun r w'=>r= .returned (.bool true)∧Frm NoB W w'):=hid fun W=>VB W p3 p4 p5 p6 p7 h1 h2 h3 h4
 have HY:=hid (And.intro hy (And.intro hb1 (And.intro hb2 hb3)));have HH:=hid hh;have HC:=hid hc;have HP:=hid (And.intro hno h20);have HSz:=hid (And.intro h1 (And.intro h2 (And.intro h3 h4)));clear h hc hnm hn50 hno h1 h2 h3 h4 hh hy hb1 hb2 hb3 hP h20;go_enter func11,ntmps11;go_upto_region 1 with (refine Qg rfl _ _ JU rfl ?_)
 rw [HY.out.1,HY.out.2.1,HY.out.2.2.1,HY.out.2.2.2];clear HY;go_wp2_with fail;refine HR.out.mono ?_;clear HR;rintro e w2 ⟨rfl,rfl⟩;go_wp2_with fail;refine HN.out.mono ?_;clear HN;rintro e w2 ⟨rfl,hf⟩;have HH2:=hid (HH.out.frm hf);have s0:w2.cell? ⟨b2,0,none⟩=some (.int .i64 p3):=(HH2.out.arrCell (i:=1) rfl 0).trans rfl;have s1:w2.cell? ⟨b2,1,none⟩=some (.int .i64 p4):=(HH2.out.arrCell (i:=1) rfl 1).trans rfl;have s2:w2.cell? ⟨b2,2,none⟩=some (.int .i64 p5):=(HH2.out.arrCell (i:=1) rfl 2).trans rfl;have s3:w2.cell? ⟨b2,3,none⟩=some (.bool p6):=(HH2.out.arrCell (i:=1) rfl 3).trans rfl;have s4:w2.cell? ⟨b2,4,none⟩=some (.int .i64 p7):=(HH2.out.arrCell (i:=1) rfl 4).trans rfl;have c0':w2.cell? ⟨b1,0,none⟩=some (.pointer (some ⟨cb,0,none⟩)):=(HH2.out.arrCell (i:=2) rfl 0).trans rfl;clear HH hf c0;go_wp2_with fail;refine (KS.out _).mono ?_;clear KS s0 s1 s2 s3 s4;rintro e w3 ⟨rfl,hf⟩;have HH3:=hid (HH2.out.frm hf);have d0:w3.cell? ⟨b1,0,none⟩=some (.pointer (some ⟨cb,0,none⟩)):=(HH3.out.arrCell (i:=2) rfl 0).trans rfl;have d3:w3.cell? ⟨cb,3,none⟩=some (.map (some mb)):=(HH3.out.arrCell (i:=3) rfl 3).trans rfl;clear HH2 hf c0';go_upto_region 5 with fail
 have KL:Hid (∀W,Fs w0 W F X A ι (arr b3 (tp0) 31 Jd::arr b2 (stz p3 p4 p5 p6 p7) 29 QdW::arr b1 #[.pointer (some ⟨cb,0,none⟩)] 25 J8::Je cb F.fb next mb::Q8 mb L::rs)→W.cell? ⟨b1,0,none⟩=some (.pointer (some ⟨cb,0,none⟩))∧W.cell? ⟨cb,3,none⟩=some (.map (some mb))∧(Instr.lookup 91 (.map (some mb)) (.agg ((Qj nm).map B8).toArray) true).run prog W= .ok (.tuple #[.agg #[.string ⟨#[]⟩,.int .i64 0,.int .i64 0,.int .i64 0,.int .i64 0,.int .i64 0,.bool false,.int .i64 0],.bool false]) W):=hid fun W hW=>by
  refine ⟨(hW.arrCell (i:=2) rfl 0).trans rfl,(hW.arrCell (i:=3) rfl 3).trans rfl,?_⟩;have this:=(hW.catAt (i:=4) rfl).lookup_ok YU underlying91 (a:=Qj nm) (Qr nm hnm50.out) JU W rfl;rw [WS HC.out hnm50.out HP.out.1] at this;exact this
 have KO:Hid (∀W,Calls prog 42 #[.string nm] W fun e w'=>e= .returned (.agg ((Qj nm).map B8).toArray)∧Frm NoB W w'):=hid fun W=>QfK W nm hnm50.out
 have HHd:=hid (HH3.out.frm (Frm.refl NoB w3).drew);obtain ⟨k1,k2,k3⟩:=KL.out _ HH3.out;clear d0 d3;go_cut [10,11] from 36 (fun t10 t11 wx=>t11= .bool false∧Fs w0 wx F X A ι (arr b3 (tp0) 31 Jd::arr b2 (stz p3 p4 p5 p6 p7) 29 QdW::arr b1 #[.pointer (some ⟨cb,0,none⟩)] 25 J8::Je cb F.fb next mb::Q8 mb L::rs))
 case first=>
  refine wp_region_held_drew (S:=(fun y=>y.cell? ⟨b1,0,none⟩=some (.pointer (some ⟨cb,0,none⟩))∧y.cell? ⟨cb,3,none⟩=some (.map (some mb))∧(Instr.lookup 91 (.map (some mb)) (.agg ((Qj nm).map B8).toArray) true).run prog y= .ok (.tuple #[.agg #[.string ⟨#[]⟩,.int .i64 0,.int .i64 0,.int .i64 0,.int .i64 0,.int .i64 0,.bool false,.int .i64 0],.bool false]) y)) (by kernel_rfl) (KL.out _ HHd.out) (fun hHeld=>?_);refine tkA (i:=0) rfl ?_
  try simp only [Act.put,tkS,tkZ,tkC]
  refine tkA (i:=1) rfl ?_
  try simp only [Act.put,tkS,tkZ,tkC]
  refine tkA (i:=2) rfl ?_
  try simp only [Act.put,tkS,tkZ,tkC]
  refine tkA (i:=3) rfl ?_
  try simp only [Act.put,tkS,tkZ,tkC]
  refine tkA (i:=4) rfl ?_
  try simp only [Act.put,tkS,tkZ,tkC]
  refine wpAnyH_ready (rs:= [5,10]) (by kernel_rfl) (by simp) ?_;refine AllReadyH.cons rfl (fun K hK=>?_) ?_
  ·go_simp;refine (KO.out _).mono ?_;rintro e w4 ⟨rfl,hf4⟩;go_wp2_with fail;have HH4:=hid (HHd.out.frm hf4);clear hf4;refine hK.out _ _ (KL.out _ HH4.out) (fun hHeld=>?_);clear hK K
   try simp only [Act.put,tkS,tkZ,tkC]
   refine tkA (i:=6) rfl ?_
   try simp only [Act.put,tkS,tkZ,tkC]
   refine tkA (i:=7) rfl ?_
   try simp only [Act.put,tkS,tkZ,tkC]
   refine tkA (i:=8) rfl ?_
   try simp only [Act.put,tkS,tkZ,tkC]
   refine tkA (i:=9) rfl ?_;change wpAnyH _ _ _ _ _ _ _ (Act.put _ (some 45) _) _
   try simp only [Act.put,tkS,tkZ,tkC]
   refine wpAnyH_ready (rs:= [10]) (by kernel_rfl) (by simp) ?_;refine AllReadyH.cons rfl (fun K hK=>?_) AllReadyH.nil;go_simp;have HA:=hid (HH4.out.newArr (tp0) 31 Jd);refine hK.out _ _ (KL.out _ (HA.out.drop 1)) (fun hHeld=>?_);clear hK K
   try simp only [Act.put,tkS,tkZ,tkC]
   refine wpAnyH_ready (rs:= [11]) (by kernel_rfl) (by simp) ?_;refine AllReadyH.cons rfl (fun K hK=>?_) AllReadyH.nil;rw [if_pos (by rfl)];refine wp_store_row 31 _ _ rfl w4.heap.size (tp0) rfl rfl _ _ (HA.out.block (i:=0) rfl) (Jz _ _ _ _ _ _ _ _) rfl (Uc _ _ _ _ _ _ _ _) ?_;have HB:=hid (HA.out.setRow 0 (c':=(tp0)) rfl);refine hK.out _ _ (KL.out _ (HB.out.drop 1)) (fun hHeld=>?_);clear hK K
   try simp only [Act.put,tkS,tkZ,tkC]
   refine tkA (i:=12) rfl ?_;change wpAnyH _ _ _ _ _ _ _ (Act.put _ (some 11) _) _
   try simp only [Act.put,tkS,tkZ,tkC]
   refine wpAnyH_done (by kernel_rfl) ?_ _;go_wp2_with fail;go_meet;exact ⟨rfl,HB.out.drop 1⟩
  ·refine AllReadyH.cons rfl (fun K hK=>?_) AllReadyH.nil;go_simp;have HA:=hid ((HH3.out.newArr (tp0) 31 Jd).frm (Frm.refl NoB _).drew);refine hK.out _ _ (KL.out _ (HA.out.drop 1)) (fun hHeld=>?_);clear hK K
   try simp only [Act.put,tkS,tkZ,tkC]
   obtain ⟨wa,hwa⟩: ∃wa,(w3.alloc (.cells (tp0) 31 (0,0))).drew=wa:=⟨_,rfl⟩;obtain ⟨ga,hga⟩: ∃ga,w3.heap.size=ga:=⟨_,rfl⟩;change wpAnyH _ _ _ _ _ _ _ _ ((w3.alloc (.cells (tp0) 31 (0,0))).drew);have hHeld2:=hHeld;clear hHeld;have hHeld:=KL.out _ (HA.out.drop 1);clear hHeld2;rw [hwa,hga] at HA;rw [hwa] at hHeld;rw [hwa,hga];clear hwa hga;refine wpAnyH_ready (rs:= [5]) (by kernel_rfl) (by simp) ?_;refine AllReadyH.cons rfl (fun K hK=>?_) AllReadyH.nil;go_simp;refine (KO.out _).mono ?_;rintro e w4 ⟨rfl,hf4⟩;go_wp2_with fail;have HH4:=hid (HA.out.frm hf4);clear hf4 HA;refine hK.out _ _ (KL.out _ (HH4.out.drop 1)) (fun hHeld=>?_);clear hK K
   try simp only [Act.put,tkS,tkZ,tkC]
   refine tkA (i:=6) rfl ?_
   try simp only [Act.put,tkS,tkZ,tkC]
   refine tkA (i:=7) rfl ?_
   try simp only [Act.put,tkS,tkZ,tkC]
   refine tkA (i:=8) rfl ?_
   try simp only [Act.put,tkS,tkZ,tkC]
   refine tkA (i:=9) rfl ?_;change wpAnyH _ _ _ _ _ _ _ (Act.put _ (some 45) _) _
   try simp only [Act.put,tkS,tkZ,tkC]
   refine wpAnyH_ready (rs:= [11]) (by kernel_rfl) (by simp) ?_;refine AllReadyH.cons rfl (fun K hK=>?_) AllReadyH.nil;rw [if_pos (by rfl)];refine wp_store_row 31 _ _ rfl ga (tp0) rfl rfl _ _ (HH4.out.block (i:=0) rfl) (Jz _ _ _ _ _ _ _ _) rfl (Uc _ _ _ _ _ _ _ _) ?_;have HB:=hid (HH4.out.setRow 0 (c':=(tp0)) rfl);refine hK.out _ _ (KL.out _ (HB.out.drop 1)) (fun hHeld=>?_);clear hK K
   try simp only [Act.put,tkS,tkZ,tkC]
   refine tkA (i:=12) rfl ?_;change wpAnyH _ _ _ _ _ _ _ (Act.put _ (some 11) _) _
   try simp only [Act.put,tkS,tkZ,tkC]
   refine wpAnyH_done (by kernel_rfl) ?_ _;go_wp2_with fail;go_meet;exact ⟨rfl,HB.out.drop 1⟩
 case rest=>
 obtain ⟨rfl,hcut⟩:=hcut;have hlen: ∀ty,(Builtin.len_ #[91] ty #[.map (some mb)]).run prog wc= .ok (goInt L.length) wc:=fun ty=>(hcut.catAt (i:=4) rfl).len underlying91 ty wc rfl
 have hl0:(0:Int)≤(L.length:Int):=Qk _;have hl20:(L.length:Int)=20:=by have:=HP.out.2;omega
 have c5:wc.cell? ⟨b1,0,none⟩=some (.pointer (some ⟨cb,0,none⟩)):=(hcut.arrCell (i:=2) rfl 0).trans rfl;have d5:wc.cell? ⟨cb,3,none⟩=some (.map (some mb)):=(hcut.arrCell (i:=3) rfl 3).trans rfl;have HH5:=hid hcut;clear hcut KL HH3 HHd k1 k2 k3;have HB3:=hid (HH5.out.block (i:=0) rfl);have HX:=hid (HH5.out.setRow 0 (c':=tp0) rfl);go_wp2_with (refine JE rfl _ _ rfl b3 ByteArray.empty 0 0 0 0 0 false 0 rfl rfl _ rfl HB3.out ?_);have hld:=run_loadVar_row (P:=prog) _ b3 31 31 (tp0) (0,0) _ (HX.out.block (i:=0) rfl) underlying31 rfl (Jz _ _ _ _ _ _ _ _)
 (try simp only [Exit.inBlock,Exit.then])
 exact bodyPost_ret (v:= .tuple #[.agg (tp0),.int .i64 2]) (Qx results11 _ _ ⟨b3,0,none⟩ rfl _ hld) rfl ⟨rfl,HX.out.drop 3⟩
end
section
variable {w0:Gnd} {w:World} {rs:List Res} {fb cb next used ops:Nat} {L:List Tp}
theorem Qba (h:QC w0 w fb cb next used ops L rs) {nm:ByteArray} (hN:Yt nm false):
 Calls prog 15 #[.pointer (some ⟨cb,0,none⟩),.string nm] w fun e w'=>e= .returned (.int .i64 4)∧QC w0 w' fb cb next used ops L rs:=by
 obtain ⟨F,X,A,ι,mb,n,D,rfl,hf,hc,hr⟩:=h;refine (Qca hf (i:=0) rfl hN).mono ?_;rintro e w' ⟨he,h'⟩;exact ⟨he,F,X,A,ι,mb,n,D,rfl,h',hc,hr⟩
theorem Oz (h:QC w0 w fb cb next used ops L rs) {nm:ByteArray} (hn:nm.size≤50) (hN:Yt nm true) (hno: ∀x∈L,x.nm≠nm):
 Calls prog 15 #[.pointer (some ⟨cb,0,none⟩),.string nm] w fun e w'=>e= .returned (.int .i64 4)∧QC w0 w' fb cb next used ops L rs:=by
 obtain ⟨F,X,A,ι,mb,n,D,rfl,hf,hc,hr⟩:=h;refine (Qdq hf (i:=0) (j:=1) rfl rfl hr.cat hn hN hno).mono ?_;rintro e w' ⟨he,h'⟩;exact ⟨he,F,X,A,ι,mb,n,D,rfl,h',hc,hr⟩
theorem QhU (h:QC w0 w fb cb next used ops L rs) {nm:ByteArray} (hn:nm.size≤50) (hN:Yt nm true) {o:Option Tp} (ho:QX L (Qj nm)=o):
 Calls prog 23 #[.pointer (some ⟨cb,0,none⟩),.string nm] w fun e w'=>e= .returned (Wm o)∧QC w0 w' fb cb next used ops L rs:=by
 obtain ⟨F,X,A,ι,mb,n,D,rfl,hf,hc,hr⟩:=h;refine (Qdr hf (i:=0) (j:=1) rfl rfl hn hN ho).mono ?_;rintro e w' ⟨he,h'⟩;exact ⟨he,F,X,A,ι,mb,n,D,rfl,h',hc,hr⟩
theorem Qa5 (h:QC w0 w fb cb next used ops L rs) (h20:L.length=20) {P:Nat} (hP:1≤P∧P≤8) {nm:ByteArray} (hn50:nm.size≤50) (hN:Yt nm true) (hno: ∀x∈L,x.nm≠nm) {p3 p4 p5:Int} {p6:Bool} {p7:Int} (hs:Oy p3 p4 p5 p7):
 Calls prog 11 #[.pointer (some ⟨cb,0,none⟩),.string nm,.int .i64 P,.agg (stz p3 p4 p5 p6 p7)] w fun e w'=>e= .returned (.tuple #[.agg (tp0),.int .i64 2])∧QC w0 w' fb cb next used ops L rs:=by
 obtain ⟨F,X,A,ι,mb,n,D,rfl,hf,hc,hr⟩:=h;refine (Qb4 hf hr.cat h20 hP hn50 hN hno p3 p4 p5 p6 p7 hs.h1 hs.h2 hs.h3 hs.h4).mono ?_;rintro e w' ⟨he,h'⟩;exact ⟨he,F,X,A,ι,mb,n,D,rfl,h',hc,hr⟩
theorem Qcc (h:QC w0 w fb cb next used ops L rs) {P:Nat} (hP:1≤P∧P≤8) {t:Tp} (ht:t∈L) (hN:Yt t.nm true) {p3 p4 p5:Int} {p6:Bool} {p7:Int} (hs:Oy p3 p4 p5 p7):
 Calls prog 11 #[.pointer (some ⟨cb,0,none⟩),.string t.nm,.int .i64 P,.agg (stz p3 p4 p5 p6 p7)] w fun e w'=>e= .returned (.tuple #[.agg (tp0),.int .i64 5])∧QC w0 w' fb cb next used ops L rs:=by
 obtain ⟨F,X,A,ι,mb,n,D,rfl,hf,hc,hr⟩:=h;have hn50:=hr.cat.nm t ht;obtain ⟨y0,y1,y2,y3,y4,y5,y6,y7⟩:=t;refine (Qdk hf hr.cat hP hn50 hN ht rfl p3 p4 p5 p6 p7 hs.h1 hs.h2 hs.h3 hs.h4).mono ?_;rintro e w' ⟨he,h'⟩;exact ⟨he,F,X,A,ι,mb,n,D,rfl,h',hc,hr⟩
end
def QcQ:ByteArray:=⟨#[46,110,101,119]⟩
theorem UT:QM.size=20:=by decide+kernel
theorem Qd5:QS.size=9:=rfl
theorem Qjs (w:World) (s:ByteArray) (hs:s=QM∨s=QS):Calls prog 73 #[.string s,.string QcQ] w fun e w'=>w=w'∧e= .returned (.bool false):=by
 have h1: ∃n:Nat,4≤n∧n≤20∧s.size=n:=⟨s.size,by rcases hs with rfl | rfl<;>decide+kernel,by rcases hs with rfl | rfl<;>decide+kernel,rfl⟩;obtain ⟨n,hn,hn20,he⟩:=h1;have h4:QcQ.size=4:=rfl;have hne:((s.extract (n-4) n).toList==QcQ.toList)=false:=by
  rw [←he];rcases hs with rfl | rfl<;>decide+kernel
 have n1:(4:Int)≤(n:Int):=by omega
 have n5:(n:Int)≤20:=by omega
 have n2:((n:Int)-4).toNat=n-4:=by omega
 have n3:(0:Int)≤(n:Int)-4:=by omega
 have n4:(n:Int)-4≤(n:Int):=by omega
 have HS:Hid (Calls prog 154 #[.string s,.string QcQ] w fun e w'=>w=w'∧e= .returned (.bool false)):=hid (by
  clear hs;generalize QcQ=q at*
  go_enter func154,ntmps154;go_wp2_with fail;go_ret;exact ⟨rfl,rfl⟩)
 clear hs hne he hn hn20 n5 n1 n2 n3 n4 h4;generalize QcQ=q at*
 go_enter func73,ntmps73;go_wp2_with fail;refine HS.out.mono ?_;rintro e w2 ⟨rfl,rfl⟩;go_wp2;go_ret;exact ⟨rfl,rfl⟩
theorem Qd3 (w:World):Calls prog 74 #[.string QS] w fun e w'=>w=w'∧e= .returned (.tuple #[.int .i64 0,.bool false]):=by
 have h9:=Qd5;generalize QS=s at*
 go_enter func74,ntmps74;go_wp2_with fail;go_ret2;exact ⟨rfl,rfl⟩
theorem QfG (w:World):Calls prog 74 #[.string QM] w fun e w'=>e= .returned (.tuple #[.int .i64 0,.bool true])∧Frm NoB w w':=by
 obtain ⟨c,y,hcv,hf,hc⟩: ∃c y,(convert 9 76 (.string QM)).run prog w= .ok (.slice (some ⟨w.heap.size,0,none⟩) 20 c) y∧Frm NoB w y∧∀i,i<20→y.cell? ⟨w.heap.size,i,none⟩=some (.int .u8 48):=by
  have h:=run_bytes_of_string (P:=prog) w 9 76 5 QM underlying9 underlying76 underlying5;rw [UT] at h;refine ⟨_,_,h,(Frm.refl NoB w).drew.alloc _,fun i hi=>?_⟩;have hb:=Qb w.drew (.cells (bytesRow QM (grownCap w 20 0 5)) 5 ((bytesRow QM (grownCap w 20 0 5)).size,(bytesRow QM (grownCap w 20 0 5)).size+1));refine (Qa hb).trans ?_;rw [bytesRow_at QM _ i (by rw [show QM.data.size=20 from UT];exact hi)];have: ∀k:Fin 20,QM.data[k.val]'(by rw [show QM.data.size=20 from UT];exact k.isLt)=48:=by decide+kernel
  rw [this ⟨i,hi⟩];rfl
 have HF:=hid hf;have HC:=hid hc;have hs:=UT;obtain ⟨b,hb⟩: ∃b,w.heap.size=b:=⟨_,rfl⟩;rw [hb] at hcv HC;generalize QM=s at*
 clear hf hc hb;go_enter func74,ntmps74;go_wp2_with fail;clear hcv;go_loopw [2,5,12] (fun t2 _ t12 wr=> ∃i:Nat,i≤20∧t2= .int .i64 0∧t12= .int .i64 i∧y=wr) (fun _ _ t12 _=>20-(intOf t12).toNat)
 case atStart=>exact ⟨0,by omega,rfl,rfl,rfl⟩
 case round=>
  obtain ⟨i,hi,rfl,rfl,rfl⟩:=hrel;have i0:(0:Int)≤(i:Int):=Qk _;have i2:(i:Int)≤20:=by omega
  by_cases hlt:i<20
  ·have i1:(i:Int)<20:=by omega
   have c0:y.cell? ⟨b,i,none⟩=some (.int .u8 48):=HC.out i hlt;go_wp2_with fail
   first
    | exact ⟨⟨i+1,hlt,by first | rfl | trivial,by go_num,by first | rfl | trivial⟩,by simp [intOf];omega⟩
    | (go_roundw
       case rel=>exact ⟨i+1,hlt,rfl,by go_num,rfl⟩
       case measure=>simp [intOf];omega)
  ·obtain rfl:i=20:=by omega
   go_wp2_with fail;go_ret2;exact ⟨rfl,HF.out⟩
theorem Qfv: ¬U8T (236:TypeId):=by decide
theorem Qbg: ¬U8T (211:TypeId):=by decide
def Qho (fb:Nat) (path:ByteArray) (base size:Int) (rows:Value):Array Value:= #[.pointer (some ⟨fb,0,none⟩),.string path,.int .i64 base,.int .i64 size,rows]
section
variable {w0:Gnd} {w:World} {rs:List Res} {X:Sys} {F:FH} {A:Path→Option Nd} {ι:Path→Nat}
theorem Qfn.empty {v:Value} (h:Qfn w0 w F X A ι rs v []): ∃a c,v= .slice a 0 c∧Fs w0 w F X A ι rs:=by
 rcases h with ⟨rfl,_,h⟩ | h
 ·exact ⟨none,0,rfl,h⟩
 ·obtain ⟨vb,vo,vc,rfl,_⟩:=(h.byt (i:=0) rfl).cells;exact ⟨_,_,rfl,h.drop 1⟩
theorem QiN (h:Fs w0 w F X A ι rs) (ns:Path) (h0:ns≠ []) (hns: ∀x∈ns,Qy x) (h8:ns.length≤8) (hp:A ns=some (.file [])):
 Calls prog 75 #[.pointer (some ⟨F.fb,0,none⟩),.string (Qd ns),.int .i64 0] w fun e w'=> ∃sb,e= .returned (.tuple #[.pointer (some ⟨sb,0,none⟩),.int .i64 0])∧Fs w0 w' F X A ι (arr sb (Qho F.fb (Qd ns) 0 0 (.slice none 0 0)) 236 Qfv::rs):=by
 have HR:=hid (QbL h ns h0 hns h8 hp 70656 (Nat.zero_le _) (by decide));clear h h0 hns h8 hp;generalize Qd ns=path at*
 go_enter func75,ntmps75;go_wp2_with fail;go_step3;go_wp2_with fail;refine (Qhm _).mono ?_;rintro e w1 ⟨rfl,rfl⟩;go_wp2_with fail;refine HR.out.mono ?_;clear HR;rintro e w2 ⟨v,rfl,hg⟩;obtain ⟨a,c,rfl,h2⟩:=hg.empty;have h3:=h2.newArr #[.pointer (some ⟨F.fb,0,none⟩),.string path,.int .i64 0,.int .i64 0,.slice none 0 0] 236 Qfv;have HB:=hid (Qb w2 (.cells #[.pointer (some ⟨F.fb,0,none⟩),.string path,.int .i64 0,.int .i64 0,.slice none 0 0] 236 (0,0)));obtain ⟨y3,hy3⟩: ∃y3,w2.alloc (.cells #[.pointer (some ⟨F.fb,0,none⟩),.string path,.int .i64 0,.int .i64 0,.slice none 0 0] 236 (0,0))=y3:=⟨_,rfl⟩;obtain ⟨sb,hsb⟩: ∃sb,w2.heap.size=sb:=⟨_,rfl⟩;rw [hy3,hsb] at h3;have c3:y3.cell? ⟨sb,3,none⟩=some (.int .i64 0):=(h3.arrCell (i:=0) rfl 3).trans rfl;have H3:=hid h3;have HY:=hid (And.intro hy3 hsb);clear h2 hg h3 hy3 hsb HB;go_upto_region 7 with fail
 rw [HY.out.1,HY.out.2];clear HY;go_step3;go_wp2_with fail;go_loopw [12,13] (fun _ _ wr=>y3=wr) (fun _ _ _=>0)
 case atStart=>rfl
 case round=>
  obtain rfl:=hrel;go_wp2_with fail;simp only [Exit.noGoto,Exit.inBlock,Exit.then];go_ret2;exact ⟨sb,rfl,H3.out⟩
theorem Fs.newMap (h:Fs w0 w F X A ι rs) {α:Type} (mk:α→Value) (ok:α→Prop):Fs w0 (w.alloc (.map #[] 0)) F X A ι (VE mk ok w.heap.size 0 (fun _=>none)::rs):=by
 obtain ⟨⟨n,l,ha,hl⟩,hr⟩:=h;exact ⟨⟨n,l,(ha.mapNew mk ok).perm ((List.Perm.swap _ _ _).trans ((List.Perm.swap _ _ _).cons _)),hl⟩,hr⟩
def Qhe (fb:Nat) (path:ByteArray) (mb:Nat):Array Value:= #[.pointer (some ⟨fb,0,none⟩),.string path,.map (some mb)]
theorem Qhc (h:Fs w0 w F X A ι rs) (ns:Path) (h0:ns≠ []) (hns: ∀x∈ns,Qy x) (h8:ns.length≤8) (hp:A ns=some (.file [])):
 Calls prog 61 #[.pointer (some ⟨F.fb,0,none⟩),.string (Qd ns)] w fun e w'=> ∃pb mb,e= .returned (.tuple #[.pointer (some ⟨pb,0,none⟩),.int .i64 0])∧Fs w0 w' F X A ι (arr pb (Qhe F.fb (Qd ns) mb) 211 Qbg::VE JX okI mb 0 (fun _=>none)::rs):=by
 have HR:=hid (QbL h ns h0 hns h8 hp 70656 (Nat.zero_le _) (by decide));clear h h0 hns h8 hp;generalize Qd ns=path at*
 have hmk: ∀W,(Instr.makeMap 209 none).run prog W= .ok (.map (some W.heap.size)) (W.alloc (.map #[] 0)):=fun W=>rfl
 go_enter func61,ntmps61;go_wp2_with fail;refine HR.out.mono ?_;clear HR;rintro e w2 ⟨v,rfl,hg⟩;obtain ⟨a,c,rfl,h2⟩:=hg.empty;have h3:=(h2.newMap JX okI).newArr #[.pointer (some ⟨F.fb,0,none⟩),.string path,.map (some w2.heap.size)] 211 Qbg;obtain ⟨y3,hy3⟩: ∃y3,(w2.alloc (.map #[] 0)).alloc (.cells #[.pointer (some ⟨F.fb,0,none⟩),.string path,.map (some w2.heap.size)] 211 (0,0))=y3:=⟨_,rfl⟩;have hsz:(w2.alloc (.map #[] 0)).heap.size=w2.heap.size+1:=size_alloc _ _;rw [hy3,hsz] at h3;have H3:=hid h3;have HY:=hid hy3;clear h2 hg h3 hy3 hsz;go_upto_region 7 with fail
 rw [HY.out];clear HY hmk;generalize w2.heap.size=mb at*
 go_wp2_with fail;go_loopw [11,14,42] (fun _ _ t42 wr=>t42= .int .i64 0∧y3=wr) (fun _ _ _ _=>0)
 case atStart=>exact ⟨rfl,rfl⟩
 case round=>
  obtain ⟨rfl,rfl⟩:=hrel;go_wp2_with fail;go_ret2;exact ⟨_,mb,rfl,H3.out⟩
theorem Od: ¬U8T (150:TypeId):=by decide
theorem QeL: ¬U8T (154:TypeId):=by decide
def QaQ (fb:Nat) (path:ByteArray) (p3 p4 p5:Int) (p6:Bool) (p7:Int) (l:Value):Array Value:= #[.pointer (some ⟨fb,0,none⟩),.string path,.int .i64 p3,.int .i64 p4,.int .i64 p5,.bool p6,.int .i64 p7,l]
theorem QgJ:(prog.info? 154).map (fun i=>(i.zero,i.size,i.bytes))=some (some (.pointer none),1,8):=by kernel_rfl
theorem QcZ:QD QM QS=true:=by decide+kernel
theorem QdT {A:Path→Option Nd} {p:Path} {ns:List ByteArray} (h:YK A p ns) (hs:A (p++ [QM])≠none) (hk: ∀s,A (p++ [s])≠none→s=QM∨s=QS):ns= [QM]∨ns= [QM,QS]:=by
 by_cases hp:A (p++ [QS])≠none
 ·refine .inr (h.uniq (fun s=>⟨fun hm=>?_,fun hA=>?_⟩) ?_)
  ·have:s=QM∨s=QS:=by simpa using hm
   rcases this with rfl | rfl
   ·exact hs
   ·exact hp
  ·rcases hk s hA with rfl | rfl<;>simp
  ·simp [QcZ]
 ·refine .inl (h.uniq (fun s=>⟨fun hm=>?_,fun hA=>?_⟩) ?_)
  ·obtain rfl:s=QM:=by simpa using hm
   exact hs
  ·rcases hk s hA with rfl | rfl
   ·simp
   ·exact absurd hA hp
  ·simp
def QcR (w0:Gnd) (w:World) (F:FH) (X:Sys) (A:Path→Option Nd) (ι:Path→Nat) (p:Path) (p3 p4 p5:Int) (p6:Bool) (p7:Int) (pb:Nat) (rs:List Res):Prop:=
 ∃sb g c,Fs w0 w F X A ι (arr pb (QaQ F.fb (Qd p) p3 p4 p5 p6 p7 (.slice (some ⟨g,0,none⟩) 1 c)) 150 Od::QW 154 QeL 1 (.slice (some ⟨g,0,none⟩) 1 c) 1 [.pointer (some ⟨sb,0,none⟩)]::arr sb (Qho F.fb (Qd (p++ [QM])) 0 0 (.slice none 0 0)) 236 Qfv::rs)
theorem Qio (h:Fs w0 w F X A ι rs) {p:Path} {m:Nat} (hp:A p=some (.dir m)) (h0:p≠ []) (hns: ∀x∈p,Qy x) (h8:p.length≤7) (hsz:(Qd p).size≤60) (hs:A (p++ [QM])=some (.file [])) (hk: ∀s,A (p++ [s])≠none→s=QM∨s=QS)
 (p3 p4 p5:Int) (p6:Bool) (p7:Int) (q1:512≤p3∧p3≤8192) (q2: -1≤p4∧p4≤1099511627776) (q3: -1≤p5∧p5≤1125899906842624) (q4:0≤p7∧p7≤1125899906842624):
 Calls prog 32 #[.pointer (some ⟨F.fb,0,none⟩),.string (Qd p),.agg (stz p3 p4 p5 p6 p7)] w fun e w'=> ∃pb,e= .returned (.tuple #[.pointer (some ⟨pb,0,none⟩),.int .i64 0])∧QcR w0 w' F X A ι p p3 p4 p5 p6 p7 pb rs:=by
 have h1:=h.newArr (stz p3 p4 p5 p6 p7) 29 Oi;obtain ⟨y0,hy0⟩: ∃y0,w.alloc (.cells (stz p3 p4 p5 p6 p7) 29 (0,0))=y0:=⟨_,rfl⟩;obtain ⟨bs,hbs⟩: ∃bs,w.heap.size=bs:=⟨_,rfl⟩;rw [hy0,hbs] at h1;have s0:y0.cell? ⟨bs,0,none⟩=some (.int .i64 p3):=(h1.arrCell (i:=0) rfl 0).trans rfl;have s1:y0.cell? ⟨bs,1,none⟩=some (.int .i64 p4):=(h1.arrCell (i:=0) rfl 1).trans rfl;have s2:y0.cell? ⟨bs,2,none⟩=some (.int .i64 p5):=(h1.arrCell (i:=0) rfl 2).trans rfl;have s3:y0.cell? ⟨bs,3,none⟩=some (.bool p6):=(h1.arrCell (i:=0) rfl 3).trans rfl;have s4:y0.cell? ⟨bs,4,none⟩=some (.int .i64 p7):=(h1.arrCell (i:=0) rfl 4).trans rfl;have HSET:=hid (VB y0 p3 p4 p5 p6 p7 q1 q2 q3 q4);have HL:=hid (fun (y:World) (rs':List Res) (hy:Fs w0 y F X A ι rs')=>QdN hy hp h0 hns (by omega));have hsne:p++ [QM]≠ []:=by simp
 have hsok: ∀x∈p++ [QM],Qy x:=fun x hx=>by
  rcases List.mem_append.1 hx with hx | hx
  ·exact hns x hx
  ·obtain rfl:x=QM:=by simpa using hx
   exact QbH
 have HO:=hid (fun (y:World) (rs':List Res) (hy:Fs w0 y F X A ι rs')=>QiN hy (p++ [QM]) hsne hsok (by rw [List.length_append];simp;omega) hs);have HNS:=hid (fun ns (hn:YK A p ns)=>QdT hn (by rw [hs];exact fun e=>by cases e) hk);have KP:Hid (∀W,Calls prog 76 #[.string (Qd p),.int .i64 0] W fun e w'=>e= .returned (.string (Qd (p++ [QM])))∧Frm NoB W w'):=hid fun W=>by
  have:=Qg4 W (Qd p) (by omega);have e:Qd p++⟨#[47]⟩++QM=Qd (p++ [QM]):=by
   have e1:(Qd p++⟨#[47]⟩++QM)=Qd p++(⟨#[47]⟩++QM):=ByteArray.append_assoc;rw [e1];exact YT p QM _ rfl
  rw [e] at this;exact this
 have H1:=hid h1;have HY:=hid (And.intro hy0 hbs);unfold QcR;clear h hp h0 hns h8 hsz hs hk q1 q2 q3 q4 h1 hy0 hbs hsne hsok;generalize Qd (p++ [QM])=spath at*
 generalize Qd p=path at*
 go_enter func32,ntmps32;go_upto_region 1 with fail
 rw [HY.out.1,HY.out.2];clear HY;go_wp2_with fail;refine HSET.out.mono ?_;clear HSET s0 s1 s2 s3 s4;rintro e w2 ⟨rfl,hf2⟩;have HLL:=hid (HL.out w2 _ (H1.out.frm hf2));clear hf2 H1 HL;go_wp2_with fail;refine HLL.out.mono ?_;clear HLL;rintro e w3 ⟨v,ns,rfl,hn,h3⟩;have s0:w3.cell? ⟨bs,0,none⟩=some (.int .i64 p3):=(h3.arrCell (i:=1) rfl 0).trans rfl;have s1:w3.cell? ⟨bs,1,none⟩=some (.int .i64 p4):=(h3.arrCell (i:=1) rfl 1).trans rfl;have s2:w3.cell? ⟨bs,2,none⟩=some (.int .i64 p5):=(h3.arrCell (i:=1) rfl 2).trans rfl;have s3:w3.cell? ⟨bs,3,none⟩=some (.bool p6):=(h3.arrCell (i:=1) rfl 3).trans rfl;have s4:w3.cell? ⟨bs,4,none⟩=some (.int .i64 p7):=(h3.arrCell (i:=1) rfl 4).trans rfl;have hnl:=HNS.out ns hn;have hpos:0<ns.length:=by rcases hnl with rfl | rfl<;>simp
 obtain ⟨a,c,rfl,hnc,hag⟩:=JP (h3.rowAt (i:=0) rfl);obtain ⟨g,rfl⟩:=hag hpos;have h4:Fs w0 (w3.alloc (.cells #[.pointer (some ⟨F.fb,0,none⟩),.string path,.int .i64 p3,.int .i64 p4,.int .i64 p5,.bool p6,.int .i64 p7,.slice none 0 0] 150 (0,0))) F X A ι (arr w3.heap.size (QaQ F.fb path p3 p4 p5 p6 p7 (.slice none 0 0)) 150 Od::QW 9 QZ 1 (.slice (some ⟨g,0,none⟩) ns.length c) ns.length (ns.map .string)::arr bs (stz p3 p4 p5 p6 p7) 29 Oi::rs):=h3.newArr (QaQ F.fb path p3 p4 p5 p6 p7 (.slice none 0 0)) 150 Od;obtain ⟨y4,hy4⟩: ∃y4,w3.alloc (.cells #[.pointer (some ⟨F.fb,0,none⟩),.string path,.int .i64 p3,.int .i64 p4,.int .i64 p5,.bool p6,.int .i64 p7,.slice none 0 0] 150 (0,0))=y4:=⟨_,rfl⟩;obtain ⟨pb,hpb⟩: ∃pb,w3.heap.size=pb:=⟨_,rfl⟩;rw [hy4,hpb] at h4;have H4:=hid h4;have HY:=hid (And.intro hy4 hpb);have HN:=hid (And.intro hnl (And.intro hnc hpos));have n0:(0:Int)≤(ns.length:Int):=Qk _;have n2:(ns.length:Int)≤2:=by rcases hnl with rfl | rfl<;>simp
 have nc:(ns.length:Int)≤(c:Int):=by omega
 clear hn h3 hnl hnc hpos hag h4 hy4 hpb HNS;go_upto_region 7 with fail
 rw [HY.out.1,HY.out.2];clear HY s0 s1 s2 s3 s4;go_wp2_with fail;go_loopw [12,13,14,15,16,17,37] (fun _ _ _ _ _ _ t37 wr=> ∃i:Nat,t37= .int .i64 i∧i≤ns.length∧((i=0∧Hid (Fs w0 wr F X A ι (arr pb (QaQ F.fb path p3 p4 p5 p6 p7 (.slice none 0 0)) 150 Od::QW 9 QZ 1 (.slice (some ⟨g,0,none⟩) ns.length c) ns.length (ns.map .string)::arr bs (stz p3 p4 p5 p6 p7) 29 Oi::rs)))∨(1≤i∧Hid (∃sb g' c',Fs w0 wr F X A ι (arr pb (QaQ F.fb path p3 p4 p5 p6 p7 (.slice (some ⟨g',0,none⟩) 1 c')) 150 Od::QW 154 QeL 1 (.slice (some ⟨g',0,none⟩) 1 c') 1 [.pointer (some ⟨sb,0,none⟩)]::arr sb (Qho F.fb spath 0 0 (.slice none 0 0)) 236 Qfv::QW 9 QZ 1 (.slice (some ⟨g,0,none⟩) ns.length c) ns.length (ns.map .string)::arr bs (stz p3 p4 p5 p6 p7) 29 Oi::rs))))) (fun _ _ _ _ _ _ t37 _=>ns.length-(intOf t37).toNat)
 case atStart=>exact ⟨0,rfl,Nat.zero_le _,.inl ⟨rfl,H4⟩⟩
 case round=>
  clear H4;obtain ⟨i,rfl,hi,hst⟩:=hrel;have i0:(0:Int)≤(i:Int):=Qk _;rcases hst with ⟨rfl,H⟩ | ⟨h1i,HE⟩
  ·have hcell:ns[0]?=some QM:=by rcases HN.out.1 with e | e<;>rw [e]<;>rfl
   have k0:wr.cell? ⟨g,0,none⟩=some (.string QM):=YV (H.out.rowAt (i:=1) rfl) (by rw [List.getElem?_map,hcell];rfl);have i1:(0:Int)<(ns.length:Int):=by have:=HN.out.2.2;omega
   have HS:=hid (Qjs wr QM (.inl rfl));have HBA:=hid (QfG wr);have HL1:=hid (show 0+1≤ns.length from HN.out.2.2);clear hcell;generalize QM=sg at*
   unfold QcQ at HS;go_wp2_with fail;refine HS.out.mono ?_;clear HS;rintro e w5 ⟨rfl,rfl⟩;go_wp2_with fail;refine HBA.out.mono ?_;clear HBA k0;rintro e w6 ⟨rfl,hf6⟩;have HP6:=hid (KP.out w6);have H6:=hid (H.out.frm hf6);clear hf6 H KP;go_wp2_with fail;refine HP6.out.mono ?_;clear HP6;rintro e w7 ⟨rfl,hf7⟩;have HO7:=hid (HO.out w7 _ (H6.out.frm hf7));clear hf7 H6 HO;go_wp2_with fail;refine HO7.out.mono ?_;clear HO7;rintro e w8 ⟨sb,rfl,h8⟩;have c7:w8.cell? ⟨pb,7,none⟩=some (.slice none 0 0):=(h8.arrCell (i:=1) rfl 7).trans rfl;have h9:=h8.rowNil 154 QeL 1;have HOW:=hid (World.ownsRow.alloc (h9.rowAt (i:=0) rfl) (.cells #[.pointer (some ⟨sb,0,none⟩)] 154 (0,0)));have HNEW:=hid (EV w8 (.pointer (some ⟨sb,0,none⟩)) 154);have H9:=hid h9;obtain ⟨ii,hi0i,hz0,hz1,hz2⟩:=info_parts QgJ;clear h8 h9;go_wp2_with (at_builtin;refine wpList_append_own_at _ rfl _ _ 148 rfl 0 154 ii (.pointer none) 1 8 underlying148 hi0i hz0 hz1 hz2 rfl (by decide) _ _ _ rfl HOW.out ⟨w8.heap.size,0,none⟩ 1 1 [.pointer (some ⟨sb,0,none⟩)] rfl rfl HNEW.out ?qa0 ?qa1 ?qa2 ?qa3 ?_)
   case qa0=>first | exact ⟨rfl,rfl⟩ | (intro x hx;simp at hx;rcases hx with rfl;rfl)
   case qa1=>decide
   case qa2=>decide
   try case qa3=>omega
   intro v' w10 ho hg2 hnn hat;have h11:=H9.out.rowAppend 0 rfl (.cells #[.pointer (some ⟨sb,0,none⟩)] 154 (0,0)) (m:=0+1) (ys:= [.pointer (some ⟨sb,0,none⟩)]) ho hg2 (by rw [size_alloc];exact hat);obtain ⟨a',c',rfl,-,hag'⟩:=JP ho;obtain ⟨g',rfl⟩:=hag' (by decide);have c8:w10.cell? ⟨pb,7,none⟩=some (.slice none 0 0):=(h11.arrCell (i:=2) rfl 7).trans rfl;have f8:w10.frozen? ⟨pb,7,none⟩=false:=Qf (h11.block (i:=2) rfl);have h12:=h11.setArr 2 rfl 7 (.slice (some ⟨g',0,none⟩) 1 c');have H12:=hid (h12.perm2 (((List.Perm.swap _ _ _).cons _).trans ((List.Perm.swap _ _ _))));clear ho hg2 hnn hat h11 h12 HOW HNEW H9 c7 hag';go_wp2
   first
    | exact ⟨⟨1,rfl,HL1.out,.inr ⟨Nat.le_refl _,hid ⟨sb,g',c',H12.out⟩⟩⟩,by have:=HL1.out;simp [intOf];omega⟩
    | (go_roundw
       case rel=>exact ⟨1,rfl,HL1.out,.inr ⟨Nat.le_refl _,hid ⟨sb,g',c',H12.out⟩⟩⟩
       case measure=>have:=HL1.out;simp [intOf];omega)
  ·obtain ⟨sb,g',c',h⟩:=HE.out;by_cases hlt:i<ns.length
   ·have i1:(i:Int)<(ns.length:Int):=by omega
    have hcell:ns[i]?=some QS:=by
     rcases HN.out.1 with e | e
     ·rw [e] at hlt;simp at hlt;omega
     ·rw [e] at hlt;obtain rfl:i=1:=by simp at hlt;omega
      rw [e];rfl
    have k0:wr.cell? ⟨g,i,none⟩=some (.string QS):=YV (h.rowAt (i:=3) rfl) (by rw [List.getElem?_map,hcell];rfl);have HS:=hid (Qjs wr QS (.inr rfl));have HBA:=hid (Qd3 wr);clear hcell h;generalize QS=sg at*
    unfold QcQ at HS;go_wp2_with fail;refine HS.out.mono ?_;clear HS;rintro e w5 ⟨rfl,rfl⟩;go_wp2_with fail;refine HBA.out.mono ?_;clear HBA k0;rintro e w6 ⟨rfl,rfl⟩;go_wp2
    first
     | exact ⟨⟨i+1,by go_num,hlt,.inr ⟨by omega,HE⟩⟩,by simp [intOf];omega⟩
     | (go_roundw
        case rel=>exact ⟨i+1,by go_num,hlt,.inr ⟨by omega,HE⟩⟩
        case measure=>simp [intOf];omega)
   ·obtain rfl:i=ns.length:=by omega
    have c7:wr.cell? ⟨pb,7,none⟩=some (.slice (some ⟨g',0,none⟩) 1 c'):=(h.arrCell (i:=0) rfl 7).trans rfl;have H:=hid (h.sub (rs':=arr pb (QaQ F.fb path p3 p4 p5 p6 p7 (.slice (some ⟨g',0,none⟩) 1 c')) 150 Od::QW 154 QeL 1 (.slice (some ⟨g',0,none⟩) 1 c') 1 [.pointer (some ⟨sb,0,none⟩)]::arr sb (Qho F.fb spath 0 0 (.slice none 0 0)) 236 Qfv::rs) ((((List.sublist_append_right [_,_] rs).cons_cons _).cons_cons _).cons_cons _));clear h HE;go_wp2_with fail;go_ret2;exact ⟨pb,rfl,sb,g',c',H.out⟩
theorem QhA (h:Fs w0 w F X A ι rs) {i sb:Nat} {path:ByteArray} {b:Int} (hr:rs[i]?=some (arr sb (Qho F.fb path b 0 (.slice none 0 0)) 236 Qfv)):
 Calls prog 86 #[.pointer (some ⟨sb,0,none⟩)] w fun e w'=>w=w'∧e= .returned (.int .i64 b):=by
 have c2:w.cell? ⟨sb,2,none⟩=some (.int .i64 b):=(h.arrCell hr 2).trans rfl;have c4:w.cell? ⟨sb,4,none⟩=some (.slice none 0 0):=(h.arrCell hr 4).trans rfl;have HB:Hid (Calls prog 170 #[.pointer (some ⟨sb,0,none⟩)] w fun e w'=>w=w'∧e= .returned (.int .i64 b)):=hid (by
  clear h hr c4;go_enter func170,ntmps170;go_wp2_with fail;go_ret;exact ⟨rfl,rfl⟩)
 clear h hr;go_enter func86,ntmps86;go_wp2_with fail;refine HB.out.mono ?_;rintro e w2 ⟨rfl,rfl⟩;go_wp2;go_ret;exact ⟨rfl,rfl⟩
theorem Qin {p:Path} {p3 p4 p5:Int} {p6:Bool} {p7:Int} {pb:Nat} (h:QcR w0 w F X A ι p p3 p4 p5 p6 p7 pb rs):
 Calls prog 34 #[.pointer (some ⟨pb,0,none⟩)] w fun e w'=>e= .returned (.int .i64 0)∧Frm NoB w w':=by
 obtain ⟨sb,g,c,h⟩:=h;have c0:w.cell? ⟨pb,0,none⟩=some (.pointer (some ⟨F.fb,0,none⟩)):=(h.arrCell (i:=0) rfl 0).trans rfl;have c7:w.cell? ⟨pb,7,none⟩=some (.slice (some ⟨g,0,none⟩) 1 c):=(h.arrCell (i:=0) rfl 7).trans rfl;have d0:w.cell? ⟨g,0,none⟩=some (.pointer (some ⟨sb,0,none⟩)):=YV (h.rowAt (i:=1) rfl) rfl;have hc:1≤c:=by
  obtain ⟨a',c',e,hh,-⟩:=JP (h.rowAt (i:=1) rfl);injection e with e1 e2 e3
  omega
 have hc1:(1:Int)≤(c:Int):=by omega
 have HR:Hid (Calls prog 77 #[.pointer (some ⟨pb,0,none⟩)] w fun e w'=>w=w'∧e= .returned (.bool true)):=hid (by
  clear h hc d0;go_enter func77,ntmps77;go_wp2_with fail;go_ret;exact ⟨rfl,rfl⟩)
 have HA:Hid (Calls prog 82 #[.pointer (some ⟨pb,0,none⟩)] w fun e w'=>(∃n,w'=w.drewN n)∧e= .returned (.pointer (some ⟨sb,0,none⟩))):=hid (by
  clear h hc c0;go_enter func82,ntmps82;go_wp2_with fail;go_quiet (fail);go_wp2;go_ret;exact ⟨⟨_,rfl⟩,rfl⟩)
 have HH:=hid h;clear h hc c0 c7 d0;go_enter func34,ntmps34;go_wp2_with fail;refine HR.out.mono ?_;rintro e w2 ⟨rfl,rfl⟩;go_wp2_with fail;refine HA.out.mono ?_;rintro e w2 ⟨⟨n,rfl⟩,rfl⟩;have HN:=hid (QhA (HH.out.frm ((Frm.refl NoB w).drewN n)) (i:=2) rfl);go_wp2_with fail;refine HN.out.mono ?_;rintro e w3 ⟨rfl,rfl⟩;go_wp2;go_ret;exact ⟨rfl,(Frm.refl NoB w).drewN n⟩
theorem QiD (h:Fs w0 w F X A ι rs) {i pb mb:Nat} {path:ByteArray} (hr:rs[i]?=some (arr pb (Qhe F.fb path mb) 211 Qbg)) (hm:Qn JX okI w mb 0 (fun _=>none)):
 Calls prog 62 #[.pointer (some ⟨pb,0,none⟩)] w fun e w'=>w=w'∧e= .returned (.int .i64 0):=by
 have c2:w.cell? ⟨pb,2,none⟩=some (.map (some mb)):=(h.arrCell hr 2).trans rfl;have hl:=fun ty=>hm.len underlying209 ty w rfl
 clear h hr hm;go_enter func62,ntmps62;go_wp2_with fail;go_ret;exact ⟨rfl,rfl⟩
def Vg (mb c:Nat) (a:Option Addr) (L:List Tp) (next:Int):Res where
 M:=fun x=>x=mb∨UU a x
 inv:=fun _ w=>Ya w mb a c L next
 lt:=fun _ w H x hx=>by
  rcases hx with rfl | hx
  ·exact lt_of_block H.cat
  ·exact (H.away x hx).1
 dry:=fun _ w H x hx c' e=>by
  rcases hx with rfl | ⟨p,rfl,rfl⟩
  ·exact Yf H.cat neRC _ e
  ·rcases H.row.2 with ⟨e2,_⟩ | ⟨g,cap,cur,e2,_,hg,_⟩
   ·cases e2
   ·injection e2 with e3 _ _
    injection e3 with e3
    subst e3;exact Yf hg Qj4 _ e
 keep:=fun _ w w' N H hf _ ha=>⟨(hf.block mb (lt_of_block H.cat) (ha mb (.inl rfl))).trans H.cat,Js H.row fun g hg=>hf.block g (H.away g (OW hg)).1 (ha g (.inr (OW hg)))⟩
 zone:=fun _ _ _ H _ _=>H
end
section
variable {w0:Gnd} {w:World} {rs:List Res} {fb cb next used ops:Nat} {L:List Tp}
theorem QC.st (h:QC w0 w fb cb next used ops L rs):St w0 w rs:=by
 obtain ⟨F,X,A,ι,mb,n,D,h1,⟨⟨k,l,ha,-⟩,-⟩,h3,h4⟩:=h;exact ha.1.drop 5
theorem QC.frm (h:QC w0 w fb cb next used ops L rs) {w':World} (hf:Frm NoB w w'):QC w0 w' fb cb next used ops L rs:=by
 obtain ⟨F,X,A,ι,mb,n,D,rfl,h',hc,hr⟩:=h;exact ⟨F,X,A,ι,mb,n,D,rfl,h'.frm hf,hc,hr⟩
theorem QC.perm (h:QC w0 w fb cb next used ops L rs) {rs':List Res} (hp:rs.Perm rs'):QC w0 w fb cb next used ops L rs':=by
 obtain ⟨F,X,A,ι,mb,n,D,rfl,h',hc,hr⟩:=h;exact ⟨F,X,A,ι,mb,n,D,rfl,h'.perm2 ((hp.cons _).cons _),hc,hr⟩
theorem QC.sub (h:QC w0 w fb cb next used ops L rs) {rs':List Res} (hs:rs'.Sublist rs):QC w0 w fb cb next used ops L rs':=by
 obtain ⟨F,X,A,ι,mb,n,D,rfl,h',hc,hr⟩:=h;exact ⟨F,X,A,ι,mb,n,D,rfl,h'.sub ((hs.cons_cons _).cons_cons _),hc,hr⟩
theorem QC.mk (h:QC w0 w fb cb next used ops L rs) {w':World} (hf:Frm NoB w w') (r:Res) (hi:r.inv w0.Z w') (hn: ∀x,r.M x→w.heap.size≤x):QC w0 w' fb cb next used ops L (r::rs):=by
 obtain ⟨F,X,A,ι,mb,n,D,rfl,⟨⟨k,l,ha,hl⟩,hp⟩,hc,hr⟩:=h;exact ⟨F,X,A,ι,mb,n,D,rfl,⟨⟨k,l,⟨(ha.1.make hf r hi hn).perm (List.perm_middle (l₁:= [_,_,_,_,_])).symm,ha.2⟩,hl⟩,hp⟩,hc,hr⟩
theorem QC.mkArr (h:QC w0 w fb cb next used ops L rs) {w':World} (hf:Frm NoB w w') {b:Nat} {c:Array Value} {t:TypeId} (ht: ¬U8T t) (hb:w'.heap[b]?=some (.cells c t (0,0))) (hn:w.heap.size≤b):QC w0 w' fb cb next used ops L (arr b c t ht::rs):=
 h.mk hf (arr b c t ht) hb fun x hx=>by obtain rfl:x=b:=hx;exact hn
theorem QC.mkRow (h:QC w0 w fb cb next used ops L rs) {w':World} (hf:Frm NoB w w') {t:TypeId} {ht: ¬U8T t} {s:Nat} {v:Value} {n:Nat} {xs:List Value} (hr:w'.ownsRow w.heap.size t s v n xs):QC w0 w' fb cb next used ops L (QW t ht s v n xs::rs):=
 h.mk hf (QW t ht s v n xs) (V0 hr (Nat.zero_le _)) fun x hx=>by
  rcases hr.2 with ⟨rfl,_⟩ | ⟨g,cap,cur,rfl,h2,_⟩
  ·cases hx
  ·have hx:(Value.slice (some ⟨g,0,none⟩) n cap).ownBlock=some x:=hx;obtain rfl:g=x:=by simpa [Value.ownBlock] using hx
   exact h2
theorem QC.write {r:Res} (h:QC w0 w fb cb next used ops L (r::rs)) {w':World} (hf:Frm r.M w w') (r':Res) (hi:r'.inv w0.Z w') (hM: ∀x,r'.M x→r.M x∨w.heap.size≤x):QC w0 w' fb cb next used ops L (r'::rs):=by
 obtain ⟨F,X,A,ι,mb,n,D,rfl,⟨⟨k,l,ha,hl⟩,hp⟩,hc,hr⟩:=h;exact ⟨F,X,A,ι,mb,n,D,rfl,⟨⟨k,l,⟨ha.1.write 5 rfl hf r' hi hM,ha.2⟩,hl⟩,hp⟩,hc,hr⟩
theorem QC.ref (h:QC w0 w fb cb next used ops L rs) {i mb c:Nat} {a:Option Addr} {M:List Tp} {nx:Int} (hr:rs[i]?=some (Vg mb c a M nx)):Ya w mb a c M nx:=h.st.get hr
theorem QC.row (h:QC w0 w fb cb next used ops L rs) {i:Nat} {t:TypeId} {ht: ¬U8T t} {s:Nat} {v:Value} {n:Nat} {xs:List Value} (hr:rs[i]?=some (QW t ht s v n xs)):w.ownsRow 0 t s v n xs:=h.st.get hr
theorem QC.arrCell (h:QC w0 w fb cb next used ops L rs) {i b:Nat} {c:Array Value} {t:TypeId} {ht: ¬U8T t} (hr:rs[i]?=some (arr b c t ht)) (j:Nat):w.cell? ⟨b,j,none⟩=c[j]?:=h.st.arrCell hr j
theorem QhV (h:QC w0 w fb cb next used ops L rs):
 Calls prog 14 #[.pointer (some ⟨cb,0,none⟩)] w fun e w'=> ∃v,e= .returned v∧QC w0 w' fb cb next used ops L (QW 31 Jd 8 v L.length (QI L)::rs):=by
 have h':=h;obtain ⟨F,X,A,ι,mb,n,D,rfl,hf,hc,hr⟩:=h';refine (QjE hf (i:=0) (j:=1) rfl rfl hr.cat hr.few).mono ?_;rintro e w' ⟨v,he,hv,hf'⟩;exact ⟨v,he,h.mkRow hf' hv⟩
theorem QjQ (h:QC w0 w fb cb next used ops L rs) (id p:Nat) (hiD:id<100) (hp:p<10) (nm:ByteArray) (p2 p3 p4 p5:Int) (p6:Bool) (p7:Int):
 Calls prog 24 #[.pointer (some ⟨cb,0,none⟩),.agg (tpz nm id p2 p3 p4 p5 p6 p7),.int .i64 p] w fun e w'=>e= .returned (.string (Qd [cN,Qe id p]))∧QC w0 w' fb cb next used ops L rs:=by
 obtain ⟨F,X,A,ι,mb,n,D,rfl,hf,hc,hr⟩:=h;refine (Qf7 hf (i:=0) rfl id p hiD hp nm p2 p3 p4 p5 p6 p7).mono ?_;rintro e w' ⟨he,hf'⟩;exact ⟨he,F,X,A,ι,mb,n,D,rfl,hf',hc,hr⟩
theorem QhW (h:QC w0 w fb cb next used ops L rs):
 Calls prog 21 #[.pointer (some ⟨fb,0,none⟩),.string (Qd [cN])] w fun e w'=> ∃cb',e= .returned (.tuple #[.pointer (some ⟨cb',0,none⟩),.int .i64 0])∧QC w0 w' fb cb' next used ops L rs:=by
 obtain ⟨F,X,A,ι,mb,n,D,rfl,hf,hc,hr⟩:=h;refine (Qgb hf hr.tree hr.root hr.cat hr.few hr.num).mono ?_;rintro e w' ⟨cb',mb',he,h'⟩;exact ⟨cb',he,F,X,A,ι,mb',n,D,rfl,h'.sub ((((List.sublist_append_right [_,_] rs).cons_cons _).cons_cons _)),hc,hr⟩
theorem Qcd (h:QC w0 w fb cb next used ops L rs) {nm:ByteArray} (hn:nm.size≤300) (P p3 p4 p5:Int) (p6:Bool) (p7:Int) (hbad:nmB nm=false∨P<1∨8<P∨¬(512≤p3∧p3≤8192∧ -1≤p4∧p4≤1099511627776∧ -1≤p5∧p5≤1125899906842624∧0≤p7∧p7≤1125899906842624)):
 Calls prog 11 #[.pointer (some ⟨cb,0,none⟩),.string nm,.int .i64 P,.agg (stz p3 p4 p5 p6 p7)] w fun e w'=>e= .returned (.tuple #[.agg (tp0),.int .i64 1])∧QC w0 w' fb cb next used ops L rs:=by
 obtain ⟨F,X,A,ι,mb,n,D,rfl,hf,hc,hr⟩:=h;have hN:=Qaz nm hn;have key:Calls prog 11 #[.pointer (some ⟨cb,0,none⟩),.string nm,.int .i64 P,.agg (stz p3 p4 p5 p6 p7)] w fun e w'=>e= .returned (.tuple #[.agg (tp0),.int .i64 1])∧Fs w0 w' F X A ι (Je cb F.fb next mb::Q8 mb L::rs):=by
  by_cases k:nmB nm=false∨P<1∨8<P
  ·exact Qb3 hf (i:=0) rfl hN P k p3 p4 p5 p6 p7
  ·have k':nmB nm=true:=by cases h:nmB nm with | true=>rfl | false=>exact absurd (.inl h) k
   rw [k'] at hN;refine Qb8 hf (i:=0) rfl hN P (by omega) (by omega) p3 p4 p5 p6 p7 ?_;rcases hbad with e | e | e | e
   ·exact absurd (.inl e) k
   ·exact absurd (.inr (.inl e)) k
   ·exact absurd (.inr (.inr e)) k
   ·exact e
 refine key.mono ?_;rintro e w' ⟨he,h'⟩;exact ⟨he,F,X,A,ι,mb,n,D,rfl,h',hc,hr⟩
def Qeq (w0:Gnd) (w:World) (fb cb next used ops:Nat) (L:List Tp) (id p:Nat) (p3 p4 p5:Int) (p6:Bool) (p7:Int) (pb:Nat) (rs:List Res):Prop:=
 ∃F X A ι mb n D,F.fb=fb∧QcR w0 w F X A ι [cN,Qe id p] p3 p4 p5 p6 p7 pb (Je cb fb next mb::Q8 mb L::rs)∧Calm F X∧YN X A next used ops n L D∧Qdc A (Qe id p)
def VV (w0:Gnd) (w:World) (fb cb next used ops:Nat) (L:List Tp) (id p:Nat) (p3 p4 p5:Int) (p6:Bool) (p7:Int) (pb qb:Nat) (rs:List Res):Prop:=
 ∃F X A ι mb n D qm,F.fb=fb∧QcR w0 w F X A ι [cN,Qe id p] p3 p4 p5 p6 p7 pb (arr qb (Qhe F.fb (Qd [cN,Qe id p,QS]) qm) 211 Qbg::VE JX okI qm 0 (fun _=>none)::Je cb fb next mb::Q8 mb L::rs)∧Calm F X∧YN X A next used ops n L D
end
section
variable {w0:Gnd} {w:World} {rs:List Res} {fb cb next used ops:Nat} {L:List Tp}
variable {id p:Nat} {p3 p4 p5:Int} {p6:Bool} {p7:Int} {pb qb:Nat}
theorem Qcg (h:QC w0 w fb cb next used ops L rs) (hn:next≤100) {t:Tp} (ht:t∈L) (hs:Oy p3 p4 p5 p7) (hiD:t.id=id) (hp:(p:Int)<t.parts):
 Calls prog 32 #[.pointer (some ⟨fb,0,none⟩),.string (Qd [cN,Qe id p]),.agg (stz p3 p4 p5 p6 p7)] w fun e w'=> ∃pb,e= .returned (.tuple #[.pointer (some ⟨pb,0,none⟩),.int .i64 0])∧Qeq w0 w' fb cb next used ops L id p p3 p4 p5 p6 p7 pb rs:=by
 obtain ⟨F,X,A,ι,mb,n,D,rfl,hf,hc,hr⟩:=h;obtain ⟨id',P,q1,q2,q3,q4,q5,q6⟩:=hr.top t ht;obtain rfl:id=id':=by omega
 obtain ⟨q7,hd⟩:=q6 p (by omega);obtain ⟨m,hm⟩:=hd.dir;refine (Qio hf (p:= [cN,Qe id p]) hm (by simp) (fun x hx=>?_) (by simp) (US (by omega) (by omega)) hd.seg (fun s hs=>(hr.two id p s hs).1) p3 p4 p5 p6 p7 hs.h1 hs.h2 hs.h3 hs.h4).mono ?_
 ·simp only [List.mem_cons,List.not_mem_nil,or_false] at hx;rcases hx with rfl | rfl
  ·exact Y2
  ·exact VJ (by omega) (by omega)
 ·rintro e w' ⟨pb,he,hp⟩;exact ⟨pb,he,F,X,A,ι,mb,n,D,rfl,hp,hc,hr,hd⟩
theorem Qco (h:Qeq w0 w fb cb next used ops L id p p3 p4 p5 p6 p7 pb rs) (hiD:id<100) (hp:p<10):
 Calls prog 61 #[.pointer (some ⟨fb,0,none⟩),.string (Qd [cN,Qe id p,QS])] w fun e w'=> ∃qb,e= .returned (.tuple #[.pointer (some ⟨qb,0,none⟩),.int .i64 0])∧VV w0 w' fb cb next used ops L id p p3 p4 p5 p6 p7 pb qb rs:=by
 obtain ⟨F,X,A,ι,mb,n,D,rfl,⟨sb,g,c,hf⟩,hc,hr,hd⟩:=h;refine (Qhc hf [cN,Qe id p,QS] (by simp) (fun x hx=>?_) (by simp) hd.prod).mono ?_
 ·simp only [List.mem_cons,List.not_mem_nil,or_false] at hx;rcases hx with rfl | rfl | rfl
  ·exact Y2
  ·exact VJ hiD hp
  ·exact ED
 ·rintro e w' ⟨qb,qm,he,h'⟩;exact ⟨qb,he,F,X,A,ι,mb,n,D,qm,rfl,⟨sb,g,c,h'.perm2 ((List.perm_append_comm (l₁:= [_,_]) (l₂:= [_,_,_])).append_right _)⟩,hc,hr⟩
theorem VV.frm (h:VV w0 w fb cb next used ops L id p p3 p4 p5 p6 p7 pb qb rs) {w':World} (hf:Frm NoB w w'):VV w0 w' fb cb next used ops L id p p3 p4 p5 p6 p7 pb qb rs:=by
 obtain ⟨F,X,A,ι,mb,n,D,qm,rfl,⟨sb,g,c,h'⟩,hc,hr⟩:=h;exact ⟨F,X,A,ι,mb,n,D,qm,rfl,⟨sb,g,c,h'.frm hf⟩,hc,hr⟩
theorem VV.cat (h:VV w0 w fb cb next used ops L id p p3 p4 p5 p6 p7 pb qb rs):QC w0 w fb cb next used ops L rs:=by
 obtain ⟨F,X,A,ι,mb,n,D,qm,rfl,⟨sb,g,c,h'⟩,hc,hr⟩:=h;exact ⟨F,X,A,ι,mb,n,D,rfl,h'.drop 5,hc,hr⟩
theorem Qkg (h:VV w0 w fb cb next used ops L id p p3 p4 p5 p6 p7 pb qb rs) (hiD:id<100) (hp:p<10) (nm:ByteArray) (y2 y3 y4 y5:Int) (y6:Bool) (y7:Int):
 Calls prog 24 #[.pointer (some ⟨cb,0,none⟩),.agg (tpz nm id y2 y3 y4 y5 y6 y7),.int .i64 p] w fun e w'=>e= .returned (.string (Qd [cN,Qe id p]))∧VV w0 w' fb cb next used ops L id p p3 p4 p5 p6 p7 pb qb rs:=by
 obtain ⟨F,X,A,ι,mb,n,D,qm,rfl,⟨sb,g,c,hf⟩,hc,hr⟩:=h;refine (Qf7 hf (i:=5) rfl id p hiD hp nm y2 y3 y4 y5 y6 y7).mono ?_;rintro e w' ⟨he,hf'⟩;exact ⟨he,F,X,A,ι,mb,n,D,qm,rfl,⟨sb,g,c,hf'⟩,hc,hr⟩
theorem QiH (h:VV w0 w fb cb next used ops L id p p3 p4 p5 p6 p7 pb qb rs):
 Calls prog 34 #[.pointer (some ⟨pb,0,none⟩)] w fun e w'=>e= .returned (.int .i64 0)∧VV w0 w' fb cb next used ops L id p p3 p4 p5 p6 p7 pb qb rs:=by
 have h2:=h;obtain ⟨F,X,A,ι,mb,n,D,qm,rfl,hp,hc,hr⟩:=h2;refine (Qin hp).mono ?_;rintro e w' ⟨he,hf⟩;exact ⟨he,h.frm hf⟩
theorem Qkh (h:VV w0 w fb cb next used ops L id p p3 p4 p5 p6 p7 pb qb rs):
 Calls prog 62 #[.pointer (some ⟨qb,0,none⟩)] w fun e w'=>w=w'∧e= .returned (.int .i64 0):=by
 obtain ⟨F,X,A,ι,mb,n,D,qm,rfl,⟨sb,g,c,hf⟩,hc,hr⟩:=h;refine QiD hf (i:=3) rfl (mb:=qm) ?_;obtain ⟨⟨k,l,ha,hl⟩,_⟩:=hf;exact ha.mapAt (i:=6) rfl
end
def OkT (t:Tp):Prop:=nmB t.nm=true∧Oy t.seg t.byt t.age t.delay
theorem QeS {nm:ByteArray} (h:nmB nm=true):nm.size≤50:=by
 unfold nmB at h;simp only [Bool.and_eq_true,decide_eq_true_eq] at h;omega
theorem Ec {nm:ByteArray} {b:Bool} (hs:nm.size≤300) (h:nmB nm=b):Yt nm b:=by
 have:=Qaz nm hs;rw [h] at this;exact this
def cost (P:Int):Int:=if 0<P then min P 9 else 0
section
variable {w0:Gnd} {fb cb next used ops mb c:Nat} {a:Option Addr} {L:List Tp}
theorem EG {w:World} {rs:List Res} (h:QC w0 w fb cb next used ops L (Vg mb c a L next::rs)) (h20:L.length≤20) {nm:ByteArray} (hno: ∀t∈L,t.nm≠nm):
 Calls prog 26 #[.pointer (some ⟨mb,0,none⟩),.string nm] w fun e w'=>e= .returned (.int .i64 4)∧∃a' c',QC w0 w' fb cb next used ops L (Vg mb c' a' L next::rs):=by
 refine (QcT w mb c a L next (h.ref (i:=0) rfl) (by omega) nm).mono ?_;rintro e w' (⟨-,he,hf⟩ | ⟨i,t,ht,hnm,-⟩)
 ·exact ⟨he,a,c,h.frm hf⟩
 ·exact absurd hnm (hno t (List.mem_of_getElem? ht))
theorem Qb2 (hL:Q9 L) (h20:L.length≤20) (hok: ∀t∈L,OkT t) (hn:next≤100) (ho:ops≤1000) (nm:ByteArray) (hs:nm.size≤300):
 ∃(E:Int) (ops':Nat) (L':List Tp),(0≤E∧E≤9)∧ops'≤ops+1∧(∀t∈L',OkT t)∧
   (∀w rs,QC w0 w fb cb next used ops L (Vg mb c a L next::rs)→Calls prog 15 #[.pointer (some ⟨cb,0,none⟩),.string nm] w fun e w'=>e= .returned (.int .i64 E)∧QC w0 w' fb cb next used ops' L' (Vg mb c a L next::rs))∧
   (∀w rs,QC w0 w fb cb next used ops' L' (Vg mb c a L next::rs)→Calls prog 26 #[.pointer (some ⟨mb,0,none⟩),.string nm] w fun e w'=>e= .returned (.int .i64 E)∧∃a' c',QC w0 w' fb cb next used ops' L' (Vg mb c' a' L' next::rs)):=by
 cases hb:nmB nm with
 | false=>
   have hno: ∀t∈L,t.nm≠nm:=fun t ht e=>by have:=(hok t ht).1;rw [e,hb] at this;cases this
   exact ⟨4,ops,L,by decide,Nat.le_succ _,hok,fun w rs h=>Qba h (Ec hs hb),fun w rs h=>EG h h20 hno⟩
 | true=>
   by_cases hx: ∃t∈L,t.nm=nm
   ·obtain ⟨t,ht,rfl⟩:=hx;refine ⟨0,ops+1,Yc t.nm L,by decide,Nat.le_refl _,fun x hx=>hok x (Uz.1 hx).1,fun w rs h=>Qax h hn ho ht (Ec hs hb),fun w rs h=>?_⟩;refine (QcT w mb c a L next (h.ref (i:=0) rfl) (by omega) t.nm).mono ?_;rintro e w' (⟨hno,-,-⟩ | ⟨i,u,hu,hnm,he,a',c',h1,h2,hf⟩)
    ·exact absurd rfl (hno t ht)
    ·have e2:L.eraseIdx i=Yc t.nm L:=by rw [Qdy hL hu,hnm]
     rw [e2] at h1 h2;refine ⟨he,a',c',h.write (hf.mono fun x _ hx=> .inl hx) (Vg mb c' a' _ next) h1 fun x hx=>?_⟩;rcases hx with rfl | ⟨p,rfl,rfl⟩
     ·exact .inl (.inl rfl)
     ·exact .inr (h2.lt p.block rfl).1
   ·have hno: ∀t∈L,t.nm≠nm:=fun t ht e=>hx ⟨t,ht,e⟩
    exact ⟨4,ops,L,by decide,Nat.le_succ _,hok,fun w rs h=>Oz h (QeS hb) (Ec hs hb) hno,fun w rs h=>EG h h20 hno⟩
theorem QbU (hL:Q9 L) (h20:L.length≤20) (hok: ∀t∈L,OkT t) (hnu:next≤used+1) (ho:ops≤1000) (nm:ByteArray) (hs:nm.size≤300) (P:Int) (hu:(used:Int)+cost P≤60) (p3 p4 p5:Int) (p6:Bool) (p7:Int):
 ∃(nm':ByteArray) (z1 z2 z3 z4 z5:Int) (z6:Bool) (z7 E:Int) (next' used' ops':Nat) (L':List Tp),(0≤E∧E≤9)∧next'≤used'+1∧(used':Int)≤used+cost P∧ops'≤ops+1∧(∀t∈L',OkT t)∧
   (∀w rs,QC w0 w fb cb next used ops L (Vg mb c a L next::rs)→Calls prog 11 #[.pointer (some ⟨cb,0,none⟩),.string nm,.int .i64 P,.agg (stz p3 p4 p5 p6 p7)] w fun e w'=>e= .returned (.tuple #[.agg (tpz nm' z1 z2 z3 z4 z5 z6 z7),.int .i64 E])∧QC w0 w' fb cb next' used' ops' L' (Vg mb c a L next::rs))∧
   (∀w rs,QC w0 w fb cb next' used' ops' L' (Vg mb c a L next::rs)→Calls prog 18 #[.pointer (some ⟨mb,0,none⟩),.string nm,.int .i64 P,.agg (stz p3 p4 p5 p6 p7)] w fun e w'=>e= .returned (.tuple #[.agg (tpz nm' z1 z2 z3 z4 z5 z6 z7),.int .i64 E])∧∃a' c',QC w0 w' fb cb next' used' ops' L' (Vg mb c' a' L' next'::rs)):=by
 have hc0:0≤cost P:=by unfold cost;split<;>omega
 by_cases hbad:nmB nm=false∨P<1∨8<P∨¬(512≤p3∧p3≤8192∧ -1≤p4∧p4≤1099511627776∧ -1≤p5∧p5≤1125899906842624∧0≤p7∧p7≤1125899906842624)
 ·refine ⟨ByteArray.empty,0,0,0,0,0,false,0,1,next,used,ops,L,by decide,hnu,by omega,Nat.le_succ _,hok,fun w rs h=>Qcd h hs P p3 p4 p5 p6 p7 hbad,fun w rs h=>?_⟩;refine (Qeb w mb nm P p3 p4 p5 p6 p7 hbad).mono ?_;rintro e w' ⟨he,hf⟩;exact ⟨he,a,c,h.frm hf⟩
 ·have hP1:1≤P:=by rcases Int.lt_or_le P 1 with h | h;exact absurd (.inr (.inl h)) hbad;exact h
  have hP8:P≤8:=by rcases Int.lt_or_le 8 P with h | h;exact absurd (.inr (.inr (.inl h))) hbad;exact h
  have hb:nmB nm=true:=by cases h:nmB nm with | true=>rfl | false=>exact absurd (.inl h) hbad
  have hset':512≤p3∧p3≤8192∧ -1≤p4∧p4≤1099511627776∧ -1≤p5∧p5≤1125899906842624∧0≤p7∧p7≤1125899906842624:=Classical.byContradiction fun h=>hbad (.inr (.inr (.inr h)))
  have hset:Oy p3 p4 p5 p7:=⟨by omega,by omega,by omega,by omega⟩;have hcP:cost P=P:=by unfold cost;rw [if_pos (by omega)];omega
  clear hbad;obtain ⟨Q,rfl⟩: ∃Q:Nat,P=Q:=⟨P.toNat,by omega⟩;have hQ:1≤Q∧Q≤8:=by omega
  by_cases hx: ∃t∈L,t.nm=nm
  ·obtain ⟨t,ht,rfl⟩:=hx;have hfn: ∃y,L.find? (fun x=>decide (x.nm=t.nm))=some y:=by
    cases h:L.find? (fun x=>decide (x.nm=t.nm)) with
    | none=>exact absurd (List.find?_eq_none.1 h t ht) (by simp)
    | some y=>exact ⟨y,rfl⟩
   obtain ⟨⟨y0,y1,y2,y3,y4,y5,y6,y7⟩,hy⟩:=hfn;refine ⟨ByteArray.empty,0,0,0,0,0,false,0,5,next,used,ops,L,by decide,hnu,by omega,Nat.le_succ _,hok,fun w rs h=>Qcc h hQ ht (Ec hs hb) hset,fun w rs h=>?_⟩;refine (Qd9 w mb c a L next (h.ref (i:=0) rfl) h20 t.nm hy hb Q hP1 hP8 p3 p4 p5 p6 p7 hset.h1 hset.h2 hset.h3 hset.h4).mono ?_;rintro e w' ⟨he,hf⟩;exact ⟨he,a,c,h.frm hf⟩
  ·have hno: ∀t∈L,t.nm≠nm:=fun t ht e=>hx ⟨t,ht,e⟩
   by_cases hl:L.length=20
   ·refine ⟨ByteArray.empty,0,0,0,0,0,false,0,2,next,used,ops,L,by decide,hnu,by omega,Nat.le_succ _,hok,fun w rs h=>Qa5 h hl hQ (QeS hb) (Ec hs hb) hno hset,fun w rs h=>?_⟩;refine (Qbq w mb c a L next (h.ref (i:=0) rfl) h20 nm hl hno hb Q hP1 hP8 p3 p4 p5 p6 p7 hset.h1 hset.h2 hset.h3 hset.h4).mono ?_;rintro e w' ⟨he,hf⟩;exact ⟨he,a,c,h.frm hf⟩
   ·refine ⟨nm,next,Q,p3,p4,p5,p6,p7,0,next+1,used+Q,ops+1,JI ⟨nm,next,Q,p3,p4,p5,p6,p7⟩ L,by decide,by omega,by omega,Nat.le_refl _,fun x hx=>?_,fun w rs h=>Qau h (by omega) (by omega) hQ (by omega) (by omega) (QeS hb) (Ec hs hb) hno hset,fun w rs h=>?_⟩
    ·rcases (YR _ x L).1 hx with rfl | hx
     ·exact ⟨hb,hset⟩
     ·exact hok x hx
    ·refine (QfO w mb c a L next (h.ref (i:=0) rfl) hL (by omega) (by omega) (by omega) nm hno hb Q hP1 hP8 p3 p4 p5 p6 p7 hset.h1 hset.h2 hset.h3 hset.h4).mono ?_;rintro e w' ⟨he,g',c',hR,hf,hg⟩;refine ⟨he,some ⟨g',0,none⟩,c',h.write hf (Vg mb c' (some ⟨g',0,none⟩) _ _) (by rw [show (((next+1:Nat)):Int)=(next:Int)+1 by omega];exact hR) fun x hx=>?_⟩;rcases hx with rfl | ⟨p,e,rfl⟩
     ·exact .inl (.inl rfl)
     ·injection e with e
      subst e;rcases hg with hg | hg
      ·exact .inl (.inr hg)
      ·exact .inr hg
end
theorem QeK (w:World) (nm:ByteArray) (p1 p2 p3 p4 p5:Int) (p6:Bool) (p7:Int):
 Calls prog 19 #[.agg (tpz nm p1 p2 p3 p4 p5 p6 p7)] w fun e w'=>e= .returned (.agg (tpz nm p1 p2 p3 p4 p5 p6 p7))∧Frm NoB w w':=by
 obtain ⟨b1,b2,y,hb1,hb2,hy,ht⟩:=WZ w (tpz nm p1 p2 p3 p4 p5 p6 p7) (tp0) 45 31;have HT:=hid ht;have HY:=hid (And.intro hy (And.intro hb1 hb2));have d0:y.cell? ⟨b1,0,none⟩=some (.string nm):=(Qa ht.h1).trans rfl;have d1:y.cell? ⟨b1,1,none⟩=some (.int .i64 p1):=(Qa ht.h1).trans rfl;have d2:y.cell? ⟨b1,2,none⟩=some (.int .i64 p2):=(Qa ht.h1).trans rfl;have d3:y.cell? ⟨b1,3,none⟩=some (.int .i64 p3):=(Qa ht.h1).trans rfl;have d4:y.cell? ⟨b1,4,none⟩=some (.int .i64 p4):=(Qa ht.h1).trans rfl;have d5:y.cell? ⟨b1,5,none⟩=some (.int .i64 p5):=(Qa ht.h1).trans rfl;have d6:y.cell? ⟨b1,6,none⟩=some (.bool p6):=(Qa ht.h1).trans rfl;have d7:y.cell? ⟨b1,7,none⟩=some (.int .i64 p7):=(Qa ht.h1).trans rfl;clear ht hy hb1 hb2;go_enter func19,ntmps19;go_upto_region 1 with (refine Qg rfl _ _ JU rfl ?_)
 rw [HY.out.1];simp only [size_alloc];rw [HY.out.2.1,HY.out.2.2];clear HY;go_wp2_with (refine JE rfl _ _ rfl b2 nm p1 p2 p3 p4 p5 p6 p7 rfl rfl _ rfl HT.out.h2 ?_);have hld:=run_loadVar_row (P:=prog) _ b2 31 31 (tpz nm p1 p2 p3 p4 p5 p6 p7) (0,0) _ (setRow_heap _ _ _ (tpz nm p1 p2 p3 p4 p5 p6 p7) _ _ HT.out.h2) underlying31 rfl (Jz _ _ _ _ _ _ _ _)
 (try simp only [Exit.inBlock,Exit.then])
 exact bodyPost_ret (v:= .agg (tpz nm p1 p2 p3 p4 p5 p6 p7)) (YC results19 _ _ ⟨b2,0,none⟩ rfl _ hld) rfl ⟨rfl,HT.out.frm.setRowNew HT.out.g2 _⟩
theorem Qko:prog.stoodInHeld 31=false:=by kernel_rfl
theorem Qkl:prog.stoodInHeld 29=false:=by kernel_rfl
theorem QgX (W:World) (nm:ByteArray) (p1 p2 p3 p4 p5:Int) (p6:Bool) (p7:Int):
 (binOp .neq 31 (.agg #[.string nm,.int .i64 p1,.int .i64 p2,.int .i64 p3,.int .i64 p4,.int .i64 p5,.bool p6,.int .i64 p7]) (.agg #[.string nm,.int .i64 p1,.int .i64 p2,.int .i64 p3,.int .i64 p4,.int .i64 p5,.bool p6,.int .i64 p7])).run prog W= .ok (.bool false) W:=by
 simp [go_sem,Qko,Qkl]
theorem Qkc (id p:Nat):(⟨#[47,99,47,116]⟩:ByteArray)++J7 id++⟨#[45]⟩++J7 p=Qd [cN,Qe id p]:=by
 have e:Qd [cN]++⟨#[47,116]⟩=(⟨#[47,99,47,116]⟩:ByteArray):=by decide+kernel
 rw [←QaT id p,e]
theorem Qkf (id p:Nat):Qd [cN,Qe id p]++⟨#[47,112,114,111,100,117,99,101,114,115]⟩=Qd [cN,Qe id p,QS]:=YT [cN,Qe id p] QS _ rfl
section
variable {w0:Gnd} {w:World} {rs:List Res} {fb cb next used ops mb c:Nat} {a:Option Addr} {L:List Tp}
theorem QC.top (h:QC w0 w fb cb next used ops L rs): ∀t∈L,∃id P:Nat,t.id=id∧t.parts=P∧id<next∧1≤P∧P≤8:=by
 obtain ⟨F,X,A,ι,mb,n,D,rfl,hf,hc,hr⟩:=h;intro t ht;obtain ⟨id,P,q1,q2,q3,q4,q5,_⟩:=hr.top t ht;exact ⟨id,P,q1,q2,q3,q4,q5⟩
theorem Wu (h:QC w0 w fb cb next used ops L (Vg mb c a L next::rs)) (hn:next≤100) (hok: ∀t∈L,OkT t):
 Calls prog 27 #[.pointer (some ⟨fb,0,none⟩),.pointer (some ⟨cb,0,none⟩),.pointer (some ⟨mb,0,none⟩)] w fun e w'=>e= .returned (.bool true)∧QC w0 w' fb cb next used ops L (Vg mb c a L next::rs):=by
 have HL:=hid (QhV h);have HI:=hid (And.intro hn (And.intro hok (And.intro h.room h.top)));clear h hn hok;go_enter func27,ntmps27;go_wp2_with fail;refine HL.out.mono ?_;clear HL;rintro e w1 ⟨v,rfl,h1⟩;obtain ⟨va,vc,rfl,hvc,hva⟩:=JP (h1.row (i:=0) rfl);have c0:w1.cell? ⟨mb,0,none⟩=some (.slice a L.length c):=(Qa (h1.ref (i:=1) rfl).cat).trans rfl;have l2:L.length≤20:=HI.out.2.2.1.2;have n2:(L.length:Int)≤20:=by omega
 have n0:(0:Int)≤(L.length:Int):=Qk _;have HV:=hid (And.intro hvc hva);have H1:=hid h1;clear h1 hvc hva l2;go_wp2_with fail;go_loopw [8,10,11,12,13,14,15,16] (fun t8 _ _ _ _ _ _ _ wr=> ∃i:Nat,t8= .int .i64 i∧i≤L.length∧Hid (QC w0 wr fb cb next used ops L (QW 31 Jd 8 (.slice va L.length vc) L.length (QI L)::Vg mb c a L next::rs))) (fun t8 _ _ _ _ _ _ _ _=>L.length-(intOf t8).toNat)
 case atStart=>exact ⟨0,rfl,Nat.zero_le _,H1⟩
 case round=>
  clear H1 c0;obtain ⟨i,rfl,hi,HR⟩:=hrel;have i0:(0:Int)≤(i:Int):=Qk _;by_cases hlt:i<L.length
  ·obtain ⟨⟨x0,x1,x2,x3,x4,x5,x6,x7⟩,ht⟩: ∃t,L[i]?=some t:=⟨_,List.getElem?_eq_getElem hlt⟩;obtain ⟨id,P,rfl,rfl,k1,k2,k3⟩: ∃id P:Nat,x1=id∧x2=P∧id<next∧1≤P∧P≤8:=HI.out.2.2.2 _ (List.mem_of_getElem? ht)
   have hok1:nmB x0=true∧Oy x3 x4 x5 x7:=HI.out.2.1 _ (List.mem_of_getElem? ht);have hiD:id<100:=by have:=HI.out.1;omega
   obtain ⟨g,rfl⟩:=HV.out.2 (by omega);obtain ⟨g2,rfl⟩:=(HR.out.ref (i:=1) rfl).form (by omega);have hle2:=(HR.out.ref (i:=1) rfl).le;obtain ⟨kk,hkk⟩: ∃kk,i*8=kk:=⟨_,rfl⟩;have i1:(i:Int)<(L.length:Int):=by omega
   have nc:(L.length:Int)≤(c:Int):=by omega
   have HT:=hid (And.intro (List.mem_of_getElem? ht) (And.intro hiD (And.intro k2 (And.intro k3 hok1))));have KS:Hid (∀y,QC w0 y fb cb next used ops L (QW 31 Jd 8 (.slice (some ⟨g,0,none⟩) L.length vc) L.length (QI L)::Vg mb c (some ⟨g2,0,none⟩) L next::rs)→y.cell? ⟨g,kk,none⟩=some (.string x0)∧y.cell? ⟨g,kk+1,none⟩=some (.int .i64 id)∧y.cell? ⟨g,kk+2,none⟩=some (.int .i64 P)∧y.cell? ⟨g,kk+3,none⟩=some (.int .i64 x3)∧y.cell? ⟨g,kk+4,none⟩=some (.int .i64 x4)∧y.cell? ⟨g,kk+5,none⟩=some (.int .i64 x5)∧y.cell? ⟨g,kk+6,none⟩=some (.bool x6)∧y.cell? ⟨g,kk+7,none⟩=some (.int .i64 x7)∧y.cell? ⟨mb,0,none⟩=some (.slice (some ⟨g2,0,none⟩) L.length c)∧y.cell? ⟨g2,kk,none⟩=some (.string x0)∧y.cell? ⟨g2,kk+1,none⟩=some (.int .i64 id)∧y.cell? ⟨g2,kk+2,none⟩=some (.int .i64 P)∧y.cell? ⟨g2,kk+3,none⟩=some (.int .i64 x3)∧y.cell? ⟨g2,kk+4,none⟩=some (.int .i64 x4)∧y.cell? ⟨g2,kk+5,none⟩=some (.int .i64 x5)∧y.cell? ⟨g2,kk+6,none⟩=some (.bool x6)∧y.cell? ⟨g2,kk+7,none⟩=some (.int .i64 x7)):=hid fun y hy=>by
    obtain ⟨a0,a1,a2,a3,a4,a5,a6,a7⟩:=JT (hy.row (i:=0) rfl) ht hkk;obtain ⟨b0,b1,b2,b3,b4,b5,b6,b7⟩:=JT (hy.ref (i:=1) rfl).row ht hkk;exact ⟨a0,a1,a2,a3,a4,a5,a6,a7,(Qa (hy.ref (i:=1) rfl).cat).trans rfl,b0,b1,b2,b3,b4,b5,b6,b7⟩
   have KTP:Hid (∀W,Calls prog 19 #[.agg #[.string x0,.int .i64 id,.int .i64 P,.int .i64 x3,.int .i64 x4,.int .i64 x5,.bool x6,.int .i64 x7]] W fun e w'=>e= .returned (.agg #[.string x0,.int .i64 id,.int .i64 P,.int .i64 x3,.int .i64 x4,.int .i64 x5,.bool x6,.int .i64 x7])∧Frm NoB W w'):=hid fun W=>QeK W x0 id P x3 x4 x5 x6 x7
   have hnm:=QeS hok1.1;have KF:Hid (∀W,QC w0 W fb cb next used ops L (QW 31 Jd 8 (.slice (some ⟨g,0,none⟩) L.length vc) L.length (QI L)::Vg mb c (some ⟨g2,0,none⟩) L next::rs)→Calls prog 23 #[.pointer (some ⟨cb,0,none⟩),.string x0] W fun e w'=>e= .returned (.tuple #[.agg (tpz x0 id P x3 x4 x5 x6 x7),.bool true])∧QC w0 w' fb cb next used ops L (QW 31 Jd 8 (.slice (some ⟨g,0,none⟩) L.length vc) L.length (QI L)::Vg mb c (some ⟨g2,0,none⟩) L next::rs)):=hid fun W hW=>
    QhU hW hnm (Ec (by omega) hok1.1) (o:=some ⟨x0,id,P,x3,x4,x5,x6,x7⟩) ((HI.out.2.2.1.1.find hnm).2 ⟨List.mem_of_getElem? ht,rfl⟩)
   have hne:=fun W=>QgX W x0 id P x3 x4 x5 x6 x7
   have HRd:=hid (HR.out.frm (Frm.refl NoB wr).drew);obtain ⟨d0,d1,d2,d3,d4,d5,d6,d7,dm,e0,e1,e2,e3,e4,e5,e6,e7⟩:=KS.out wr HR.out;clear ht hlt hi k1 k2 k3 hok1 hiD hle2 hnm;go_upto_region 7 with fail
   go_region_held3 (fun y=>y.cell? ⟨g,kk,none⟩=some (.string x0)∧y.cell? ⟨g,kk+1,none⟩=some (.int .i64 id)∧y.cell? ⟨g,kk+2,none⟩=some (.int .i64 P)∧y.cell? ⟨g,kk+3,none⟩=some (.int .i64 x3)∧y.cell? ⟨g,kk+4,none⟩=some (.int .i64 x4)∧y.cell? ⟨g,kk+5,none⟩=some (.int .i64 x5)∧y.cell? ⟨g,kk+6,none⟩=some (.bool x6)∧y.cell? ⟨g,kk+7,none⟩=some (.int .i64 x7)∧y.cell? ⟨mb,0,none⟩=some (.slice (some ⟨g2,0,none⟩) L.length c)∧y.cell? ⟨g2,kk,none⟩=some (.string x0)∧y.cell? ⟨g2,kk+1,none⟩=some (.int .i64 id)∧y.cell? ⟨g2,kk+2,none⟩=some (.int .i64 P)∧y.cell? ⟨g2,kk+3,none⟩=some (.int .i64 x3)∧y.cell? ⟨g2,kk+4,none⟩=some (.int .i64 x4)∧y.cell? ⟨g2,kk+5,none⟩=some (.int .i64 x5)∧y.cell? ⟨g2,kk+6,none⟩=some (.bool x6)∧y.cell? ⟨g2,kk+7,none⟩=some (.int .i64 x7))
    (first | exact KS.out _ HR.out | exact KS.out _ HRd.out | exact KS.out _ (HRd.out.frm hf9))
    (first | (go_at_call 19;(with_reducible refine (KTP.out _).mono ?_);rintro e w9 ⟨rfl,hf9⟩) | fail)
   have h9:=HRd.out.frm hf9;have HF9:=hid (KF.out _ h9);have f0:=(KS.out _ h9).1;clear d0 d1 d2 d3 d4 d5 d6 d7 dm e0 e1 e2 e3 e4 e5 e6 e7 hf9 h9 HR HRd KF KTP;go_wp2_with fail;refine HF9.out.mono ?_;clear HF9 f0;rintro e w10 ⟨rfl,h10⟩;have HK0:=hid (Qb w10 (.cells (tp0) 31 (0,0)));have h11:=h10.mkArr (((Frm.refl NoB w10).alloc (.cells (tp0) 31 (0,0))).setRowNew (Nat.le_refl _) (tpz x0 id P x3 x4 x5 x6 x7)) Jd (setRow_heap _ _ _ (tpz x0 id P x3 x4 x5 x6 x7) _ _ HK0.out) (Nat.le_refl _);have H10:=hid h10;clear h10;go_upto_region 10 with (first | (refine Qg rfl _ _ JU rfl ?_) | (refine JE rfl _ _ rfl w10.heap.size x0 id P x3 x4 x5 x6 x7 rfl rfl _ rfl HK0.out ?_))
   show Code.wp prog _ _ _ ((w10.alloc (.cells (tp0) 31 (0,0))).setRow w10.heap.size (tpz x0 id P x3 x4 x5 x6 x7));obtain ⟨y11,hy11⟩: ∃y11,(w10.alloc (.cells (tp0) 31 (0,0))).setRow w10.heap.size (tpz x0 id P x3 x4 x5 x6 x7)=y11:=⟨_,rfl⟩;rw [hy11] at h11 ⊢;clear HK0 H10 hy11;generalize w10.heap.size=g5 at*
   obtain ⟨f0,f1,f2,f3,f4,f5,f6,f7⟩:y11.cell? ⟨g5,0,none⟩=some (.string x0)∧y11.cell? ⟨g5,1,none⟩=some (.int .i64 id)∧y11.cell? ⟨g5,2,none⟩=some (.int .i64 P)∧y11.cell? ⟨g5,3,none⟩=some (.int .i64 x3)∧y11.cell? ⟨g5,4,none⟩=some (.int .i64 x4)∧y11.cell? ⟨g5,5,none⟩=some (.int .i64 x5)∧y11.cell? ⟨g5,6,none⟩=some (.bool x6)∧y11.cell? ⟨g5,7,none⟩=some (.int .i64 x7):=⟨(h11.arrCell (i:=0) rfl 0).trans rfl,(h11.arrCell (i:=0) rfl 1).trans rfl,(h11.arrCell (i:=0) rfl 2).trans rfl,(h11.arrCell (i:=0) rfl 3).trans rfl,(h11.arrCell (i:=0) rfl 4).trans rfl,(h11.arrCell (i:=0) rfl 5).trans rfl,(h11.arrCell (i:=0) rfl 6).trans rfl,(h11.arrCell (i:=0) rfl 7).trans rfl⟩;obtain ⟨d0,d1,d2,d3,d4,d5,d6,d7,-⟩:=KS.out y11 (h11.sub (List.sublist_cons_self _ _));have H11:=hid h11;clear h11;go_quiet (fail);have H12:=hid (H11.out.frm ((Frm.refl NoB y11).drewN nq));clear d0 d1 d2 d3 d4 d5 d6 d7 f0 f1 f2 f3 f4 f5 f6 f7 H11 hne;have HLT:=hid i1;go_wp2_with fail;go_loopw [11,12,13,14,15,16] (fun t11 _ _ _ _ _ wr=> ∃p:Nat,t11= .int .i64 p∧p≤P∧Hid (QC w0 wr fb cb next used ops L (arr g5 (tpz x0 id P x3 x4 x5 x6 x7) 31 Jd::QW 31 Jd 8 (.slice (some ⟨g,0,none⟩) L.length vc) L.length (QI L)::Vg mb c (some ⟨g2,0,none⟩) L next::rs))) (fun t11 _ _ _ _ _ _=>P-(intOf t11).toNat)
   case atStart=>exact ⟨0,rfl,Nat.zero_le _,H12⟩
   case round=>
    clear H12;obtain ⟨p,rfl,hp,HP⟩:=hrel;have p0:(0:Int)≤(p:Int):=Qk _;have f2:wr.cell? ⟨g5,2,none⟩=some (.int .i64 P):=(HP.out.arrCell (i:=0) rfl 2).trans rfl;by_cases hlt:p<P
    ·have p1:(p:Int)<(P:Int):=by omega
     have hP8:=HT.out.2.2.2.1;have p2:(p:Int)<8:=by omega
     have hp10:p<10:=by omega
     have f1:wr.cell? ⟨g5,1,none⟩=some (.int .i64 id):=(HP.out.arrCell (i:=0) rfl 1).trans rfl;have KD1:Hid (∀W,Calls prog 12 #[.int .i64 id] W fun e w'=>e= .returned (.string (J7 id))∧Frm NoB W w'):=hid fun W=>QaU W id HT.out.2.1
     have KD2:Hid (∀W,Calls prog 12 #[.int .i64 p] W fun e w'=>e= .returned (.string (J7 p))∧Frm NoB W w'):=hid fun W=>QaU W p (by omega)
     have HPATH:=hid (Qkc id p);have HPS:=hid (US HT.out.2.1 hp10);have KO:Hid (∀W rs',QC w0 W fb cb next used ops L rs'→Calls prog 32 #[.pointer (some ⟨fb,0,none⟩),.string (Qd [cN,Qe id p]),.agg #[.int .i64 x3,.int .i64 x4,.int .i64 x5,.bool x6,.int .i64 x7]] W fun e w'=> ∃pb,e= .returned (.tuple #[.pointer (some ⟨pb,0,none⟩),.int .i64 0])∧Qeq w0 w' fb cb next used ops L id p x3 x4 x5 x6 x7 pb rs'):=hid fun W rs' hW=>Qcg hW HI.out.1 HT.out.1 HT.out.2.2.2.2.2 rfl (show (p:Int)<(P:Int) from p1)
     have KQ:Hid (∀W pb rs',Qeq w0 W fb cb next used ops L id p x3 x4 x5 x6 x7 pb rs'→Calls prog 61 #[.pointer (some ⟨fb,0,none⟩),.string (Qd [cN,Qe id p]++⟨#[47,112,114,111,100,117,99,101,114,115]⟩)] W fun e w'=> ∃qb,e= .returned (.tuple #[.pointer (some ⟨qb,0,none⟩),.int .i64 0])∧VV w0 w' fb cb next used ops L id p x3 x4 x5 x6 x7 pb qb rs'):=hid fun W pb rs' hW=>by
      rw [Qkf];exact Qco hW HT.out.2.1 hp10
     have KDir:Hid (∀W pb qb rs',VV w0 W fb cb next used ops L id p x3 x4 x5 x6 x7 pb qb rs'→Calls prog 24 #[.pointer (some ⟨cb,0,none⟩),.agg #[.string x0,.int .i64 id,.int .i64 P,.int .i64 x3,.int .i64 x4,.int .i64 x5,.bool x6,.int .i64 x7],.int .i64 p] W fun e w'=>e= .returned (.string (Qd [cN,Qe id p]))∧VV w0 w' fb cb next used ops L id p x3 x4 x5 x6 x7 pb qb rs'):=hid fun W pb qb rs' hW=>Qkg hW HT.out.2.1 hp10 x0 P x3 x4 x5 x6 x7
     have hz1:=Ut id HT.out.2.1;have hz2:=Ut p (by omega);generalize Qd [cN,Qe id p]=path at*
     generalize J7 id=n1 at*
     generalize J7 p=n2 at*
     obtain ⟨z1,hn1⟩: ∃z,n1.size=z:=⟨_,rfl⟩;obtain ⟨z2,hn2⟩: ∃z,n2.size=z:=⟨_,rfl⟩;obtain ⟨z3,hn3⟩: ∃z,path.size=z:=⟨_,rfl⟩;have b1:(z1:Int)≤2:=by rw [hn1] at hz1;split at hz1<;>omega
     have b2:(z2:Int)≤2:=by rw [hn2] at hz2;split at hz2<;>omega
     have b3:(z3:Int)≤60:=by have:=HPS.out;omega
     have b4:(0:Int)≤(z1:Int):=Qk _;have b5:(0:Int)≤(z2:Int):=Qk _;have b6:(0:Int)≤(z3:Int):=Qk _;have happ: ∀a b:ByteArray,(a++b).size=a.size+b.size:=fun a b=>ByteArray.size_append
     have hl1:(⟨#[47,99,47,116]⟩:ByteArray).size=4:=rfl;have hl2:(⟨#[45]⟩:ByteArray).size=1:=rfl;have hl3:(⟨#[47,112,114,111,100,117,99,101,114,115]⟩:ByteArray).size=10:=rfl;clear hz1 hz2 HPS hlt hp hP8 hp10;go_wp2_with fail;refine (KD1.out _).mono ?_;clear KD1;rintro e w5 ⟨rfl,hf5⟩;go_wp2_with fail;refine (KD2.out _).mono ?_;clear KD2 f1 f2;rintro e w6 ⟨rfl,hf6⟩;have h6:=HP.out.frm (hf5.trans hf6 fun _ _ e=>e);have f3:w6.cell? ⟨g5,3,none⟩=some (.int .i64 x3):=(h6.arrCell (i:=0) rfl 3).trans rfl;have f4:w6.cell? ⟨g5,4,none⟩=some (.int .i64 x4):=(h6.arrCell (i:=0) rfl 4).trans rfl;have f5:w6.cell? ⟨g5,5,none⟩=some (.int .i64 x5):=(h6.arrCell (i:=0) rfl 5).trans rfl;have f6:w6.cell? ⟨g5,6,none⟩=some (.bool x6):=(h6.arrCell (i:=0) rfl 6).trans rfl;have f7:w6.cell? ⟨g5,7,none⟩=some (.int .i64 x7):=(h6.arrCell (i:=0) rfl 7).trans rfl;have HO6:=hid (KO.out _ _ h6);clear hf5 hf6 h6 HP KO;go_upto_region 16 with fail
     rw [HPATH.out];clear HPATH;go_wp2_with fail;refine HO6.out.mono ?_;clear HO6 f3 f4 f5 f6 f7;rintro e w7 ⟨pb,rfl,h7⟩;have HQ7:=hid (KQ.out _ _ _ h7);clear h7 KQ;go_wp2_with fail;refine HQ7.out.mono ?_;clear HQ7;rintro e w8 ⟨qb,rfl,h8⟩;have hc8:=h8.cat;obtain ⟨f0,f1,f2,f3,f4,f5,f6,f7⟩:w8.cell? ⟨g5,0,none⟩=some (.string x0)∧w8.cell? ⟨g5,1,none⟩=some (.int .i64 id)∧w8.cell? ⟨g5,2,none⟩=some (.int .i64 P)∧w8.cell? ⟨g5,3,none⟩=some (.int .i64 x3)∧w8.cell? ⟨g5,4,none⟩=some (.int .i64 x4)∧w8.cell? ⟨g5,5,none⟩=some (.int .i64 x5)∧w8.cell? ⟨g5,6,none⟩=some (.bool x6)∧w8.cell? ⟨g5,7,none⟩=some (.int .i64 x7):=⟨(hc8.arrCell (i:=0) rfl 0).trans rfl,(hc8.arrCell (i:=0) rfl 1).trans rfl,(hc8.arrCell (i:=0) rfl 2).trans rfl,(hc8.arrCell (i:=0) rfl 3).trans rfl,(hc8.arrCell (i:=0) rfl 4).trans rfl,(hc8.arrCell (i:=0) rfl 5).trans rfl,(hc8.arrCell (i:=0) rfl 6).trans rfl,(hc8.arrCell (i:=0) rfl 7).trans rfl⟩;have HD8:=hid (KDir.out _ _ _ _ h8);clear h8 hc8 KDir;go_wp2_with fail;refine HD8.out.mono ?_;clear HD8 f0 f1 f2 f3 f4 f5 f6 f7;rintro e w9 ⟨rfl,h9⟩;have HN9:=hid (QiH h9);clear h9;go_wp2_with fail;refine HN9.out.mono ?_;clear HN9;rintro e w10 ⟨rfl,h10⟩;have HL10:=hid (Qkh h10);have H10:=hid h10.cat;clear h10;go_wp2_with fail;refine HL10.out.mono ?_;clear HL10;rintro e w11 ⟨rfl,rfl⟩;go_wp2_with fail;exact ⟨⟨p+1,by go_num,by omega,H10⟩,by simp [intOf];omega⟩
    ·obtain rfl:p=P:=by omega
     have HE:=hid (HP.out.sub (List.sublist_cons_self _ _));clear HP hlt hp;go_wp2_with fail;exact ⟨⟨i+1,by go_num,by have:=HLT.out;omega,HE⟩,by have:=HLT.out;simp [intOf];omega⟩
  ·obtain rfl:i=L.length:=by omega
   have HE:=hid (HR.out.sub (List.sublist_cons_self _ _));clear HR hlt hi;go_wp2_with fail;go_ret;exact ⟨rfl,HE.out⟩
end
section
open Go.ChangeMaps Go.MapKept Go.RowKit Go.Deep
structure Stp where
 kind:Int
 nm:ByteArray
 parts:Int
 p3:Int
 p4:Int
 p5:Int
 p6:Bool
 p7:Int
def Qat (w:World) (a:Option Addr) (i:Nat) (s:Stp):Prop:=
 ∃b o,a=some ⟨b,o,none⟩∧b<w.heap.size∧w.cell? ⟨b,o+i*8,none⟩=some (.int .i64 s.kind)∧w.cell? ⟨b,o+i*8+1,none⟩=some (.string s.nm)∧w.cell? ⟨b,o+i*8+2,none⟩=some (.int .i64 s.parts)∧
  w.cell? ⟨b,o+i*8+3,none⟩=some (.int .i64 s.p3)∧w.cell? ⟨b,o+i*8+4,none⟩=some (.int .i64 s.p4)∧w.cell? ⟨b,o+i*8+5,none⟩=some (.int .i64 s.p5)∧w.cell? ⟨b,o+i*8+6,none⟩=some (.bool s.p6)∧w.cell? ⟨b,o+i*8+7,none⟩=some (.int .i64 s.p7)
def StpOk (s:Stp):Prop:=okI s.kind∧s.nm.size≤maxLen∧okI s.parts∧okI s.p3∧okI s.p4∧okI s.p5∧okI s.p7
def Stps (w:World) (v:Value) (l:List Stp):Prop:= ∃a cap,v= .slice a l.length cap∧∀(i:Nat) s,l[i]?=some s→Qat w a i s
theorem Qat.frm {w w':World} {a:Option Addr} {i:Nat} {s:Stp} (h:Qat w a i s) (hf:Frm NoB w w'):Qat w' a i s:=by
 obtain ⟨b,o,h0,h1,c0,c1,c2,c3,c4,c5,c6,c7⟩:=h;exact ⟨b,o,h0,Nat.lt_of_lt_of_le h1 hf.size,(hf.cell h1 (fun e=>e)).trans c0,(hf.cell h1 (fun e=>e)).trans c1,(hf.cell h1 (fun e=>e)).trans c2,(hf.cell h1 (fun e=>e)).trans c3,(hf.cell h1 (fun e=>e)).trans c4,(hf.cell h1 (fun e=>e)).trans c5,(hf.cell h1 (fun e=>e)).trans c6,(hf.cell h1 (fun e=>e)).trans c7⟩
theorem QiB {w:World} {x:Addr} {v:Value} (h:w.cell? x=some v): ∃b o,x=⟨b,o,none⟩:=by
 obtain ⟨blk,off,spot⟩:=x;cases spot with
 | none=>exact ⟨_,_,rfl⟩
 | some s=>
   exfalso;unfold World.cell? at h;split at h
   ·simp at h
   ·cases h
theorem Qjj (b o n:Nat):(⟨b,o,none⟩:Addr).add n=⟨b,o+n,none⟩:=by
 unfold Addr.add;split
 ·rename_i h;subst h;rfl
 ·rfl
end
section
open Go.ChangeMaps Go.MapKept Go.RowKit Go.Deep
variable {H:Type} {enc:TypeId×Value→H} {P:Program} {w:World} {base:Nat} {spare:Nat→Bool} {held:Bool}
theorem UQ {ys:List (DataW H×List MemPlace)} {t:TypeId} {n:Nat} {v:Value} {k:Nat} (hk:k<ys.length) (ht:P.underlying t=some (.int .i64)) (h:DataW.trod enc P w base spare held n t [v]=ys[k]?): ∃z,v= .int .i64 z∧okI z:=by
 obtain ⟨z,e,_,hw⟩:=DataW.trod_int ht (h.trans (List.getElem?_eq_getElem hk));exact ⟨z,by simpa using e,hw⟩
theorem Qg1 {ys:List (DataW H×List MemPlace)} {t:TypeId} {n:Nat} {v:Value} {k:Nat} (hk:k<ys.length) (ht:P.underlying t=some .bool) (h:DataW.trod enc P w base spare held n t [v]=ys[k]?): ∃z,v= .bool z:=by
 obtain ⟨z,e,_⟩:=DataW.trod_bool ht (h.trans (List.getElem?_eq_getElem hk));exact ⟨z,by simpa using e⟩
theorem Qil {ys:List (DataW H×List MemPlace)} {t:TypeId} {n:Nat} {v:Value} {k:Nat} (hk:k<ys.length) (ht:P.underlying t=some .string) (h:DataW.trod enc P w base spare held n t [v]=ys[k]?): ∃z:ByteArray,v= .string z∧z.size≤maxLen:=by
 obtain ⟨z,e,_,hw⟩:=DataW.trod_string ht (h.trans (List.getElem?_eq_getElem hk));exact ⟨z,by simpa using e,hw⟩
theorem Qg2 {e:TypeId} {f0 f1 f2 f3 g0 g1 g2 g3 g4:Field} {fuel:Nat} {cs:List Value} {x:DataW H×List MemPlace} (he:P.underlying e=some (.struct #[f0,f1,f2,f3])) (hl:cs.length=8)
 (ho:f0.offset=0∧f1.offset=1∧f2.offset=2∧f3.offset=3) (hc:P.cellsOf f0.type=1∧P.cellsOf f1.type=1∧P.cellsOf f2.type=1∧P.cellsOf f3.type=5)
 (h0:P.underlying f0.type=some (.int .i64)) (h1:P.underlying f1.type=some .string) (h2:P.underlying f2.type=some (.int .i64)) (h3:P.underlying f3.type=some (.struct #[g0,g1,g2,g3,g4])) (hone:oneCellFields P #[g0,g1,g2,g3,g4]=true)
 (i0:P.underlying g0.type=some (.int .i64)) (i1:P.underlying g1.type=some (.int .i64)) (i2:P.underlying g2.type=some (.int .i64)) (i3:P.underlying g3.type=some .bool) (i4:P.underlying g4.type=some (.int .i64))
 (h:DataW.trod enc P w base spare held fuel e cs=some x):
 ∃s:Stp,StpOk s∧cs= [.int .i64 s.kind,.string s.nm,.int .i64 s.parts,.int .i64 s.p3,.int .i64 s.p4,.int .i64 s.p5,.bool s.p6,.int .i64 s.p7]:=by
 match cs,hl with
 | [v0,v1,v2,v3,v4,v5,v6,v7],_=>
   obtain ⟨ys,n',_,_,_,hyl,hf⟩:=DataW.trod_struct he h;have hyl:ys.length=4:=hyl;have q0:=hf 0 f0 rfl;have q1:=hf 1 f1 rfl;have q2:=hf 2 f2 rfl;have q3:=hf 3 f3 rfl;rw [ho.1,hc.1] at q0;rw [ho.2.1,hc.2.1] at q1;rw [ho.2.2.1,hc.2.2.1] at q2;rw [ho.2.2.2,hc.2.2.2] at q3;obtain ⟨z0,rfl,w0⟩:=UQ (v:=v0) (by omega) h0 q0;obtain ⟨z1,rfl,w1⟩:=Qil (v:=v1) (by omega) h1 q1;obtain ⟨z2,rfl,w2⟩:=UQ (v:=v2) (by omega) h2 q2;rw [List.getElem?_eq_getElem (by omega)] at q3;obtain ⟨zs,n2,_,_,_,hzl,hg⟩:=DataW.trod_struct h3 q3;have hzl:zs.length=5:=hzl;obtain ⟨a0,b0⟩:=hone_of hone 0 g0 rfl;obtain ⟨a1,b1⟩:=hone_of hone 1 g1 rfl;obtain ⟨a2,b2⟩:=hone_of hone 2 g2 rfl;obtain ⟨a3,b3⟩:=hone_of hone 3 g3 rfl;obtain ⟨a4,b4⟩:=hone_of hone 4 g4 rfl;have r0:=hg 0 g0 rfl;have r1:=hg 1 g1 rfl;have r2:=hg 2 g2 rfl;have r3:=hg 3 g3 rfl;have r4:=hg 4 g4 rfl;rw [a0,b0] at r0;rw [a1,b1] at r1;rw [a2,b2] at r2;rw [a3,b3] at r3;rw [a4,b4] at r4;obtain ⟨z3,rfl,w3⟩:=UQ (v:=v3) (by omega) i0 r0;obtain ⟨z4,rfl,w4⟩:=UQ (v:=v4) (by omega) i1 r1;obtain ⟨z5,rfl,w5⟩:=UQ (v:=v5) (by omega) i2 r2;obtain ⟨z6,rfl⟩:=Qg1 (v:=v6) (by omega) i3 r3;obtain ⟨z7,rfl,w7⟩:=UQ (v:=v7) (by omega) i4 r4;exact ⟨⟨z0,z1,z2,z3,z4,z5,z6,z7⟩,⟨w0,w1,w2,w3,w4,w5,w7⟩,rfl⟩
theorem open_stps {t e:TypeId} {f0 f1 f2 f3 g0 g1 g2 g3 g4:Field} {fuel:Nat} {cs:List Value} {x:DataW H×List MemPlace} (ht:P.underlying t=some (.slice e)) (he:P.underlying e=some (.struct #[f0,f1,f2,f3])) (hC:P.cellsOf e=8)
 (ho:f0.offset=0∧f1.offset=1∧f2.offset=2∧f3.offset=3) (hc:P.cellsOf f0.type=1∧P.cellsOf f1.type=1∧P.cellsOf f2.type=1∧P.cellsOf f3.type=5)
 (h0:P.underlying f0.type=some (.int .i64)) (h1:P.underlying f1.type=some .string) (h2:P.underlying f2.type=some (.int .i64)) (h3:P.underlying f3.type=some (.struct #[g0,g1,g2,g3,g4])) (hone:oneCellFields P #[g0,g1,g2,g3,g4]=true)
 (i0:P.underlying g0.type=some (.int .i64)) (i1:P.underlying g1.type=some (.int .i64)) (i2:P.underlying g2.type=some (.int .i64)) (i3:P.underlying g3.type=some .bool) (i4:P.underlying g4.type=some (.int .i64))
 (h:DataW.trod enc P w base (fun _=>true) held fuel t cs=some x):
 ∃(v:Value) (l:List Stp),cs= [v]∧Stps w v l∧(∀s∈l,StpOk s)∧l.length≤maxLen:=by
 rcases Go.Deep.open_slice ht h with ⟨rfl,_⟩ | ⟨a,len,cap,m,n,D,Pl,hcs,hb,hl,hm,hmm,hx,hi⟩
 ·exact ⟨_,[],rfl,⟨none,0,rfl,fun i s hs=>by simp at hs⟩,fun s hs=>(by cases hs),Nat.zero_le _⟩
 ·have hch: ∃G:Nat→Stp,∀i,i<len→Qat w (some a) i (G i)∧StpOk (G i):=by
   have: ∀i,∃s:Stp,i<len→Qat w (some a) i s∧StpOk s:=fun i=>by
    by_cases hil:i<len
    ·have him:i<m:=by rw [hmm];split<;>omega
     obtain ⟨cs',hc',ht'⟩:=hi i him;rw [hC] at hc';obtain ⟨_,hcl,hat⟩:=World.cells?_some hc';obtain ⟨s,hok,rfl⟩:=Qg2 he hcl ho hc h0 h1 h2 h3 hone i0 i1 i2 i3 i4 ht';have hpl: ∃b o,a=⟨b,o,none⟩:=by
      obtain ⟨cs0,hc0,_⟩:=hi 0 (by omega);rw [hC] at hc0;obtain ⟨_,hcl0,hat0⟩:=World.cells?_some hc0;have h00:=hat0 0 (by omega);rw [List.getElem?_eq_getElem (by omega)] at h00;exact QiB (x:=a) h00
     obtain ⟨b,o,rfl⟩:=hpl;have hat2: ∀j,j<8→w.cell? ⟨b,o+i*8+j,none⟩= [.int .i64 s.kind,.string s.nm,.int .i64 s.parts,.int .i64 s.p3,.int .i64 s.p4,.int .i64 s.p5,.bool s.p6,.int .i64 s.p7][j]?:=fun j hj=>by
      have:=hat j (by omega);rw [Qjj,Qjj] at this;exact this
     exact ⟨s,fun _=>⟨⟨b,o,rfl,World.block_lt_of_cell? w _ ((hat2 0 (by omega)).trans rfl),hat2 0 (by omega),hat2 1 (by omega),hat2 2 (by omega),hat2 3 (by omega),hat2 4 (by omega),hat2 5 (by omega),hat2 6 (by omega),hat2 7 (by omega)⟩,hok⟩⟩
    ·exact ⟨⟨0,ByteArray.empty,0,0,0,0,false,0⟩,fun h=>absurd h hil⟩
   exact ⟨fun i=>(this i).choose,fun i hil=>(this i).choose_spec hil⟩
  obtain ⟨G,hG⟩:=hch;refine ⟨_,(List.range len).map G,hcs,⟨some a,cap,by simp,fun i s hs=>?_⟩,fun s hs=>?_,by simp;omega⟩
  ·rw [List.getElem?_map] at hs;have hil:i<len:=by
    rcases Nat.lt_or_ge i len with h | h
    ·exact h
    ·rw [List.getElem?_eq_none (by simpa using h)] at hs;cases hs
   rw [List.getElem?_range hil] at hs;have e:G i=s:=by simpa using hs
   have:=(hG i hil).1;rw [e] at this;exact this
  ·obtain ⟨i,hi2,rfl⟩:=List.mem_map.1 hs;exact (hG i (List.mem_range.1 hi2)).2
end
def QY:List Stp→Int
 | []=>0
 | s::l=>cost s.parts+QY l
theorem Uq (P:Int):0≤cost P∧cost P≤9:=by unfold cost;split<;>omega
theorem Oa: ∀(l m:List Stp),QY (l++m)=QY l+QY m
 | [],m=>by simp [QY]
 | s::l,m=>by
   show cost s.parts+QY (l++m)=cost s.parts+QY l+QY m;rw [Oa l m];omega
theorem Ob: ∀l:List Stp,0≤QY l∧QY l≤9*l.length
 | []=>by simp [QY]
 | s::l=>by
   have h1:=Uq s.parts;have h2:=Ob l;show 0≤cost s.parts+QY l∧cost s.parts+QY l≤9*((l.length+1:Nat):Int);omega
theorem Yz {l:List Stp} {i:Nat} {s:Stp} (h:l[i]?=some s):QY (l.take (i+1))=QY (l.take i)+cost s.parts:=by
 obtain ⟨h1,h2⟩:=List.getElem?_eq_some_iff.1 h;rw [List.take_succ_eq_append_getElem h1,h2,Oa];simp [QY]
theorem Wl (l:List Stp) (i:Nat):QY (l.take i)≤QY l:=by
 have h:=Oa (l.take i) (l.drop i);rw [List.take_append_drop] at h;have:=(Ob (l.drop i)).1;omega
structure Qjz (l:List Stp):Prop where
 len:l.length≤60
 nm: ∀s∈l,s.nm.size≤300
 cost:QY l≤60
def QfZ (l:List Stp) (b:Bool):Prop:=b=true→Qjz l
def Qjv (l:List Stp) (w:World) (e:Ending) (w':World):Prop:= ∃b:Bool,e= .returned (.bool b)∧Frm NoB w w'∧QfZ l b
end Go.Proofs.YtlemndledcmhiaaGreatDoor
