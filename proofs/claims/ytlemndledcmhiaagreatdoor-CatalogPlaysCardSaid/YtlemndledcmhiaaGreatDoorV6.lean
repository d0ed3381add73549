/-
  The catalog, from the device up, part 6.
-/
import Derived.Test.YtlemndledcmhiaaGreatDoorV5
import Derived.Lib.SplitLaws
import Derived.Lib.IndexBytes
import Derived.Test.YtlemndledcmhiaaGreatDoorShelf2
import Derived.WalkMore
namespace Go.Proofs.YtlemndledcmhiaaGreatDoor
set_option linter.unusedVariables false
set_option linter.unusedSimpArgs false
set_option maxHeartbeats 8000000
set_option maxRecDepth 100000
open Tryz
open Lib (hid)
open Go.ChangeMaps Go.MapKept Go.RowKit
section
variable {w0:Gnd} {w:World} {rs:List Res} {X:Sys}
theorem QdU (h:At w0 w X rs) (i:Nat) (hi:X.live i):
 Calls prog 173 #[.pointer (some ⟨X.sb,0,none⟩),.int .i64 i] w fun e w'=>e= .returned (.tuple #[.agg #[.int .i64 (X.nd i 0),.int .i64 (X.nd i 1)],.int .i64 0])∧At w0 w' X rs:=by
 obtain ⟨f,hf⟩: ∃f,X.nd i=f:=⟨_,rfl⟩;have HA0:=hid (h.newArr #[.int .i64 0,.int .i64 0] 82 J9);have KL:Hid (∀y rs',At w0 y X rs'→Calls prog 212 #[.pointer (some ⟨X.sb,0,none⟩),.int .i64 i] y fun e w'=>e= .returned (.tuple #[.agg (stC 13 (ndI f)),.int .i64 0])∧At w0 w' X rs'):=hid fun y rs' hy=>by rw [←hf];exact Qds hy i hi.1 hi.2
 rw [hf];clear h hi hf;go_enter func173,ntmps173;go_upto_region 1 with (refine Qg rfl _ _ JL rfl ?_)
 obtain ⟨y1,hy1,h1⟩:=HA0.out.name;rw [hy1];clear hy1 HA0;have H1:=hid h1;generalize w.heap.size=b at*
 clear h1;go_wp2_with fail;refine (KL.out _ _ H1.out).mono ?_;rintro e w2 ⟨rfl,h2⟩;have HA:=hid (h2.newArr (stC 13 fun _=>0) 270 Jg);have HB0:=hid (show (w2.alloc (.cells (stC 13 fun _=>0) 270 (0,0))).heap[w2.heap.size]?=some (.cells (stC 13 fun _=>0) 270 (0,0)) from HA.out.1.get (i:=1) rfl);have HA2:=hid (HA.out.setRow 0 (c':=stC 13 (ndI f)) rfl);clear h2;go_upto_region 2 with (first | (refine Qg rfl _ _ Ej rfl ?_) | (refine K8 rfl _ _ rfl w2.heap.size _ rfl rfl _ (YS _ _) HB0.out ?_))
 obtain ⟨y2,hy2,h2⟩:=HA2.out.name;rw [hy2];clear hy2 HA HA2 HB0;generalize w2.heap.size=g at*
 have h2:At w0 y2 X (arr g (stC 13 (ndI f)) 270 Jg::arr b #[.int .i64 0,.int .i64 0] 82 J9::rs):=h2;have d0:y2.cell? ⟨g,0,none⟩=some (.int .i64 (f 0)):=(h2.arrCell (i:=0) rfl 0).trans (QP _ _ _ (by omega));have d1:y2.cell? ⟨g,1,none⟩=some (.int .i64 (f 1)):=(h2.arrCell (i:=0) rfl 1).trans (QP _ _ _ (by omega));have h3:=h2.setArr 1 rfl 0 (.int .i64 (f 0));have h4:=h3.setArr 1 rfl 1 (.int .i64 (f 1));have e0:y2.cell? ⟨b,0,none⟩=some (.int .i64 0):=(h2.arrCell (i:=1) rfl 0).trans rfl;have g0:y2.frozen? ⟨b,0,none⟩=false:=h2.arrFree (i:=1) rfl 0;have e1:(y2.setCell ⟨b,0,none⟩ (.int .i64 (f 0))).cell? ⟨b,1,none⟩=some (.int .i64 0):=(h3.arrCell (i:=1) rfl 1).trans rfl;have g1:(y2.setCell ⟨b,0,none⟩ (.int .i64 (f 0))).frozen? ⟨b,1,none⟩=false:=h3.arrFree (i:=1) rfl 1;have h4:At w0 ((y2.setCell ⟨b,0,none⟩ (.int .i64 (f 0))).setCell ⟨b,1,none⟩ (.int .i64 (f 1))) X (arr g (stC 13 (ndI f)) 270 Jg::arr b #[.int .i64 (f 0),.int .i64 (f 1)] 82 J9::rs):=h4;have H3:=hid h4;have HB3:=hid (show ((y2.setCell ⟨b,0,none⟩ (.int .i64 (f 0))).setCell ⟨b,1,none⟩ (.int .i64 (f 1))).heap[b]?=some (.cells #[.int .i64 (f 0),.int .i64 (f 1)] 82 (0,0)) from h4.1.get (i:=2) rfl);clear h2 h3 h4 H1 KL;go_wp2_with fail;have hld:=run_loadVar_row (P:=prog) ((y2.setCell ⟨b,0,none⟩ (.int .i64 (f 0))).setCell ⟨b,1,none⟩ (.int .i64 (f 1))) b 82 82 #[.int .i64 (f 0),.int .i64 (f 1)] (0,0) _ HB3.out underlying82 rfl (Vd _ _);exact bodyPost_ret (v:= .tuple #[.agg #[.int .i64 (f 0),.int .i64 (f 1)],.int .i64 0]) (Qx results173 _ _ ⟨b,0,none⟩ rfl _ hld) rfl ⟨rfl,H3.out.drop 2⟩
theorem Qhf (h:At w0 w X rs) (hop:X.op=true) {C:List Nat} (hC:Cov X C) (htb:X.P.tb∈C) (h60:C.length≤60):
 Calls prog 95 #[.pointer (some ⟨X.sb,0,none⟩)] w fun e w'=>e= .returned (.int .i64 0)∧At w0 w' (X.saved 0 (Yd 2)) rs:=by
 have HR:=hid (OS h);rw [hop] at HR;have HSV:=hid (Qbc h hop 0 h.ok.pl.ni.1 (Yd 2) (fun j _=>by unfold Yd;split<;>omega) (hC.room h.ok htb h60));have eA:(Value.agg (stC 13 (ndI (Yd 2))))= .agg #[.int .i64 2,.int .i64 0,.int .i64 0,.int .i64 0,.int .i64 0,.int .i64 0,.int .i64 0,.int .i64 0,.int .i64 0,.int .i64 0,.int .i64 0,.int .i64 0,.int .i64 0]:=rfl;rw [eA] at HSV;rw [show ((0:Nat):Int)=0 from rfl] at HSV;clear h hop hC htb h60 eA;go_enter func95,ntmps95;go_wp2_with fail;refine HR.out.mono ?_;rintro e w2 ⟨rfl,rfl⟩;go_wp2_with fail;refine HSV.out.mono ?_;rintro e w3 ⟨rfl,h3⟩;have H3:=hid h3;clear h3;go_wp2;go_ret;exact ⟨rfl,H3.out⟩
structure Qa0 (X W:Sys) (i S:Nat):Prop where
 ok:J5 W
 live: ∀j,W.live j↔X.live j
 oth: ∀j,X.live j→j≠i→W.bytes j=X.bytes j∧∀m,m<13→W.nd j m=X.nd j m
 kind:W.nd i 0=X.nd i 0
 size:W.nd i 1=S
 blk: ∀k,k<dat S→W.nd i (2+k)=X.nd i (2+k)
 byte: ∀p,p<S→fb W.v (W.nd i) p=fb X.v (X.nd i) p
 free:W.fb=X.fb+(dat (X.nd i 1)-dat S)
 wr:Wr X W fun t=>t=X.P.bm∨t=X.P.tb+i/8
theorem J5.shrunk {X Y:Sys} (ho:J5 X) (hX:Jl X) {i S:Nat} {f':Nat→Nat} (hi:X.live i) (hS:S≤X.nd i 1) (hg:UH X Y (X.nd i) f' (dat S) (dat (X.nd i 1))):Qa0 X (Y.saved i (JB f' 1 S)) i S:=by
 generalize hWW:Y.saved i (JB f' 1 S)=W;have h1:=hX.pl.im;have h2:=hX.pl.bm;have h3:=hX.pl.tb;have h4:=hX.pl.da;have hi1:=hi.1;have hse:=ho.size i hi;have hda:=Yq hse;have hdS:dat S≤dat (X.nd i 1):=by unfold dat;omega
 have hP:Y.P=X.P:=hg.wr.P;have hPW:W.P=X.P:=by rw [←hWW];exact hP
 have hYv: ∀t,t≠X.P.bm→Y.v t=X.v t:=fun t h=>hg.wr.v t h
 have ht:=hX.tab hi1;have hYt:Y.v (X.P.tb+i/8)=X.v (X.P.tb+i/8):=hYv _ (by omega);have hWv: ∀t,W.v t=if t=X.P.tb+i/8 then Yl (X.v (X.P.tb+i/8)) (i%8*64) (JB f' 1 S) 13 else Y.v t:=fun t=>by
  rw [←hWW];show (Sys.put Y _ _).v t=_;rw [Sys.put_v,hP,hYt]
 have hWo: ∀t,t≠X.P.tb+i/8→t≠X.P.bm→W.v t=X.v t:=fun t q1 q2=>by rw [hWv,if_neg q1,hYv t q2]
 have hWim:W.v X.P.im=X.v X.P.im:=hWo _ (by omega) (by omega);have hWbm:W.v X.P.bm=Y.v X.P.bm:=by rw [hWv,if_neg (by omega)]
 have hlen:(X.v (X.P.tb+i/8)).length=512:=hX.len _ ht.1 ht.2.2;have hlive: ∀j,W.live j↔X.live j:=fun j=>by unfold Sys.live;rw [hPW,hWim]
 have hf: ∀j,j<13→JB f' 1 S j<4294967296:=fun j hj=>by
  show (if j=1 then S else f' j)<_;by_cases e:j=1
  ·rw [if_pos e];omega
  ·rw [if_neg e];by_cases e2:j<2+dat S∨2+dat (X.nd i 1)≤j
   ·rw [hg.same j e2];exact QeP hX hi1 hj
   ·have:=hg.zero (j-2) (by omega) (by omega);rw [show 2+(j-2)=j by omega] at this;omega
 have hWi: ∀m,m<13→W.nd i m=JB f' 1 S m:=fun m hm=>by
  unfold Sys.nd YA;rw [hPW,hWv,if_pos rfl];exact Vw _ _ _ 13 (by rw [hlen];omega) hf m hm
 have hWj: ∀j,X.live j→j≠i→∀m,m<13→W.nd j m=X.nd j m:=fun j hj hne m hm=>by
  have hj1:=hj.1;unfold Sys.nd YA;rw [hPW,hWv];by_cases e:j/8=i/8
  ·rw [if_pos (by rw [e]),VT _ _ _ _ _ 13 (by rw [hlen];omega) (by omega),←e]
  ·rw [if_neg (by omega),hYv _ (by omega)]
 have e1:W.nd i 1=S:=hWi 1 (by omega);have eb: ∀k,k<dat S→W.nd i (2+k)=X.nd i (2+k):=fun k hk=>(hWi (2+k) (by omega)).trans ((if_neg (by omega)).trans (hg.same _ (.inl (by omega))))
 have orig: ∀j k,X.live j→k<dat (W.nd j 1)→k<dat (X.nd j 1)∧W.nd j (2+k)=X.nd j (2+k)∧(j=i→k<dat S):=fun j k hj hk=>by
  by_cases e:j=i
  ·subst e;rw [e1] at hk;exact ⟨by omega,eb k hk,fun _=>hk⟩
  ·rw [hWj j hj e 1 (by omega)] at hk;have:=Yq (ho.size j hj);exact ⟨hk,hWj j hj e (2+k) (by omega),fun x=>absurd x e⟩
 refine ⟨⟨fun j hj=>?_,fun j k hj hk=>?_,fun j j' k m hj hj' hk hm e=>?_⟩,hlive,fun j hj hne=>⟨Y3 (hWj j hj hne) (ho.size j hj) fun k hk=>?_,hWj j hj hne⟩,?_,e1,eb,fun p hp=>?_,?_,?_⟩
 ·have hj:=(hlive j).1 hj;by_cases e:j=i
  ·rw [e,e1];omega
  ·rw [hWj j hj e 1 (by omega)];exact ho.size j hj
 ·have hj:=(hlive j).1 hj;obtain ⟨q1,q2,q3⟩:=orig j k hj hk;obtain ⟨b,r1,r2,r3⟩:=ho.blk j k hj q1;refine ⟨b,by rw [hPW];exact r1,by rw [hPW,q2];exact r2,?_⟩;rw [hPW,hWbm];refine (hg.bits b).2 ⟨r3,fun m m1 m2 e=>?_⟩;obtain ⟨x1,x2⟩:=ho.inj j i k m hj hi q1 m2 (by rw [r2,e]);have:=q3 x1;omega
 ·have gj:=(hlive j).1 hj;have gj':=(hlive j').1 hj';obtain ⟨q1,q2,_⟩:=orig j k gj hk;obtain ⟨s1,s2,_⟩:=orig j' m gj' hm;rw [q2,s2] at e;exact ho.inj j j' k m gj gj' q1 s1 e
 ·obtain ⟨b,_,q,_⟩:=ho.blk j k hj hk;exact hWo _ (by omega) (by omega)
 ·exact (hWi 0 (by omega)).trans ((if_neg (by omega)).trans (hg.same 0 (.inl (by omega))))
 ·have hk:=Eh hp;obtain ⟨b,_,q,_⟩:=ho.blk i _ hi (show p/512<dat (X.nd i 1) by omega);unfold fb;rw [eb _ hk,hWo _ (by omega) (by omega)]
 ·have:=hg.free;have e:W.fb=Y.fb:=by unfold Sys.fb;rw [hPW,hP,hWbm]
  omega
 ·rw [←hWW];exact (hg.wr.mono fun t e=> .inl e).trans ((Wr.put Y _ _).mono fun t e=> .inr (by rw [e,hP]))
theorem UH.lt {X Y:Sys} (hX:Jl X) {i S s:Nat} {f':Nat→Nat} (hi:i<X.P.ni) (hS:S≤5120) (hg:UH X Y (X.nd i) f' (dat S) (dat s)): ∀j,j<13→JB f' 1 S j<4294967296:=fun j hj=>by
 show (if j=1 then S else f' j)<_;by_cases e:j=1
 ·rw [if_pos e];omega
 ·rw [if_neg e];by_cases e2:j<2+dat S∨2+dat s≤j
  ·rw [hg.same j e2];exact QeP hX hi hj
  ·have:=hg.zero (j-2) (by omega) (by omega);rw [show 2+(j-2)=j by omega] at this;omega
theorem Qd4 (h:At w0 w X rs) (hop:X.op=true) (ho:J5 X) (i:Nat) (hi:X.live i) (S:Nat) (hS:S≤X.nd i 1) {C:List Nat} (hC:Cov X C) (hbm:X.P.bm∈C) (htb:X.P.tb+i/8∈C) (h60:C.length≤60):
 Calls prog 236 #[.pointer (some ⟨X.sb,0,none⟩),.int .i64 i,.int .i64 S] w fun e w'=>e= .returned (.int .i64 0)∧∃W,At w0 w' W rs∧Qa0 X W i S:=by
 obtain ⟨f,hf⟩: ∃f,X.nd i=f:=⟨_,rfl⟩;obtain ⟨s,hs⟩: ∃s,f 1=s:=⟨_,rfl⟩;have HCH:=hid (U8 h hop i hi.1 hi.2);have hs5:=ho.size i hi;have HO:=hid ho;have HS:=hid h.ok;have HI:=hid hi;have HOP:=hid hop;have HC:=hid (And.intro hC (And.intro hbm (And.intro htb h60)));have HF:=hid hf;rw [hf] at HCH hS hs5;rw [hs] at hS hs5;have HSS:=hid (And.intro hs (And.intro hS hs5));have s0:(0:Int)≤(s:Int):=Qk _;have s1:(s:Int)≤5120:=by omega
 have S0:(0:Int)≤(S:Int):=Qk _;have S1:(S:Int)≤(s:Int):=by omega
 -- what is saved
 have KSV:Hid (∀y g Y f',At w0 y Y (arr g (stC 13 (ndI (JB f' 1 S))) 270 Jg::rs)→UH X Y f f' (dat S) (dat s)→Calls prog 184 #[.pointer (some ⟨X.sb,0,none⟩),.int .i64 i,.agg (stC 13 (ndI (JB f' 1 S)))] y fun e w'=>e= .returned (.int .i64 0)∧At w0 w' (Y.saved i (JB f' 1 S)) (arr g (stC 13 (ndI (JB f' 1 S))) 270 Jg::rs)∧Qa0 X (Y.saved i (JB f' 1 S)) i S):=hid fun y g Y f' hy hg=>by
  have eP:=hg.wr.P;have e1:X.nd i 1=s:=by rw [HF.out];exact HSS.out.1
  have hg':UH X Y (X.nd i) f' (dat S) (dat (X.nd i 1)):=by rw [e1,HF.out];exact hg
  have:=Qbc hy (by rw [hg.wr.op];exact HOP.out) i (by rw [eP];exact HI.out.1) (JB f' 1 S) (UH.lt HS.out HI.out.1 (by have:=HSS.out;omega) hg') ((HC.out.1.wr hg.wr (fun t e=>e▸HC.out.2.1)).room hy.ok (by rw [eP];exact HC.out.2.2.1) HC.out.2.2.2);rw [hg.wr.sb] at this;exact this.mono fun e w' ⟨q1,q2⟩=>⟨q1,q2,HO.out.shrunk HS.out HI.out (by rw [e1];exact HSS.out.2.1) hg'⟩
 clear h hop ho hi hC hbm htb h60 hf hs hs5 hS;go_enter func236,ntmps236;go_wp2_with fail;refine HCH.out.mono ?_;clear HCH;rintro e w2 ⟨rfl,h2⟩;have HA:=hid (h2.newArr (stC 13 fun _=>0) 270 Jg);have HB0:=hid (show (w2.alloc (.cells (stC 13 fun _=>0) 270 (0,0))).heap[w2.heap.size]?=some (.cells (stC 13 fun _=>0) 270 (0,0)) from HA.out.1.get (i:=1) rfl);have HA2:=hid (HA.out.setRow 0 (c':=stC 13 (ndI f)) rfl);clear h2;go_upto_region 2 with (first | (refine Qg rfl _ _ Ej rfl ?_) | (refine K8 rfl _ _ rfl w2.heap.size _ rfl rfl _ (YS _ _) HB0.out ?_))
 obtain ⟨y1,hy1,h1⟩:=HA2.out.name;rw [hy1];have H1:Hid (At w0 y1 X (arr w2.heap.size (stC 13 (ndI f)) 270 Jg::rs)):=hid h1;clear hy1 HA HA2 HB0 h1;generalize w2.heap.size=g at*
 have d1:y1.cell? ⟨g,1,none⟩=some (.int .i64 s):=(H1.out.arrCell (i:=0) rfl 1).trans ((QP _ _ _ (by omega)).trans (by unfold ndI;rw [HSS.out.1]));by_cases hlt:S<s
 ·have l1:(S:Int)<(s:Int):=by omega
  have HG:=hid (Qf0 H1.out HOP.out s S HSS.out.1 (by omega) HSS.out.2.2 (fun k hk=>by rw [←HSS.out.1,←HF.out] at hk;rw [←HF.out];exact HO.out.blk i k HI.out hk) (fun k j hk hj e=>by rw [←HSS.out.1,←HF.out] at hk hj;rw [←HF.out] at e;exact (HO.out.inj i i k j HI.out HI.out hk hj e).2) HC.out.1 HC.out.2.1 HC.out.2.2.2);clear H1;go_wp2_with fail;refine HG.out.mono ?_;clear HG d1;rintro e w3 ⟨rfl,Y,f',h3,hg⟩;have d0: ∃u,w3.cell? ⟨g,1,none⟩=some u:=⟨_,(h3.arrCell (i:=0) rfl 1).trans (QP _ _ _ (by omega))⟩;obtain ⟨u0,d0⟩:=d0;have f0:w3.frozen? ⟨g,1,none⟩=false:=h3.arrFree (i:=0) rfl 1;have h5:=h3.setArr 0 rfl 1 (.int .i64 S);rw [Y7 _ _ _ _ (by omega),Et] at h5;have h5:At w0 (w3.setCell ⟨g,1,none⟩ (.int .i64 S)) Y (arr g (stC 13 (ndI (JB f' 1 S))) 270 Jg::rs):=h5;have HB5:=hid (show (w3.setCell ⟨g,1,none⟩ (.int .i64 S)).heap[g]?=some (.cells (stC 13 (ndI (JB f' 1 S))) 270 (0,0)) from h5.1.get (i:=1) rfl);have HSV:=hid (KSV.out _ _ _ _ h5 hg);clear h3 h5 hg;go_wp2_with (refine VI rfl _ rfl g rfl _ HB5.out ?_);obtain ⟨W,hW⟩: ∃W,Y.saved i (JB f' 1 S)=W:=⟨_,rfl⟩;rw [hW] at HSV;refine HSV.out.mono ?_;clear HSV HB5 d0 f0 hW;rintro e w4 ⟨rfl,h4,hsh⟩;have H4:=hid (h4.drop 1);have HSH:=hid hsh;clear h4 hsh;go_wp2;go_ret;exact ⟨rfl,_,H4.out,HSH.out⟩
 ·have l1: ¬(S:Int)<(s:Int):=by omega
  have eS:S=s:=by omega
  have eF:JB f 1 S=f:=funext fun j=>by
   show (if j=1 then S else f j)=f j;by_cases e:j=1
   ·rw [if_pos e,e,HSS.out.1,eS]
   ·rw [if_neg e]
  have hst:At w0 y1 X (arr g (stC 13 (ndI (JB f 1 S))) 270 Jg::rs):=by rw [eF];exact H1.out
  have HSV:=hid (KSV.out _ _ _ _ hst (by rw [eS];exact UH.refl X f _));have HB5:=hid (show y1.heap[g]?=some (.cells (stC 13 (ndI (JB f 1 S))) 270 (0,0)) from hst.1.get (i:=1) rfl);clear H1 hst eF eS;go_wp2_with (refine VI rfl _ rfl g rfl _ HB5.out ?_);obtain ⟨W,hW⟩: ∃W,X.saved i (JB f 1 S)=W:=⟨_,rfl⟩;rw [hW] at HSV;refine HSV.out.mono ?_;clear HSV HB5 hW;rintro e w4 ⟨rfl,h4,hsh⟩;have H4:=hid (h4.drop 1);have HSH:=hid hsh;clear h4 hsh;go_wp2;go_ret;exact ⟨rfl,_,H4.out,HSH.out⟩
def Qj (s:ByteArray):Blk:=UInt8.ofNat s.size::(s.data.toList++List.replicate (50-s.size) 0)
theorem Qr (s:ByteArray) (h:s.size≤50):(Qj s).length=51:=by
 have hl:s.data.toList.length=s.size:=by rw [Array.length_toList];rfl
 unfold Qj;rw [List.length_cons,List.length_append,List.length_replicate,hl];omega
def Jb (s:ByteArray):Array Value:=((Qj s).map B8).toArray
def kc0:Array Value:=(List.replicate 51 (Value.int .u8 0)).toArray
theorem OZ (W:World):(zeroValue 299).run prog W= .ok (.agg kc0) W:=by kernel_rfl
theorem Qa9 (c:Array Value) (h:c.size=51):(prog.info? 299).map (·.size)=some c.size:=by rw [h];kernel_rfl
theorem Qay (s:ByteArray) (h:s.size≤50):((kc0.setIfInBounds 0 (.int .u8 (s.size:Nat))).toList.take 1++Lib.byteCells s.data.toList++(kc0.setIfInBounds 0 (.int .u8 (s.size:Nat))).toList.drop (1+s.size)).toArray=Jb s:=by
 have hl:s.data.toList.length=s.size:=by rw [Array.length_toList];rfl
 have e0:(kc0.setIfInBounds 0 (.int .u8 (s.size:Nat))).toList= .int .u8 (s.size:Nat)::List.replicate 50 (.int .u8 0):=by
  rw [Array.toList_setIfInBounds];rfl
 have e1:B8 (UInt8.ofNat s.size)= .int .u8 (s.size:Nat):=by
  unfold B8;have:(UInt8.ofNat s.size).toNat=s.size:=by rw [UInt8.toNat_ofNat'];omega
  rw [this]
 unfold Jb Qj;rw [e0,List.map_cons,e1,List.map_append,List.map_replicate,Nat.add_comm,List.drop_succ_cons,List.drop_replicate];rfl
theorem Qjk (b:Blk):((b.map B8).toArray.all fun x=>x.oneCell')=true:=by
 rw [Array.all_eq_true_iff_forall_mem];intro x hx;obtain ⟨y,_,rfl⟩:=List.mem_map.1 (List.mem_toArray.1 hx);rfl
theorem Qeh {ops:Array Oper} {rest:List Oper} {o:Oper} {a:Act} {w:World} {Q:Exit→Act→World→Prop} (hw:Region.wanted o (yielded ops a.tmps)=true) (x:Operand) (ho:o.op= .load 299 x) (g:Nat) (hx:a.eval x= .pointer (some ⟨g,0,none⟩)) (c:Array Value) (hc:c.size=51)
 (hg:w.heap[g]?=some (.cells c 299 (0,0))) (h:wpList prog ops Q rest (a.put o.dst (.agg c)) w):wpList prog ops Q (o::rest) a w:=
 BigFrame.wpList_want hw fun K hK=>wp_load_row _ x ho g hx _ c _ _ hg underlying299 rfl (Qa9 c hc) (hK _ _ h)
theorem Eo {ops:Array Oper} {rest:List Oper} {o:Oper} {a:Act} {w:World} {Q:Exit→Act→World→Prop} (hgd:o.guard=none) (x y:Operand) (ho:o.op= .store 299 x y) (g:Nat) (b:Blk) (hb:b.length=51) (hx:a.eval x= .pointer (some ⟨g,0,none⟩)) (hy:a.eval y= .agg (b.map B8).toArray) (old:Array Value) (hold:old.size=51)
 (hg:w.heap[g]?=some (.cells old 299 (0,0))) (h:wpList prog ops Q rest (a.put o.dst undef) (w.setRow g (b.map B8).toArray)):wpList prog ops Q (o::rest) a w:=
 wpList_store_row hgd _ x y ho g (b.map B8).toArray hx hy _ old hg (Qa9 _ (by simp [hb])) (by rw [hold];simp [hb]) (Qjk b) h
theorem YC {P:Program} {fn:Func} {t:Tmp} {ty:TypeId} (h:fn.results= #[.cell t ty]) (tmps:Array Value) (w:World) (a:Addr) (ht:tmps.getD t undef= .pointer (some a)) (v:Value) (hl:(loadVar ty a).run P w= .ok v w):
 (results fn tmps).run P w= .ok v w:=by
 have ht':tmps[t]?.getD undef= .pointer (some a):=by simpa using ht
 simp [results,h,ht',hl,asAddr]
theorem Qh8 (w:World) (s:ByteArray) (hs:s.size≤50):
 Calls prog 210 #[.string s] w fun e w'=>e= .returned (.agg (Jb s))∧Frm NoB w w':=by
 obtain ⟨g,hg⟩: ∃g,w.heap.size=g:=⟨_,rfl⟩;have hb0:=Qb w (.cells kc0 299 (0,0));have hf0:=(Frm.refl NoB w).alloc (.cells kc0 299 (0,0));obtain ⟨y,hy⟩: ∃y,w.alloc (.cells kc0 299 (0,0))=y:=⟨_,rfl⟩;have HG:=hid hg;rw [hy,hg] at hb0;rw [hy] at hf0;have d0:y.cell? ⟨g,0,none⟩=some (.int .u8 0):=(Qa hb0).trans rfl;have f0:y.frozen? ⟨g,0,none⟩=false:=Qf hb0;have hb1:=Qh (i:=0) (.int .u8 (s.size:Nat)) hb0;have hf1:Frm NoB w (y.setCell ⟨g,0,none⟩ (.int .u8 (s.size:Nat))):=hf0.setCell (.inr (by rw [←hg];exact Nat.le_refl _)) _;obtain ⟨y1,hy1⟩: ∃y1,y.setCell ⟨g,0,none⟩ (.int .u8 (s.size:Nat))=y1:=⟨_,rfl⟩;rw [hy1] at hb1 hf1;have hcp:=fun ty c=>Lib.run_copy_row_string (P:=prog) y1 76 9 ty 5 g 1 50 c s _ 299 underlying76 (by kernel_rfl) hb1 hs (by rw [Array.size_setIfInBounds];show 1+s.size≤51;omega)
 rw [Qay s hs] at hcp;have hsz:(Jb s).size=51:=by unfold Jb;simp [Qr s hs]
 have hb2:=setRow_heap y1 g _ (Jb s) _ _ hb1;have hf2:Frm NoB w (y1.setRow g (Jb s)):=hf1.setRowNew (by rw [hg];exact Nat.le_refl _) _;have hs0:(0:Int)≤((s.size:Nat):Int):=Qk _;have hs1:((s.size:Nat):Int)≤50:=by omega
 have HY:=hid (And.intro hy hy1);have HB2:=hid hb2;have HF2:=hid hf2;have HSZ:=hid hsz;clear hb0 hf0 hb1 hf1 hb2 hf2 hsz hy hy1 hg;go_enter func210,ntmps210;go_upto_region 1 with (refine Qg rfl _ _ OZ rfl ?_)
 rw [HY.out.1,HG.out];go_upto_region 2 with fail
 rw [HY.out.2];clear d0 f0;go_upto_region 3 with fail
 have HB3:=hid (setRow_heap (y1.setRow g (Jb s)) g _ (Jb s) _ _ HB2.out);have HF3:=hid (HF2.out.setRowNew (by rw [HG.out];exact Nat.le_refl _) (Jb s));go_wp2_with (first | (refine Qeh rfl _ rfl g rfl _ HSZ.out HB2.out ?_) | (refine Eo rfl _ _ rfl g (Qj s) (Qr s hs) rfl rfl _ HSZ.out HB2.out ?_));have hld:=run_loadVar_row (P:=prog) ((y1.setRow g (Jb s)).setRow g (Jb s)) g 299 299 (Jb s) (0,0) _ HB3.out underlying299 rfl (Qa9 _ HSZ.out);exact bodyPost_ret (v:= .agg (Jb s)) (YC results210 _ _ ⟨g,0,none⟩ rfl _ hld) rfl ⟨rfl,HF3.out⟩
def Kn (i:Nat) (s:ByteArray):Blk:=lays (Qv (QQ 64) 0 4 i) 4 (Qj s)
theorem Ub (i:Nat) (s:ByteArray) (h:s.size≤50):(Kn i s).length=64:=by
 have h1:(Qv (QQ 64) 0 4 i).length=64:=(Qu _ _ _ _ (by rw [QA];omega)).trans (QA 64);unfold Kn;rw [Y6 _ _ _ (by rw [h1,Qr s h];omega),h1]
theorem Qa7 (g j:Nat):((⟨g,0,none⟩:Addr).add j)=⟨g,j,none⟩:=by
 unfold Addr.add;by_cases e:j=0
 ·subst e;rfl
 ·rw [if_neg e,Nat.zero_add]
theorem QkL (h:At w0 w X rs) (hop:X.op=true) (ho:J5 X) (d:Nat) (hd:X.live d) (a:Nat) (ha:a≤X.nd d 1) (s:ByteArray) (hs:s.size≤50) (i:Nat) (hi:i<4294967296) (S:Nat) (hS:S=max (X.nd d 1) (a+64)) (h2:S≤5120) (hfr:dat S-dat (X.nd d 1)≤X.fb) {C:List Nat} (hC:Cov X C) (hbm:X.P.bm∈C) (htb:X.P.tb+d/8∈C) (hin: ∀k,k<dat (X.nd d 1)→X.nd d (2+k)∈C) (h60:C.length+(dat S-dat (X.nd d 1))≤60):
 Calls prog 211 #[.pointer (some ⟨X.sb,0,none⟩),.int .i64 d,.int .i64 a,.string s,.int .i64 i] w fun e w'=>e= .returned (.int .i64 0)∧∃W N,At w0 w' W rs∧Yp X W d a (Kn i s)∧N.length=dat S-dat (X.nd d 1)∧Cov W (C++N)∧∀k,k<dat S→W.nd d (2+k)∈C++N:=by
 have hsl:=Ub i s hs;have KW:Hid (∀y g o c,At w0 y X (byt (.slice (some ⟨g,o,none⟩) 64 c) (Kn i s)::rs)→Calls prog 190 #[.pointer (some ⟨X.sb,0,none⟩),.int .i64 d,.int .i64 a,.slice (some ⟨g,o,none⟩) 64 c] y fun e w'=>e= .returned (.int .i64 0)∧∃W N,At w0 w' W rs∧Yp X W d a (Kn i s)∧N.length=dat S-dat (X.nd d 1)∧Cov W (C++N)∧∀k,k<dat S→W.nd d (2+k)∈C++N):=hid fun y g o c hy=>by
  have:=Qbl hy hop ho d hd a ha 0 (b:=Kn i s) (bb:=g) (bo:=o) (vc:=c) (by rw [hsl];rfl) S (by rw [hsl];exact hS) h2 hfr hC hbm htb hin h60;rw [hsl] at this;refine this.mono ?_;rintro e w' ⟨he,W,N,q1,q2⟩;exact ⟨he,W,N,q1.drop 1,q2⟩
 have H:=hid h;have hmk: ∀W,(Instr.makeSlice 76 (.int .i64 64) (.int .i64 64)).run prog W= .ok (.slice (some ⟨W.heap.size,0,none⟩) 64 64) (W.alloc (.cells (madeCells #[.int .u8 0] 64) 5 (0,0))):=Kc 64 (by omega);have hb0:=Vq w 64;have hf0:=(Frm.refl NoB w).alloc (.cells (madeCells #[.int .u8 0] 64) 5 (0,0));have HPT:=hid (YG _ _ _ 0 4 i (QR w) hb0 (by omega) (by omega) (by rw [QA];omega) (by rw [QA];omega) (by omega));have HF0:=hid hf0;have i0:(0:Int)≤(i:Int):=Qk _;have i1:(i:Int)<4294967296:=by omega
 have HI:=hid (And.intro hi hs);clear h hop ho hd ha hS h2 hfr hC hbm htb hin h60 hb0 hf0 hsl hs hi;go_enter func211,ntmps211;go_wp2_with fail;refine HPT.out.mono ?_;clear HPT hmk;rintro e w2 ⟨hf2,v2,rfl,hb2⟩;have hl2:(Qv (QQ 64) 0 4 i).length=64:=(Qu _ _ _ _ (by rw [QA];omega)).trans (QA 64);obtain ⟨vb,vo,vc,rfl,hcap,-,-⟩:=hb2.cells;rw [hl2] at hcap hb2 ⊢;have HF2:=hid (HF0.out.trans hf2 fun _ _ e=>e);have HB2:=hid (hb2.mono (R':=QR w) fun x _ hx=>Nat.le_trans HF0.out.size hx);have HL2:=hid hl2;clear hf2 hb2 hl2 HF0;go_wp2_with fail;refine (Qh8 w2 s HI.out.2).mono ?_;rintro e w3 ⟨rfl,hf3⟩;have HF3:=hid (HF2.out.trans hf3 fun _ _ e=>e);have HB3:=hid (HB2.out.frm0 hf3);have HK0:=hid (Qb w3 (.cells kc0 299 (0,0)));have hk1:=setRow_heap _ _ _ (Jb s) _ _ HK0.out;have hf4:Frm NoB w3 ((w3.alloc (.cells kc0 299 (0,0))).setRow w3.heap.size (Jb s)):=((Frm.refl NoB w3).alloc _).setRowNew (Nat.le_refl _) _;have HF4:=hid (HF3.out.trans hf4 fun _ _ e=>e);have HB4:=hid (HB3.out.frm0 hf4);have HK1:=hid hk1;clear hf3 HB2 HF2 HB3 HF3 hk1 hf4;go_upto_region 3 with (first | (refine Qg rfl _ _ OZ rfl ?_) | (refine Eo rfl _ _ rfl w3.heap.size (Qj s) (Qr s HI.out.2) rfl rfl _ rfl HK0.out ?_))
 obtain ⟨gk,hgk⟩: ∃gk,w3.heap.size=gk:=⟨_,rfl⟩;rw [hgk] at HF4 HB4 HK1 ⊢;show Code.wp prog _ _ _ ((w3.alloc (.cells kc0 299 (0,0))).setRow gk (Jb s));obtain ⟨w5,hw5⟩: ∃w5,(w3.alloc (.cells kc0 299 (0,0))).setRow gk (Jb s)=w5:=⟨_,rfl⟩;rw [hw5] at HF4 HB4 HK1 ⊢;clear hw5 hgk HK0;have hkl:=Qr s HI.out.2;obtain ⟨cs,hcp,hf6,hb6⟩:=Qej (HB4.out.frm0 (Frm.refl NoB w5).drew) HF4.out.drew (by rw [HL2.out];omega) 4 (sa:=⟨gk,0,none⟩) (sl:=51) (sc:=51) (Qj s) (by rw [HL2.out,hkl];omega) (by rw [HL2.out,hkl];rfl) (fun j u hj=>by
  rw [Qa7];refine (Qa (w:=w5.drew) HK1.out).trans ?_;unfold Jb;rw [List.getElem?_toArray];exact hj)
 rw [HL2.out,hkl] at hcp;have H6:=hid (H.out.mkByt hf6 hb6);have hv4: ¬vc=4:=by omega
 have HWR:=hid (KW.out _ vb vo vc H6.out);clear hf6 hb6 HF4 HB4 HK1 KW hkl;go_region;go_wp2_with fail;refine HWR.out.mono ?_;rintro e w7 ⟨rfl,hp⟩;have HP:=hid hp;clear hp;go_wp2;go_ret;exact ⟨rfl,HP.out⟩
theorem Ww {α β:Type} (f:α→Option β): ∀(l:List α),(∀x∈l,∃y,f x=some y)→∃ys,l.mapM f=some ys
 | [],_=>⟨[],rfl⟩
 | a::l,h=>by
   obtain ⟨y,hy⟩:=h a (List.mem_cons_self ..);obtain ⟨ys,hys⟩:=Ww f l fun x hx=>h x (List.mem_cons_of_mem _ hx)
   exact ⟨y::ys,by rw [List.mapM_cons,hy,hys];rfl⟩
def JA (b:Blk):Value:= .agg (b.map B8).toArray
def okK (b:Blk):Prop:=b.length=51
theorem QgN:prog.keyType 299=true:=by kernel_rfl
theorem Qcy:prog.cellsOf 299=51:=by kernel_rfl
theorem QeU:prog.cellsOf 5=1:=by kernel_rfl
theorem wfU8 (x:UInt8):(Lit.int .u8 (x.toNat:Int)).wf=true:=by
 have:x.toNat<256:=x.toNat_lt;have h0:IntKind.u8.min=0:=by decide
 have h1:IntKind.u8.max=255:=by decide
 simp [Lit.wf,h0,h1];omega
theorem WQ (d:Nat) (x:UInt8):prog.keyLits (d+1) 5 [B8 x]=some [.int .u8 (x.toNat:Int)]:=by
 unfold Program.keyLits B8;simp only [underlying5,wfU8,and_self,if_true]
theorem Qe1 (b:Blk) (h:okK b): ∃l,keyOf prog 299 (JA b)=some l:=by
 obtain ⟨d,hd⟩:=Ez;have hl:b.length=51:=h;unfold keyOf JA;simp only [underlying299];rw [if_pos (by simp [QgN,Value.formed,underlying299,Qcy,hl]),hd];unfold Program.keyLits;simp only [underlying299,Value.cells];rw [if_pos (by rw [Qcy];simp [hl])];obtain ⟨ys,hys⟩:=Ww (fun i=>prog.keyLits (d+1) 5 (((b.map B8).toArray.toList.drop (i*prog.cellsOf 5)).take (prog.cellsOf 5))) (List.range 51) fun i hi=>by
  have hi:=List.mem_range.1 hi;rw [QeU,Nat.mul_one];refine ⟨[.int .u8 ((b[i]'(by omega)).toNat:Int)],?_⟩;have e:((b.map B8).drop i).take 1= [B8 (b[i]'(by omega))]:=by
   rw [List.drop_eq_getElem_cons (by rw [List.length_map];omega)];simp
  rw [e];exact WQ d _
 rw [hys];exact ⟨_,rfl⟩
theorem Qa2:JK prog 299 JA okK:=by
 have K:WideMaps.KeyLaw prog 299:=deep_law_laid UE (m:=2) (by omega) (by decide+kernel) (by kernel_rfl) (by kernel_rfl);refine ⟨Go.Maps.Keyed.of_law K,fun a ha=>Qe1 a ha,fun a b h=>?_⟩;have h1:(a.map B8)=(b.map B8):=by
  unfold JA at h;injection h with h
  exact congrArg Array.toList h |> fun h=>by simpa using h
 have: ∀(a b:Blk),a.map B8=b.map B8→a=b:=fun a=>by
  induction a with
  | nil=>intro b h;cases b with
    | nil=>rfl
    | cons y b=>cases h
  | cons x a ih=>intro b h;cases b with
    | nil=>cases h
    | cons y b=>
      rw [List.map_cons,List.map_cons,List.cons.injEq] at h;have h2:B8 x=B8 y:=h.1;have:(x.toNat:Int)=y.toNat:=by unfold B8 at h2;injection h2
      rw [ih b h.2,UInt8.toNat_inj.1 (by omega:x.toNat=y.toNat)]
 exact this a b h1
def slK (b:Blk) (k:Nat):Blk:=(b.drop (64*k+4)).take 51
def slI (b:Blk) (k:Nat):Nat:=getLE b (64*k) 4
def slU (b:Blk) (k:Nat):Bool:=b.getD (64*k+4) 0!=0
def slV (b:Blk) (k:Nat):Value:= .agg #[.int .i64 (64*k:Nat),.int .i64 (slI b k)]
def slM (b:Blk):Nat→Blk→Option Value
 | 0=>fun _=>none
 | n+1=>fun a=>if slU b n=true∧a=slK b n then some (slV b n) else slM b n a
def slF (b:Blk) (n:Nat):Option Nat:=(List.range n).find? fun k=>!slU b k
structure Un (b:Blk):Prop where
 whole:b.length%64=0
 once: ∀i j,i<b.length/64→j<b.length/64→slU b i=true→slU b j=true→slK b i=slK b j→i=j
theorem QbS {b:Blk} {n k:Nat} (h:slF b n=some k):k<n∧slU b k=false:=by
 have h1:=List.find?_some h;have h2:=List.mem_range.1 (List.mem_of_find?_eq_some h);exact ⟨h2,by simpa using h1⟩
theorem O8 (b:Blk) (n:Nat):slF b (n+1)=(slF b n).or (if slU b n then none else some n):=by
 unfold slF;rw [List.range_succ,List.find?_append]
 congr 1
 rw [List.find?_singleton];cases slU b n<;>rfl
def NmS (s:ByteArray):Prop:=1≤s.size∧s.size≤50
def slX (b:Blk):Nat→Blk→Option Nat
 | 0=>fun _=>none
 | n+1=>fun a=>if slU b n=true∧a=slK b n then some n else slX b n a
theorem O0 (b:Blk) (a:Blk): ∀n,slM b n a=(slX b n a).map (slV b)
 | 0=>rfl
 | n+1=>by
   show (if slU b n=true∧a=slK b n then some (slV b n) else slM b n a)=Option.map (slV b) (if slU b n=true∧a=slK b n then some n else slX b n a);rw [O0 b a n];split<;>rfl
theorem Kz (b:Blk) (a:Blk): ∀n k,slX b n a=some k→k<n∧slU b k=true∧slK b k=a
 | 0,_,h=>by cases h
 | n+1,k,h=>by
   have h:(if slU b n=true∧a=slK b n then some n else slX b n a)=some k:=h;by_cases e:slU b n=true∧a=slK b n
   ·rw [if_pos e] at h;cases h;exact ⟨Nat.lt_succ_self _,e.1,e.2.symm⟩
   ·rw [if_neg e] at h;obtain ⟨q1,q2⟩:=Kz b a n k h;exact ⟨by omega,q2⟩
theorem Wk {b a:Blk}: ∀ {n:Nat},slX b n a=none→∀k,k<n→slU b k=true→slK b k≠a
 | 0,_,k,hk,_=>by omega
 | n+1,h,k,hk,hu=>by
   have h:(if slU b n=true∧a=slK b n then some n else slX b n a)=none:=h;by_cases e:slU b n=true∧a=slK b n
   ·rw [if_pos e] at h;cases h
   ·rw [if_neg e] at h;by_cases ek:k=n
    ·subst ek;intro x;exact e ⟨hu,x.symm⟩
    ·exact Wk h k (by omega) hu
def JJ (b a:Blk):Option Nat:=(slX b (b.length/64) a).map (slI b)
theorem Kh {b a:Blk} (h:Un b) {i:Nat}:JJ b a=some i↔∃k,k<b.length/64∧slU b k=true∧slK b k=a∧slI b k=i:=by
 unfold JJ;constructor
 ·intro h;cases hx:slX b (b.length/64) a with
  | none=>rw [hx] at h;cases h
  | some k=>
    rw [hx] at h;obtain ⟨q1,q2,q3⟩:=Kz b a _ k hx;exact ⟨k,q1,q2,q3,Option.some.inj h⟩
 ·rintro ⟨k,q1,q2,q3,q4⟩;cases hx:slX b (b.length/64) a with
  | none=>exact absurd q3 (Wk hx k q1 q2)
  | some m=>
    obtain ⟨r1,r2,r3⟩:=Kz b a _ m hx;have:=h.once k m q1 r1 q2 r2 (q3.trans r3.symm);subst this;rw [←q4];rfl
theorem Vl {b a:Blk}:JJ b a=none↔∀k,k<b.length/64→slU b k=true→slK b k≠a:=by
 unfold JJ;constructor
 ·intro h;cases hx:slX b (b.length/64) a with
  | none=>exact Wk hx
  | some k=>rw [hx] at h;cases h
 ·intro h;cases hx:slX b (b.length/64) a with
  | none=>rfl
  | some k=>
    obtain ⟨q1,q2,q3⟩:=Kz b a _ k hx;exact absurd q3 (h k q1 q2)
theorem QdM {b c:Blk} {k:Nat} (h: ∀p,64*k≤p→p<64*k+64→c[p]?=b[p]?):slU c k=slU b k∧slK c k=slK b k∧slI c k=slI b k:=by
 refine ⟨?_,?_,?_⟩
 ·unfold slU;rw [List.getD_eq_getElem?_getD,List.getD_eq_getElem?_getD,h _ (by omega) (by omega)]
 ·unfold slK;apply List.ext_getElem?;intro i;rw [List.getElem?_take,List.getElem?_take,List.getElem?_drop,List.getElem?_drop];split
  ·exact h _ (by omega) (by omega)
  ·rfl
 ·unfold slI;exact Yh fun i h1 h2=>h i (by omega) (by omega)
structure Over (b c:Blk) (a:Nat) (x:Blk):Prop where
 len:c.length=max b.length (a+x.length)
 byte: ∀p,p<c.length→c[p]?=if a≤p∧p<a+x.length then x[p-a]? else b[p]?
structure Wx (x:Blk) (i:Nat) (key:Blk):Prop where
 len:x.length=64
 num:getLE x 0 4=i
 key:(x.drop 4).take 51=key
theorem Over.same {b c x:Blk} {a:Nat} (h:Over b c a x) (ha:a≤b.length) {k:Nat} (hk:64*k+64≤b.length) (hd:64*k+64≤a∨a+x.length≤64*k):slU c k=slU b k∧slK c k=slK b k∧slI c k=slI b k:=
 QdM fun p h1 h2=>by rw [h.byte p (by rw [h.len];omega),if_neg (by omega)]
theorem Over.at {b c x:Blk} {k i:Nat} {key:Blk} (h:Over b c (64*k) x) (hx:Wx x i key):slK c k=key∧slI c k=i∧slU c k=(key.getD 0 0!=0):=by
 have hl:=h.len;have hxl:=hx.len;have hb: ∀p,p<64→c[64*k+p]?=x[p]?:=fun p hp=>by
  rw [h.byte _ (by omega),if_pos (by omega),show 64*k+p-64*k=p by omega]
 have hK:slK c k=key:=by
  rw [←hx.key];unfold slK;apply List.ext_getElem?;intro j;rw [List.getElem?_take,List.getElem?_take,List.getElem?_drop,List.getElem?_drop];split
  ·rw [Nat.add_assoc,hb _ (by omega)]
  ·rfl
 refine ⟨hK,?_,?_⟩
 ·rw [←hx.num];unfold slI getLE
  congr 1
  apply List.ext_getElem?;intro j;rw [List.getElem?_take,List.getElem?_take,List.getElem?_drop,List.getElem?_drop];split
  ·rw [hb _ (by omega),Nat.zero_add]
  ·rfl
 ·rw [←hx.key];unfold slU;rw [List.getD_eq_getElem?_getD,List.getD_eq_getElem?_getD,List.getElem?_take,if_pos (by omega),List.getElem?_drop,hb _ (by omega)]
theorem Un.put {b c x:Blk} {k i:Nat} {key:Blk} (hd:Un b) (hk:64*k≤b.length) (h:Over b c (64*k) x) (hx:Wx x i key) (hu:(key.getD 0 0!=0)=true) (hno: ∀m,m<b.length/64→slU b m=true→slK b m=key→m=k) (hfr:k<b.length/64→slU b k=true→slK b k=key):
 Un c∧JJ c key=some i∧∀a,a≠key→JJ c a=JJ b a:=by
 have hl:=h.len;have hxl:=hx.len;have hw:=hd.whole;obtain ⟨e1,e2,e3⟩:=h.at hx;have hcl:c.length/64=max (b.length/64) (k+1):=by omega
 have ho: ∀m,m<c.length/64→m≠k→m<b.length/64∧slU c m=slU b m∧slK c m=slK b m∧slI c m=slI b m:=fun m hm hne=>by
  have hmb:m<b.length/64:=by omega
  exact ⟨hmb,h.same hk (by omega) (by omega)⟩
 have hok:Un c:=by
  refine ⟨by omega,fun m n hm hn um un e=>?_⟩;by_cases em:m=k
  ·by_cases en:n=k
   ·rw [em,en]
   ·obtain ⟨q1,q2,q3,_⟩:=ho n hn en;rw [em,e1] at e;have:=hno n q1 (q2▸un) (q3▸e.symm);exact absurd this en
  ·obtain ⟨q1,q2,q3,_⟩:=ho m hm em;by_cases en:n=k
   ·rw [en,e1] at e;have:=hno m q1 (q2▸um) (q3▸e);exact absurd this em
   ·obtain ⟨r1,r2,r3,_⟩:=ho n hn en;exact hd.once m n q1 r1 (q2▸um) (r2▸un) (by rw [←q3,←r3];exact e)
 refine ⟨hok,(Kh hok).2 ⟨k,by omega,by rw [e3];exact hu,e1,e2⟩,fun a ha=>?_⟩;cases hb:JJ b a with
 | some j=>
   obtain ⟨m,q1,q2,q3,q4⟩:=(Kh hd).1 hb;have hmk:m≠k:=fun e=>ha (by rw [←q3,e];exact hfr (e▸q1) (e▸q2))
   obtain ⟨_,r2,r3,r4⟩:=ho m (by omega) hmk;exact (Kh hok).2 ⟨m,by omega,r2.trans q2,r3.trans q3,r4.trans q4⟩
 | none=>
   refine Vl.2 fun m hm um em=>?_
   by_cases e:m=k
   ·rw [e,e1] at em;exact ha em.symm
   ·obtain ⟨q1,q2,q3,_⟩:=ho m hm e;exact Vl.1 hb m q1 (q2▸um) (q3▸em)
theorem Un.wipe {b c x:Blk} {k i:Nat} {key z:Blk} (hd:Un b) (hk:k<b.length/64) (h:Over b c (64*k) x) (hx:Wx x i z) (hz:(z.getD 0 0!=0)=false) (hu:slU b k=true) (he:slK b k=key):
 Un c∧c.length=b.length∧JJ c key=none∧∀a,a≠key→JJ c a=JJ b a:=by
 have hl:=h.len;have hxl:=hx.len;have hw:=hd.whole;obtain ⟨e1,e2,e3⟩:=h.at hx;have hcl:c.length=b.length:=by omega
 have ho: ∀m,m<c.length/64→m≠k→m<b.length/64∧slU c m=slU b m∧slK c m=slK b m∧slI c m=slI b m:=fun m hm hne=>by
  have hmb:m<b.length/64:=by omega
  exact ⟨hmb,h.same (by omega) (by omega) (by omega)⟩
 have hok:Un c:=by
  refine ⟨by omega,fun m n hm hn um un e=>?_⟩;have em:m≠k:=fun x=>by rw [x,e3,hz] at um;cases um
  have en:n≠k:=fun x=>by rw [x,e3,hz] at un;cases un
  obtain ⟨q1,q2,q3,_⟩:=ho m hm em;obtain ⟨r1,r2,r3,_⟩:=ho n hn en;exact hd.once m n q1 r1 (q2▸um) (r2▸un) (by rw [←q3,←r3];exact e)
 refine ⟨hok,hcl,?_,fun a ha=>?_⟩
 ·refine Vl.2 fun m hm um em=>?_
  have emk:m≠k:=fun x=>by rw [x,e3,hz] at um;cases um
  obtain ⟨q1,q2,q3,_⟩:=ho m hm emk;exact emk (hd.once m k q1 hk (q2▸um) hu (by rw [←q3,em,he]))
 ·cases hb:JJ b a with
  | some j=>
    obtain ⟨m,q1,q2,q3,q4⟩:=(Kh hd).1 hb;have hmk:m≠k:=fun e=>ha (by rw [←q3,e,he])
    obtain ⟨_,r2,r3,r4⟩:=ho m (by omega) hmk;exact (Kh hok).2 ⟨m,by omega,r2.trans q2,r3.trans q3,r4.trans q4⟩
  | none=>
    refine Vl.2 fun m hm um em=>?_
    by_cases e:m=k
    ·rw [e,e3,hz] at um;cases um
    ·obtain ⟨q1,q2,q3,_⟩:=ho m hm e;exact Vl.1 hb m q1 (q2▸um) (q3▸em)
theorem Qfw (s:ByteArray) (h:NmS s):((Qj s).getD 0 0!=0)=true:=by
 unfold Qj;have h1:=h.1;have h2:=h.2;have:(UInt8.ofNat s.size).toNat=s.size:=by rw [UInt8.toNat_ofNat'];omega
 have hne:UInt8.ofNat s.size≠0:=fun e=>by rw [e] at this;have:(0:UInt8).toNat=0:=rfl;omega
 simpa using hne
theorem JO (s t:ByteArray) (hs:s.size≤50) (ht:t.size≤50) (h:Qj s=Qj t):s=t:=by
 unfold Qj at h;rw [List.cons.injEq] at h;have e:s.size=t.size:=by
  have:=congrArg UInt8.toNat h.1;rw [UInt8.toNat_ofNat',UInt8.toNat_ofNat'] at this;omega
 have hl:s.data.toList.length=s.size:=by rw [Array.length_toList];rfl
 have hl2:t.data.toList.length=t.size:=by rw [Array.length_toList];rfl
 have:=(List.append_inj h.2 (by omega)).1;have e2:s.data=t.data:=Array.toList_inj.1 this;cases s;cases t;cases e2;rfl
abbrev Path:=List ByteArray
inductive Nd where
 | dir (n:Nat)
 | file (b:Blk)
def Nd.kind:Nd→Nat
 | .dir _=>2
 | .file _=>1
def Nd.size:Nd→Nat
 | .dir n=>n
 | .file b=>b.length
structure Rep (X:Sys) (A:Path→Option Nd) (ι:Path→Nat):Prop where
 ok:J5 X
 root: ∃n,A []=some (.dir n)
 zero:ι []=0
 live: ∀p x,A p=some x→X.live (ι p)∧X.nd (ι p) 0=x.kind∧X.nd (ι p) 1=x.size
 dir: ∀p n,A p=some (.dir n)→Un (X.bytes (ι p))
 name: ∀p n,A p=some (.dir n)→∀a,JJ (X.bytes (ι p)) a≠none→∃s,NmS s∧a=Qj s∧A (p++ [s])≠none
 leads: ∀p s,A (p++ [s])≠none→JJ (X.bytes (ι p)) (Qj s)=some (ι (p++ [s]))
 file: ∀p b,A p=some (.file b)→X.bytes (ι p)=b
 inj: ∀p q,A p≠none→A q≠none→ι p=ι q→p=q
 up: ∀p s,A (p++ [s])≠none→NmS s∧∃n,A p=some (.dir n)
theorem Ep {p q:Path} {s t:ByteArray} (h:q++ [t]=p++ [s]):q=p∧t=s:=by
 have:=List.append_inj' h rfl;exact ⟨this.1,by simpa using this.2⟩
theorem O3 (p:Path) (s:ByteArray):p++ [s]≠p:=fun h=>by
 have:=congrArg List.length h;simp at this
theorem Rep.find {X:Sys} {A:Path→Option Nd} {ι:Path→Nat} (h:Rep X A ι) {p:Path} {n:Nat} (hp:A p=some (.dir n)) {s:ByteArray} (hs:NmS s):JJ (X.bytes (ι p)) (Qj s)=if A (p++ [s])≠none then some (ι (p++ [s])) else none:=by
 by_cases e:A (p++ [s])≠none
 ·rw [if_pos e];exact h.leads p s e
 ·rw [if_neg e];cases hx:JJ (X.bytes (ι p)) (Qj s) with
  | none=>rfl
  | some j=>
    obtain ⟨t,q1,q2,q3⟩:=h.name p n hp (Qj s) (by rw [hx];exact fun x=>by cases x);rw [JO s t hs.2 q1.2 q2] at e;exact absurd q3 e
def Yb (A:Path→Option Nd) (p:Path) (s:ByteArray) (x:Nd) (S:Nat):Path→Option Nd:=fun q=>if q=p++ [s] then some x else if q=p then some (.dir S) else A q
def YL (ι:Path→Nat) (p:Path) (s:ByteArray) (i:Nat):Path→Nat:=fun q=>if q=p++ [s] then i else ι q
def Q4 (A:Path→Option Nd) (p:Path) (x:Option Nd):Path→Option Nd:=fun q=>if q=p then x else A q
theorem Rep.add {X W:Sys} {A:Path→Option Nd} {ι:Path→Nat} (h:Rep X A ι) {p:Path} {n:Nat} (hp:A p=some (.dir n)) {s:ByteArray} (hs:NmS s) (hno:A (p++ [s])=none) {i k S:Nat} {x:Nd} (hx0:x= .dir 0∨x= .file []) (hok:J5 W) (hi: ¬X.live i) (hl: ∀j,W.live j↔X.live j∨j=i)
 (ho: ∀j,X.live j→j≠ι p→W.bytes j=X.bytes j∧∀m,m<13→W.nd j m=X.nd j m) (hk:W.nd (ι p) 0=2) (hS:W.nd (ι p) 1=S) (hik:W.nd i 0=x.kind) (his:W.nd i 1=0) {b:Blk} (hov:Over (X.bytes (ι p)) (W.bytes (ι p)) (64*k) b) (hsl:Wx b i (Qj s)) (hkl:64*k≤(X.bytes (ι p)).length) (hfr:k<(X.bytes (ι p)).length/64→slU (X.bytes (ι p)) k=false):
 Rep W (Yb A p s x S) (YL ι p s i):=by
 have hno': ¬A (p++ [s])≠none:=fun e=>e hno
 have hf0:JJ (X.bytes (ι p)) (Qj s)=none:=by rw [h.find hp hs,if_neg hno']
 have hlp:=h.live p _ hp;obtain ⟨d1,d2,d3⟩:=(h.dir p n hp).put hkl hov hsl (Qfw s hs) (fun m q1 q2 q3=>absurd q3 (Vl.1 hf0 m q1 q2)) (fun q1 q2=>by rw [hfr q1] at q2;cases q2);have hne:ι p≠i:=fun e=>hi (e▸hlp.1)
 have eip:YL ι p s i p=ι p:=if_neg (fun e=>O3 p s e.symm);have ein:YL ι p s i (p++ [s])=i:=if_pos rfl;have eAn:Yb A p s x S (p++ [s])=some x:=if_pos rfl;have eAp:Yb A p s x S p=some (.dir S):=by unfold Yb;rw [if_neg (fun e=>O3 p s e.symm),if_pos rfl]
 have eAo: ∀q,q≠p++ [s]→q≠p→Yb A p s x S q=A q:=fun q q1 q2=>by unfold Yb;rw [if_neg q1,if_neg q2]
 have eio: ∀q,q≠p++ [s]→YL ι p s i q=ι q:=fun q q1=>if_neg q1
 have hbi:W.bytes i= []:=by
  have:=Jr W i;rw [his] at this;exact List.eq_nil_of_length_eq_zero this
 have hoth: ∀q y,A q=some y→q≠p→W.bytes (ι q)=X.bytes (ι q)∧∀m,m<13→W.nd (ι q) m=X.nd (ι q) m:=fun q y hq hne=>ho _ (h.live q y hq).1 fun e=>hne (h.inj q p (by rw [hq];exact fun x=>by cases x) (by rw [hp];exact fun x=>by cases x) e)
 have hpn: ∀q,Yb A p s x S q≠none↔q=p++ [s]∨A q≠none:=fun q=>by
  by_cases e1:q=p++ [s]
  ·rw [e1,eAn];simp
  ·by_cases e2:q=p
   ·rw [e2,eAp,hp];simp
   ·rw [eAo q e1 e2];simp [e1]
 have hch: ∀t,¬A (p++ [s]++ [t])≠none:=fun t e=>by
  obtain ⟨_,m,hm⟩:=h.up _ _ e;rw [hno] at hm;cases hm
 refine ⟨hok,?_,?_,fun q y hq=>?_,fun q m hq=>?_,fun q m hq a ha=>?_,fun q t hq=>?_,fun q c hq=>?_,fun q r hq hr e=>?_,fun q t hq=>?_⟩
 ·obtain ⟨m,hm⟩:=h.root;by_cases e:([]:Path)=p
  ·exact ⟨S,by rw [e];exact eAp⟩
  ·exact ⟨m,by rw [eAo _ (fun x=>by simp at x) e];exact hm⟩
 ·rw [eio _ (fun x=>by simp at x)];exact h.zero
 ·by_cases e1:q=p++ [s]
  ·subst e1;rw [eAn] at hq;cases hq;rw [ein];refine ⟨(hl i).2 (.inr rfl),hik,?_⟩;rw [his];rcases hx0 with e | e<;>rw [e]<;>rfl
  ·by_cases e2:q=p
   ·subst e2;rw [eAp] at hq;cases hq;rw [eip];exact ⟨(hl _).2 (.inl hlp.1),hk,hS⟩
   ·rw [eAo q e1 e2] at hq;have g:=h.live q y hq;have o:=hoth q y hq e2;rw [eio q e1];exact ⟨(hl _).2 (.inl g.1),(o.2 0 (by omega)).trans g.2.1,(o.2 1 (by omega)).trans g.2.2⟩
 ·by_cases e1:q=p++ [s]
  ·subst e1;rw [ein,hbi];exact ⟨rfl,fun i j hi=>by simp at hi⟩
  ·by_cases e2:q=p
   ·subst e2;rw [eip];exact d1
   ·rw [eAo q e1 e2] at hq;rw [eio q e1,(hoth q _ hq e2).1];exact h.dir q m hq
 ·by_cases e1:q=p++ [s]
  ·subst e1;rw [ein,hbi] at ha;exact absurd rfl ha
  ·by_cases e2:q=p
   ·subst e2;rw [eip] at ha;by_cases e3:a=Qj s
    ·exact ⟨s,hs,e3,(hpn _).2 (.inl rfl)⟩
    ·rw [d3 a e3] at ha;obtain ⟨t,q1,q2,q3⟩:=h.name q n hp a ha;exact ⟨t,q1,q2,(hpn _).2 (.inr q3)⟩
   ·rw [eAo q e1 e2] at hq;rw [eio q e1,(hoth q _ hq e2).1] at ha;obtain ⟨t,q1,q2,q3⟩:=h.name q m hq a ha;exact ⟨t,q1,q2,(hpn _).2 (.inr q3)⟩
 ·by_cases e:q++ [t]=p++ [s]
  ·obtain ⟨e1,e2⟩:=Ep e;rw [e1,e2,eip,ein];exact d2
  ·have hA:=((hpn _).1 hq).resolve_left e;have hl:=h.leads q t hA;rw [eio _ e];obtain ⟨hts,m,hqd⟩:=h.up q t hA;have e1:q≠p++ [s]:=fun x=>hch t (x▸hA)
   rw [eio q e1];by_cases e2:q=p
   ·subst e2;rw [d3 _ (fun x=>e (by rw [JO t s hts.2 hs.2 x])),hl]
   ·rw [(hoth q _ hqd e2).1,hl]
 ·by_cases e1:q=p++ [s]
  ·subst e1;rw [eAn] at hq;cases hq;rcases hx0 with e | e
   ·cases e
   ·cases e;rw [ein,hbi]
  ·by_cases e2:q=p
   ·subst e2;rw [eAp] at hq;cases hq
   ·rw [eAo q e1 e2] at hq;rw [eio q e1,(hoth q _ hq e2).1];exact h.file q c hq
 ·have g: ∀q,A q≠none→ι q≠i:=fun q hq e=>by
   cases hx:A q with
   | none=>exact hq hx
   | some y=>exact hi (e▸(h.live q y hx).1)
  have hq:=(hpn q).1 hq;have hr:=(hpn r).1 hr;by_cases e1:q=p++ [s]
  ·by_cases e2:r=p++ [s]
   ·rw [e1,e2]
   ·rw [e1,ein,eio r e2] at e;exact absurd e.symm (g r (hr.resolve_left e2))
  ·by_cases e2:r=p++ [s]
   ·rw [e2,ein,eio q e1] at e;exact absurd e (g q (hq.resolve_left e1))
   ·rw [eio q e1,eio r e2] at e;exact h.inj q r (hq.resolve_left e1) (hr.resolve_left e2) e
 ·by_cases e:q++ [t]=p++ [s]
  ·obtain ⟨e1,e2⟩:=Ep e;rw [e1,e2];exact ⟨hs,S,eAp⟩
  ·have hA:=((hpn _).1 hq).resolve_left e;obtain ⟨q1,m,q2⟩:=h.up q t hA;have e1:q≠p++ [s]:=fun x=>hch t (x▸hA)
   by_cases e2:q=p
   ·exact ⟨q1,S,by rw [e2];exact eAp⟩
   ·exact ⟨q1,m,by rw [eAo q e1 e2];exact q2⟩
theorem Rep.edit {X W:Sys} {A:Path→Option Nd} {ι:Path→Nat} (h:Rep X A ι) {p:Path} {b c:Blk} (hp:A p=some (.file b)) (hok:J5 W) (hl: ∀j,W.live j↔X.live j) (ho: ∀j,X.live j→j≠ι p→W.bytes j=X.bytes j∧∀m,m<13→W.nd j m=X.nd j m) (hk:W.nd (ι p) 0=X.nd (ι p) 0) (hS:W.nd (ι p) 1=c.length) (hc:W.bytes (ι p)=c):
 Rep W (Q4 A p (some (.file c))) ι:=by
 have hlp:=h.live p _ hp;have hoth: ∀q y,A q=some y→q≠p→W.bytes (ι q)=X.bytes (ι q)∧∀m,m<13→W.nd (ι q) m=X.nd (ι q) m:=fun q y hq hne=>ho _ (h.live q y hq).1 fun e=>hne (h.inj q p (by rw [hq];exact fun x=>by cases x) (by rw [hp];exact fun x=>by cases x) e)
 have eAp:Q4 A p (some (.file c)) p=some (.file c):=if_pos rfl;have eAo: ∀q,q≠p→Q4 A p (some (.file c)) q=A q:=fun q q1=>if_neg q1
 have hpn: ∀q,Q4 A p (some (.file c)) q≠none↔A q≠none:=fun q=>by
  by_cases e:q=p
  ·rw [e,eAp,hp];simp
  ·rw [eAo q e]
 have hnd: ∀q m,A q=some (.dir m)→q≠p:=fun q m hq e=>by rw [e,hp] at hq;cases hq
 have hnd': ∀q m,Q4 A p (some (.file c)) q=some (.dir m)→q≠p∧A q=some (.dir m):=fun q m hq=>by
  have:q≠p:=fun e=>by rw [e,eAp] at hq;cases hq
  exact ⟨this,by rw [eAo q this] at hq;exact hq⟩
 refine ⟨hok,?_,h.zero,fun q y hq=>?_,fun q m hq=>?_,fun q m hq a ha=>?_,fun q t hq=>?_,fun q c' hq=>?_,fun q r hq hr e=>h.inj q r ((hpn q).1 hq) ((hpn r).1 hr) e,fun q t hq=>?_⟩
 ·obtain ⟨m,hm⟩:=h.root;exact ⟨m,by rw [eAo _ (hnd _ _ hm)];exact hm⟩
 ·by_cases e:q=p
  ·subst e;rw [eAp] at hq;cases hq;exact ⟨(hl _).2 hlp.1,hk.trans hlp.2.1,hS⟩
  ·rw [eAo q e] at hq;have g:=h.live q y hq;have o:=hoth q y hq e;exact ⟨(hl _).2 g.1,(o.2 0 (by omega)).trans g.2.1,(o.2 1 (by omega)).trans g.2.2⟩
 ·obtain ⟨q1,q2⟩:=hnd' q m hq;rw [(hoth q _ q2 q1).1];exact h.dir q m q2
 ·obtain ⟨q1,q2⟩:=hnd' q m hq;rw [(hoth q _ q2 q1).1] at ha;obtain ⟨t,r1,r2,r3⟩:=h.name q m q2 a ha;exact ⟨t,r1,r2,(hpn _).2 r3⟩
 ·have hA:=(hpn _).1 hq;obtain ⟨_,m,q2⟩:=h.up q t hA;rw [(hoth q _ q2 (hnd q m q2)).1];exact h.leads q t hA
 ·by_cases e:q=p
  ·subst e;rw [eAp] at hq;cases hq;exact hc
  ·rw [eAo q e] at hq;rw [(hoth q _ hq e).1];exact h.file q c' hq
 ·obtain ⟨q1,m,q2⟩:=h.up q t ((hpn _).1 hq);exact ⟨q1,m,by rw [eAo q (hnd q m q2)];exact q2⟩
theorem Rep.gone {X W:Sys} {A:Path→Option Nd} {ι:Path→Nat} (h:Rep X A ι) {p:Path} {n:Nat} (hp:A p=some (.dir n)) {s:ByteArray} (hs:A (p++ [s])≠none) (hno: ∀t,A (p++ [s]++ [t])=none) {k:Nat} (hok:J5 W) (hl: ∀j,W.live j↔X.live j∧j≠ι (p++ [s]))
 (ho: ∀j,X.live j→j≠ι p→j≠ι (p++ [s])→W.bytes j=X.bytes j∧∀m,m<13→W.nd j m=X.nd j m) (hk:W.nd (ι p) 0=2) (hS:W.nd (ι p) 1=n) {b z:Blk} (hov:Over (X.bytes (ι p)) (W.bytes (ι p)) (64*k) b) (hsl:Wx b 0 z) (hz:(z.getD 0 0!=0)=false) (hkl:k<(X.bytes (ι p)).length/64) (hu:slU (X.bytes (ι p)) k=true) (hkey:slK (X.bytes (ι p)) k=Qj s):
 Rep W (Q4 A (p++ [s]) none) ι:=by
 obtain ⟨hss,_⟩:=h.up p s hs;have hlp:=h.live p _ hp;obtain ⟨d1,d0,d2,d3⟩:=(h.dir p n hp).wipe hkl hov hsl hz hu hkey;have hne:p≠p++ [s]:=fun e=>O3 p s e.symm
 have eAo: ∀q,q≠p++ [s]→Q4 A (p++ [s]) none q=A q:=fun q q1=>if_neg q1
 have hnn: ∀q,Q4 A (p++ [s]) none q≠none↔q≠p++ [s]∧A q≠none:=fun q=>by
  by_cases e:q=p++ [s]
  ·rw [e];unfold Q4;simp
  ·rw [eAo q e];simp [e]
 have hsm: ∀q y,Q4 A (p++ [s]) none q=some y→q≠p++ [s]∧A q=some y:=fun q y hq=>by
  have:=(hnn q).1 (by rw [hq];exact fun x=>by cases x);exact ⟨this.1,by rw [eAo q this.1] at hq;exact hq⟩
 have hinj: ∀q y r,A q=some y→A r≠none→q≠r→ι q≠ι r:=fun q y r hq hr hne e=>hne (h.inj q r (by rw [hq];exact fun x=>by cases x) hr e)
 have hpp:A p≠none:=by rw [hp];exact fun x=>by cases x
 have hoth: ∀q y,A q=some y→q≠p→q≠p++ [s]→W.bytes (ι q)=X.bytes (ι q)∧∀m,m<13→W.nd (ι q) m=X.nd (ι q) m:=fun q y hq h1 h2=>ho _ (h.live q y hq).1 (hinj q y p hq hpp h1) (hinj q y _ hq hs h2)
 refine ⟨hok,?_,h.zero,fun q y hq=>?_,fun q m hq=>?_,fun q m hq a ha=>?_,fun q t hq=>?_,fun q c' hq=>?_,fun q r hq hr e=>h.inj q r ((hnn q).1 hq).2 ((hnn r).1 hr).2 e,fun q t hq=>?_⟩
 ·obtain ⟨m,hm⟩:=h.root;exact ⟨m,by rw [eAo _ (fun x=>by simp at x)];exact hm⟩
 ·obtain ⟨q1,q2⟩:=hsm q y hq;have g:=h.live q y q2;refine ⟨(hl _).2 ⟨g.1,hinj q y _ q2 hs q1⟩,?_⟩;by_cases e:q=p
  ·subst e;rw [hp] at q2;cases q2;exact ⟨hk,hS⟩
  ·have o:=hoth q y q2 e q1;exact ⟨(o.2 0 (by omega)).trans g.2.1,(o.2 1 (by omega)).trans g.2.2⟩
 ·obtain ⟨q1,q2⟩:=hsm q _ hq;by_cases e:q=p
  ·rw [e];exact d1
  ·rw [(hoth q _ q2 e q1).1];exact h.dir q m q2
 ·obtain ⟨q1,q2⟩:=hsm q _ hq;have key: ∀t,A (q++ [t])≠none→q++ [t]≠p++ [s]→Q4 A (p++ [s]) none (q++ [t])≠none:=fun t r1 r2=>(hnn _).2 ⟨r2,r1⟩
  by_cases e:q=p
  ·subst e;by_cases e3:a=Qj s
   ·rw [e3,d2] at ha;exact absurd rfl ha
   ·rw [d3 a e3] at ha;obtain ⟨t,r1,r2,r3⟩:=h.name q n hp a ha;exact ⟨t,r1,r2,key t r3 fun x=>e3 (by rw [r2,(Ep x).2])⟩
  ·rw [(hoth q _ q2 e q1).1] at ha;obtain ⟨t,r1,r2,r3⟩:=h.name q m q2 a ha;exact ⟨t,r1,r2,key t r3 fun x=>e (Ep x).1⟩
 ·obtain ⟨q1,q2⟩:=(hnn _).1 hq;obtain ⟨hts,m,hqd⟩:=h.up q t q2;have e1:q≠p++ [s]:=fun x=>by rw [x,hno t] at q2;exact q2 rfl
  by_cases e2:q=p
  ·subst e2;rw [d3 _ (fun x=>q1 (by rw [JO t s hts.2 hss.2 x]))];exact h.leads q t q2
  ·rw [(hoth q _ hqd e2 e1).1];exact h.leads q t q2
 ·obtain ⟨q1,q2⟩:=hsm q _ hq;by_cases e:q=p
  ·rw [e,hp] at q2;cases q2
  ·rw [(hoth q _ q2 e q1).1];exact h.file q c' q2
 ·obtain ⟨q1,q2⟩:=(hnn _).1 hq;obtain ⟨r1,m,r2⟩:=h.up q t q2;have e1:q≠p++ [s]:=fun x=>by rw [x,hno t] at q2;exact q2 rfl
  exact ⟨r1,m,by rw [eAo q e1];exact r2⟩
theorem QaX (x:Blk) (o:Nat) (b:List UInt8) (h:o+b.length≤x.length) (p:Nat):(lays x o b)[p]?=if o≤p∧p<o+b.length then b[p-o]? else x[p]?:=by
 unfold lays;by_cases h1:p<o
 ·rw [if_neg (by omega),List.append_assoc,List.getElem?_append_left (by rw [List.length_take];omega),List.getElem?_take,if_pos h1]
 ·by_cases h2:p<o+b.length
  ·rw [if_pos ⟨by omega,h2⟩,List.getElem?_append_left (by rw [List.length_append,List.length_take];omega),List.getElem?_append_right (by rw [List.length_take];omega),List.length_take,Nat.min_eq_left (by omega)]
  ·rw [if_neg (by omega),List.getElem?_append_right (by rw [List.length_append,List.length_take];omega),List.length_append,List.length_take,Nat.min_eq_left (by omega),List.getElem?_drop]
   congr 1
   omega
theorem QdO (i:Nat) (s:ByteArray) (hs:s.size≤50) (hi:i<4294967296):Wx (Kn i s) i (Qj s):=by
 have hk:=Qr s hs;have h0:(Qv (QQ 64) 0 4 i).length=64:=(Qu _ _ _ _ (by rw [QA];omega)).trans (QA 64);have hg: ∀p,(Kn i s)[p]?=if 4≤p∧p<4+51 then (Qj s)[p-4]? else (Qv (QQ 64) 0 4 i)[p]?:=fun p=>by
  have:=QaX (Qv (QQ 64) 0 4 i) 4 (Qj s) (by rw [hk,h0];omega) p;rw [hk] at this;exact this
 refine ⟨Ub i s hs,?_,?_⟩
 ·rw [Yh (bs:=Qv (QQ 64) 0 4 i) fun p h1 h2=>by rw [hg,if_neg (by omega)]];exact Q1 _ 0 4 i (by rw [QA];omega) (by omega)
 ·apply List.ext_getElem?;intro j;rw [List.getElem?_take,List.getElem?_drop];by_cases h:j<51
  ·rw [if_pos h,hg,if_pos (by omega),show 4+j-4=j by omega]
  ·rw [if_neg h,List.getElem?_eq_none (by omega)]
theorem Yp.QH {X W:Sys} {i a:Nat} {b:List UInt8} (h:Yp X W i a b) (ha:a≤X.nd i 1):Over (X.bytes i) (W.bytes i) a b:=by
 refine ⟨by rw [Jr,Jr,h.size],fun p hp=>?_⟩;rw [Jr] at hp;rw [UN W i p hp,h.byte p hp];by_cases e:a≤p∧p<a+b.length
 ·rw [if_pos e,if_pos e,List.getD_eq_getElem?_getD,List.getElem?_eq_getElem (by omega)];rfl
 ·rw [if_neg e,if_neg e];rw [h.size] at hp;exact (UN X i p (by omega)).symm
def JW (X:Sys) (C:List Nat) (i:Nat):Prop:=X.P.tb+i/8∈C∧∀k,k<dat (X.nd i 1)→X.nd i (2+k)∈C
theorem JW.mono {X:Sys} {C C':List Nat} {i:Nat} (h:JW X C i) (hC: ∀c∈C,c∈C'):JW X C' i:=⟨hC _ h.1,fun k hk=>hC _ (h.2 k hk)⟩
theorem JW.same {X W:Sys} {C:List Nat} {i:Nat} (h:JW X C i) (hP:W.P=X.P) (hs:X.nd i 1≤5120) (hn: ∀m,m<13→W.nd i m=X.nd i m):JW W C i:=
 ⟨by rw [hP];exact h.1,fun k hk=>by
  rw [hn 1 (by omega)] at hk;have:=Yq hs;rw [hn (2+k) (by omega)];exact h.2 k hk⟩
theorem QiG {X:Sys} {i kind:Nat} (hX:Jl X) (hz:Jn (X.v X.P.im) X.P.ni=some i):(X.made i kind).fi+1=X.fi:=by
 obtain ⟨hi,hb⟩:=Jf hz;have hm:=hX.maps;have hni:=hX.pl.ni.2;have h1:=hX.pl.im;have h3:=hX.pl.tb;have hml:(X.v X.P.im).length=512:=hX.len _ hm.1 hm.2.1;have e:(X.made i kind).v X.P.im=Qw (X.v X.P.im) i true:=by
  show (Sys.put (X.put X.P.im (Qw (X.v X.P.im) i true)) _ _).v X.P.im=_;rw [Sys.put_v,if_neg (by show¬X.P.im=X.P.tb+i/8;omega),Sys.put_v,if_pos rfl]
 have hp:=Us hi (by rw [hml];omega) hb;have hl:=Eu (Qw (X.v X.P.im) i true) X.P.ni;show X.P.ni-JR ((X.made i kind).v X.P.im) X.P.ni+1=X.P.ni-JR (X.v X.P.im) X.P.ni;rw [e,hp];rw [hp] at hl;omega
theorem QiQ {X:Sys} (h:0<X.fi): ∃i,Jn (X.v X.P.im) X.P.ni=some i:=OC (by unfold Sys.fi at h;omega)
theorem Qhs {vb vo vc n:Nat} (hn:n=51) (W:World):(Instr.arrayAt 299 (.slice (some ⟨vb,vo,none⟩) n vc)).run prog W= .ok (.pointer (some ⟨vb,vo,none⟩)) W:=by
 subst hn;unfold Instr.arrayAt;rw [Sem.run_bind,run_underlying underlying299 W];rfl
theorem Qc.slot {w:World} {vb vo n vc:Nat} {b:Blk} {R:Nat→Prop} (h:Qc w (.slice (some ⟨vb,vo,none⟩) n vc) b R) (k:Nat):w.rangeAt vb (vo+(64*k+4)) ((slK b k).map B8):=fun j v hj=>by
 have:=h.part (64*k+4) 51 j v hj;rw [show ((⟨vb,vo+(64*k+4),none⟩:Addr).add j)=⟨vb,vo+(64*k+4)+j,none⟩ by
  unfold Addr.add;by_cases e:j=0
  ·subst e;rfl
  ·rw [if_neg e]] at this
 exact this
theorem Qiu {b:Blk} {k:Nat} (h:64*k+55≤b.length):(slK b k).length=51:=by
 unfold slK;rw [List.length_take,List.length_drop];omega
theorem QbJ (h:At w0 w X rs) (ho:J5 X) (d:Nat) (hd:X.live d) (hk:X.nd d 0=2) (b:Blk) (hb:X.bytes d=b) (hok:b.length%64=0) (fr:Nat) (hfr:fr=((slF b (b.length/64)).map (64* ·)).getD b.length):
 Calls prog 214 #[.pointer (some ⟨X.sb,0,none⟩),.int .i64 d] w fun e w'=> ∃mb n,e= .returned (.tuple #[.map (some mb),.int .i64 fr,.int .i64 0])∧At w0 w' X rs∧Qn JA okK w' mb n (slM b (b.length/64)):=by
 have HS:=hid (QdU h d hd);have hmk: ∀W,(Instr.makeMap 293 none).run prog W= .ok (.map (some W.heap.size)) (W.alloc (.map #[] 0)):=fun W=>rfl
 have hl:=Jr X d;rw [hb] at hl;have h5:=ho.size d hd;rw [hk,←hl] at HS;obtain ⟨n,hn⟩: ∃n,b.length=n:=⟨_,rfl⟩;have HRD:Hid (∀y rs',At w0 y X rs'→Calls prog 122 #[.pointer (some ⟨X.sb,0,none⟩),.int .i64 d,.int .i64 0,.int .i64 n] y fun e w'=> ∃v,e= .returned (.tuple #[v,.int .i64 0])∧((v= .slice none 0 0∧b= []∧At w0 w' X rs')∨At w0 w' X (byt v b::rs'))):=hid fun y rs' hy=>by
  have:=Qhw hy ho d hd 0 n n (by omega) (by omega) (by rw [←hl,hn];split<;>omega);rw [hb,List.drop_zero,Nat.sub_zero,List.take_of_length_le (by omega)] at this;exact this
 rw [hn] at HS hok hfr;have HN:=hid hn;have HFR:=hid hfr;have HB:=hid (And.intro hok (show n≤5120 by omega));have n0:(0:Int)≤(n:Int):=Qk _;have n1:(n:Int)≤5120:=by omega
 clear h ho hd hk hb hok hfr hl h5 hn;go_enter func214,ntmps214;go_wp2_with fail;refine HS.out.mono ?_;clear HS;rintro e w2 ⟨rfl,h2⟩;have H2:=hid (h2.newArr #[.int .i64 2,.int .i64 n] 82 J9);clear h2;go_upto_region 2 with (refine Qg rfl _ _ JL rfl ?_)
 obtain ⟨y1,hy1,h1⟩:=H2.out.name;rw [hy1];have H1:=hid h1;clear hy1 H2;generalize w2.heap.size=g at*
 have d0:y1.cell? ⟨g,0,none⟩=some (.int .i64 2):=(h1.arrCell (i:=0) rfl 0).trans rfl;have d1:y1.cell? ⟨g,1,none⟩=some (.int .i64 n):=(h1.arrCell (i:=0) rfl 1).trans rfl;clear h1;go_wp2_with fail;refine (HRD.out _ _ H1.out).mono ?_;rintro e w3 ⟨v,rfl,hv⟩;clear d0 d1 H1 HRD;rcases hv with ⟨rfl,hb,h3⟩ | h3
 ·have hn0:n=0:=by have:=HN.out;rw [hb] at this;exact this.symm
  have HE:Hid (fr=0∧slM b (b.length/64)=fun _=>none):=hid ⟨by rw [HFR.out,hn0,hb];rfl,by rw [hb];rfl⟩;have H3:=hid h3;have HMP:=hid (Qn.made (mk:=JA) (ok:=okK) w3);have HMF:Hid (Frm NoB w3 (w3.alloc (.map #[] 0))):=hid ((Frm.refl NoB w3).alloc _);clear h3 hb hn0;go_upto_region 10 with (fail)
  obtain ⟨y3,hy3⟩: ∃y3,w3.alloc (.map #[] 0)=y3:=⟨_,rfl⟩;rw [hy3] at HMP HMF ⊢;obtain ⟨mb,hmb⟩: ∃mb,w3.heap.size=mb:=⟨_,rfl⟩;rw [hmb] at HMP ⊢;clear hy3 hmb hmk;go_wp2_with fail;go_loopw [5,9,10,11,12] (fun t5 t9 _ _ _ wr=>t9= .int .i64 0∧t5= .int .i64 (-1)∧Hid (Frm NoB w3 wr)∧Hid (Qn JA okK wr mb 0 (fun _=>none))) (fun _ t9 _ _ _ _=>(intOf t9).toNat)
  case atStart=>exact ⟨rfl,rfl,HMF,HMP⟩
  case round=>
   clear HMF HMP;obtain ⟨rfl,rfl,HF,HM⟩:=hrel;go_wp2_with fail;go_ret3;exact ⟨mb,0,by rw [HE.out.1];rfl,(H3.out.frm HF.out).drop 1,by rw [HE.out.2];exact HM.out⟩
 ·obtain ⟨vb,vo,vc,rfl,hvc,-,-⟩:=(h3.byt (i:=0) rfl).cells;rw [HN.out] at h3 ⊢;have H3:=hid h3;have HMP:=hid (Qn.made (mk:=JA) (ok:=okK) w3);have HMF:Hid (Frm NoB w3 (w3.alloc (.map #[] 0))):=hid ((Frm.refl NoB w3).alloc _);clear h3;go_upto_region 10 with (fail)
  obtain ⟨y3,hy3⟩: ∃y3,w3.alloc (.map #[] 0)=y3:=⟨_,rfl⟩;rw [hy3] at HMP HMF ⊢;obtain ⟨mb,hmb⟩: ∃mb,w3.heap.size=mb:=⟨_,rfl⟩;have HMB:=hid hmb;rw [hmb] at HMP ⊢;clear hy3 hmb hmk;go_wp2_with fail;go_loopw [5,9,10,11,12] (fun t5 t9 _ _ _ wr=> ∃(k c:Nat) (z:Int),k≤n/64∧t9= .int .i64 ((64*k:Nat):Int)∧t5= .int .i64 z∧Hid (z=((slF b k).map fun q=>((64*q:Nat):Int)).getD (-1))∧Hid (Frm NoB w3 wr)∧Hid (Qn JA okK wr mb c (slM b k))) (fun _ t9 _ _ _ _=>n-(intOf t9).toNat)
  case atStart=>exact ⟨0,0,-1,Nat.zero_le _,rfl,rfl,hid rfl,HMF,HMP⟩
  case round=>
   clear HMF HMP;obtain ⟨k,c,z,hk,rfl,rfl,HZ,HF,HM⟩:=hrel;have k0:(0:Int)≤(k:Int):=Qk _;by_cases hlt:64*k<n
   ·have l1:64*(k:Int)<(n:Int):=by omega
    have l2:64*(k:Int)+4+51≤(n:Int):=by have:=HB.out.1;omega
    have l3:(n:Int)≤(vc:Int):=by rw [HN.out] at hvc;omega
    have hst:=H3.out.frm HF.out;have hrg:=(hst.byt (i:=0) rfl).slot k;have hkl:(slK b k).length=51:=Qiu (by rw [HN.out];omega);have hap:=fun W=>Qhs (vb:=vb) (vo:=vo+(64*k+4)) (vc:=vc-(64*k+4)) rfl W
    have HRG:=hid hrg;have HKL:=hid hkl;have HI:Hid ((prog.info? 299).map (·.size)=some ((slK b k).map B8).length):=hid (by rw [List.length_map,hkl];kernel_rfl);have HK0:=hid (Qb wr (.cells kc0 299 (0,0)));clear hst hrg hkl;go_upto_region 13 with (fail)
    go_upto_region 14 with (first | (refine wpList_load_mid rfl _ _ rfl vb (vo+(64*k+4)) rfl ((slK b k).map B8) _ HRG.out underlying299 rfl HI.out ?_) | (refine Qg rfl _ _ OZ rfl ?_) | (refine Eo rfl _ _ rfl wr.heap.size (slK b k) HKL.out rfl rfl _ rfl HK0.out ?_))
    have hk1:=setRow_heap _ _ _ ((slK b k).map B8).toArray _ _ HK0.out;have hf4:Frm NoB wr ((wr.alloc (.cells kc0 299 (0,0))).setRow wr.heap.size ((slK b k).map B8).toArray):=((Frm.refl NoB wr).alloc _).setRowNew (Nat.le_refl _) _;obtain ⟨kb,hkb⟩: ∃kb,wr.heap.size=kb:=⟨_,rfl⟩;rw [hkb] at hk1 hf4 ⊢;show Code.wp prog _ _ _ ((wr.alloc (.cells kc0 299 (0,0))).setRow kb ((slK b k).map B8).toArray);obtain ⟨y4,hy4⟩: ∃y4,(wr.alloc (.cells kc0 299 (0,0))).setRow kb ((slK b k).map B8).toArray=y4:=⟨_,rfl⟩;rw [hy4] at hk1 hf4 ⊢;have HK1:=hid hk1;have HF4:=hid (HF.out.trans hf4 fun _ _ e=>e);have HM4:=hid (HM.out.frm hf4 (fun e=>e));have c0:y4.cell? ⟨kb,0,none⟩=some (B8 (b.getD (64*k+4) 0)):=by
     refine (Qa hk1).trans ?_;rw [List.getElem?_toArray,List.getElem?_map];unfold slK;rw [List.getElem?_take,if_pos (by omega),List.getElem?_drop,Nat.add_zero,List.getD_eq_getElem?_getD,List.getElem?_eq_getElem (by rw [HN.out];omega)];rfl
    have hst4:=H3.out.frm HF4.out;have hsl:=(hst4.byt (i:=0) rfl).sliceOf;have HG:=hid (YJ y4 _ b (64*k) 4 hsl (by omega) (by omega) (by rw [HN.out];omega) (by rw [HN.out];omega));have hgl:=EA b (64*k) 4 (by rw [HN.out];omega);obtain ⟨o,hup,hup2⟩:=HM4.out.update Qa2 underlying293 (a:=slK b k) HKL.out (slV b k);have HU:=hid (hup y4 rfl);have HU2:=hid (hup2 y4 HM4.out.lt);have HUF:=hid (HF4.out.trans ((Frm.refl (Q0 mb) y4).setBlock (.inl (Q0.self mb)) o) fun x hx e=>by have:x=mb:=e;have:=HMB.out;omega);clear hk1 hf4 hy4 hst4 hsl hap hup hup2 HRG HI HK0 HM HF hkb;have hv: ∀x:UInt8,B8 x= .int .u8 (x.toNat:Int):=fun _=>rfl
    rw [hv] at c0;by_cases hu:slU b k=true
    ·have hx: ¬((b.getD (64*k+4) 0).toNat:Int)=0:=fun e=>by
      have e0:(b.getD (64*k+4) 0)=0:=UInt8.toNat_inj.1 (by have:(0:UInt8).toNat=0:=rfl;omega);unfold slU at hu;rw [e0] at hu;cases hu
     have HX:=hid hu;clear hu;generalize (b.getD (64*k+4) 0).toNat=q at c0 hx;have hx2: ¬q=0:=fun e=>hx (by rw [e];rfl)
     obtain ⟨iv,hiv⟩: ∃iv,slI b k=iv:=⟨_,rfl⟩;have hiv2:getLE b (64*k) 4=iv:=hiv;have i0:(0:Int)≤(iv:Int):=Qk _;have i1:(iv:Int)<4294967296:=by rw [hiv2] at hgl;omega
     have hup:(Instr.mapUpdate 293 (.map (some mb)) (.agg ((slK b k).map B8).toArray) (.agg #[.int .i64 (64*(k:Int)),.int .i64 iv])).run prog y4= .ok () (setBlock y4 mb o):=by
      have:=HU.out;unfold slV JA at this;rw [hiv,show ((64*k:Nat):Int)=64*(k:Int) by omega] at this;exact this
     rw [hiv2,show ((64*k:Nat):Int)=64*(k:Int) by omega] at HG;have HEND:Hid (Qn JA okK (setBlock y4 mb o) mb (if (slM b k (slK b k)).isSome then c else c+1) (slM b (k+1))):=hid (HU2.out.congr fun a _=>by
      show (if slU b k=true∧a=slK b k then some (slV b k) else slM b k a)=if a=slK b k then some (slV b k) else slM b k a
      by_cases e:a=slK b k
      ·rw [if_pos ⟨HX.out,e⟩,if_pos e]
      ·rw [if_neg fun x=>e x.2,if_neg e])
     have HZ2:Hid (z=((slF b (k+1)).map fun q=>((64*q:Nat):Int)).getD (-1)):=hid (by
      rw [O8,if_pos HX.out,Option.or_none];exact HZ.out)
     have HSZ:=hid (show (((slK b k).map B8).toArray).size=51 by simp [HKL.out]);have HUP:=hid hup;have HI01:=hid (And.intro i0 i1);clear hiv hiv2 hgl HZ hup i0 i1;go_wp2_with fail;refine HG.out.mono ?_;clear HG c0;rintro e w5 ⟨rfl,rfl⟩;have hup:=HUP.out;have i0:=HI01.out.1;have i1:=HI01.out.2;clear HUP HI01;go_wp2_with (refine Qeh rfl _ rfl kb rfl _ HSZ.out HK1.out ?_);clear hup HU HU2 HM4 HF4;exact ⟨⟨k+1,_,z,by have:=HB.out.1;omega,by go_num,rfl,HZ2,HUF,HEND⟩,by simp [intOf];omega⟩
    ·have hx:((b.getD (64*k+4) 0).toNat:Int)=0:=by
      have e0:(b.getD (64*k+4) 0)=0:=by
       unfold slU at hu
       simpa using hu
      rw [e0];rfl
     have HX:Hid (slU b k=false):=hid (by simpa using hu);have HEND:Hid (Qn JA okK y4 mb c (slM b (k+1))):=hid (HM4.out.congr fun a _=>by
      show (if slU b k=true∧a=slK b k then some (slV b k) else slM b k a)=slM b k a;rw [if_neg fun x=>by rw [HX.out] at x;cases x.1])
     clear hu hgl HG HU HU2 HUF;generalize (b.getD (64*k+4) 0).toNat=q at c0 hx;obtain rfl:q=0:=by omega
     cases hF:slF b k with
     | none=>
       rw [hF] at HZ;obtain rfl:z= -1:=HZ.out;have HZ2:Hid (64*(k:Int)=((slF b (k+1)).map fun q=>((64*q:Nat):Int)).getD (-1)):=hid (by
        rw [O8,hF,HX.out];show 64*(k:Int)=((64*k:Nat):Int);omega)
       clear hF HZ;go_wp2_with fail;exact ⟨⟨k+1,_,64*(k:Int),by have:=HB.out.1;omega,by go_num,by go_num,HZ2,HF4,HEND⟩,by simp [intOf];omega⟩
     | some j=>
       rw [hF] at HZ;have hz:z=((64*j:Nat):Int):=HZ.out;have z0: ¬z<0:=by omega
       have HZ2:Hid (z=((slF b (k+1)).map fun q=>((64*q:Nat):Int)).getD (-1)):=hid (by
        rw [O8,hF];exact hz)
       clear hF HZ hz;go_wp2_with fail;exact ⟨⟨k+1,_,z,by have:=HB.out.1;omega,by go_num,rfl,HZ2,HF4,HEND⟩,by simp [intOf];omega⟩
   ·have hkn:k=n/64:=by have:=HB.out.1;omega
    have HK:=hid hkn;have HA:=hid ((H3.out.frm HF.out).drop 2);have HME:Hid (Qn JA okK wr mb c (slM b (b.length/64))):=hid (by rw [HN.out,←hkn];exact HM.out);have l1: ¬64*(k:Int)<(n:Int):=by omega
    clear HF HM hkn;cases hF:slF b k with
    | none=>
      rw [hF] at HZ;obtain rfl:z= -1:=HZ.out;have HFR2:Hid (fr=n):=hid (by rw [HFR.out,←HK.out,hF];rfl);clear hF HZ HK HFR;go_wp2_with fail;go_ret3;exact ⟨mb,by rw [HFR2.out];rfl,HA.out,c,HME.out⟩
    | some j=>
      rw [hF] at HZ;have hz:z=((64*j:Nat):Int):=HZ.out;have z0: ¬z<0:=by omega
      have HFR2:Hid (((fr:Nat):Int)=z):=hid (by rw [hz,HFR.out,←HK.out,hF];rfl);clear hF HZ HK HFR hz;go_wp2_with fail;go_ret3;exact ⟨mb,by rw [HFR2.out];rfl,HA.out,c,HME.out⟩
def Yo (ns:List (List UInt8)):List UInt8:=ns.flatMap fun a=>47::a
def Qd (ns:List ByteArray):ByteArray:=⟨(Yo (ns.map (·.data.toList))).toArray⟩
theorem OE: ∀(a r:List UInt8),(47:UInt8)∉a→Go.Lib.index (a++47::r) [47]=(a.length:Int)
 | [],r,_=>by rw [Go.Lib.index_one];rfl
 | x::a,r,h=>by
   have hx:x≠47:=fun e=>h (by rw [e];exact List.mem_cons_self ..)
   have ih:=OE a r (fun e=>h (List.mem_cons_of_mem _ e));rw [Go.Lib.index_one] at ih ⊢;show (if (x==47)=true then (0:Int) else if (Go.Lib.indexByte (a++47::r) 47== -1)=true then-1 else Go.Lib.indexByte (a++47::r) 47+1)=_;rw [if_neg (by simpa using hx),if_neg (by rw [ih];intro e;have:=beq_iff_eq.1 e;omega),ih];simp
theorem WV: ∀(r:List (List UInt8)) (a:List UInt8),(47:UInt8)∉a→(∀x∈r,(47:UInt8)∉x)→Go.Lib.splitK [47] 0 (Go.Lib.count (a++Yo r) [47]) (a++Yo r)=a::r
 | [],a,ha,_=>by
   have:Yo []= []:=rfl;rw [this,List.append_nil,Go.Lib.count_one,List.count_eq_zero_of_not_mem ha];rfl
 | b::r,a,ha,hr=>by
   have hp:Yo (b::r)=47::(b++Yo r):=rfl;have ih:=WV r b (hr b (List.mem_cons_self ..)) (fun x hx=>hr x (List.mem_cons_of_mem _ hx));rw [hp,Go.Lib.count_one,List.count_append,List.count_eq_zero_of_not_mem ha,List.count_cons_self,Nat.zero_add];rw [Go.Lib.count_one] at ih;show (if (Go.Lib.index (a++47::(b++Yo r)) [47]== -1)=true then [a++47::(b++Yo r)] else (a++47::(b++Yo r)).take ((Go.Lib.index (a++47::(b++Yo r)) [47]).toNat+0)::Go.Lib.splitK [47] 0 ((b++Yo r).count 47) ((a++47::(b++Yo r)).drop ((Go.Lib.index (a++47::(b++Yo r)) [47]).toNat+ [47].length)))=_;rw [OE a _ ha,if_neg (by intro e;have:=beq_iff_eq.1 e;omega)];rw [show ((a.length:Int)).toNat=a.length from rfl,Nat.add_zero,List.take_left,show a.length+([47]:List UInt8).length=(a++ [47]).length by simp,show a++47::(b++Yo r)=(a++ [47])++(b++Yo r) by simp,List.drop_left,ih]
def Ye (ns:List ByteArray):ByteArray:=⟨(Yo (ns.map (·.data.toList))).tail.toArray⟩
theorem EB: ∀(a b:List ByteArray),a.map (·.data.toList)=b.map (·.data.toList)→a=b
 | [],[],_=>rfl
 | [],_::_,h=>by cases h
 | _::_,[],h=>by cases h
 | x::a,y::b,h=>by
   rw [List.map_cons,List.map_cons,List.cons.injEq] at h;have e:x=y:=by
    cases x;cases y;exact congrArg ByteArray.mk (Array.toList_inj.1 h.1)
   rw [e,EB a b h.2]
def K6 (s:ByteArray):Prop:=(47:UInt8)∉s.data.toList
theorem WR (a:ByteArray) (r:List ByteArray) (ha:K6 a) (hr: ∀x∈r,K6 x):Go.Lib.splitB ⟨#[47]⟩ 0 (Go.Lib.countB (Ye (a::r)) ⟨#[47]⟩) (Ye (a::r))=a::r:=by
 apply EB;rw [Go.Lib.splitB_data];have e:(Ye (a::r)).data.toList=a.data.toList++Yo (r.map (·.data.toList)):=rfl;show Go.Lib.splitK [47] 0 (Go.Lib.count (Ye (a::r)).data.toList [47]) (Ye (a::r)).data.toList=_;rw [e,WV _ _ ha (fun x hx=>by
  obtain ⟨y,hy,rfl⟩:=List.mem_map.1 hx;exact hr y hy)]
 rfl
theorem Qea (a:ByteArray) (r:List ByteArray) (ha:K6 a) (hr: ∀x∈r,K6 x):Go.Lib.countB (Ye (a::r)) ⟨#[47]⟩+1=(a::r).length:=by
 have h:=congrArg List.length (WR a r ha hr);rw [Go.Lib.splitB_all ⟨#[47]⟩ (by decide) 0 _ _ rfl] at h;exact h
theorem Vt (ns:List ByteArray) (s:ByteArray):(Qd (ns++ [s])).data.toList=(Qd ns).data.toList++47::s.data.toList:=by
 simp [Qd,Yo,List.flatMap_append]
structure Qy (s:ByteArray):Prop where
 size:1≤s.size∧s.size≤50
 ascii: ∀(j:Nat) (b:UInt8),s.data.toList[j]?=some b→b.toNat<128
 free: ∀b∈s.data.toList,b≠47∧b≠0
 dots:s.data.toList≠ [46]∧s.data.toList≠ [46,46]
theorem Qy.nm {s:ByteArray} (h:Qy s):NmS s:=h.size
theorem Qy.slash {s:ByteArray} (h:Qy s):K6 s:=fun x=>(h.free _ x).1 rfl
theorem QkK {s:ByteArray} (h:Qy s):Go.Lib.containsAny s.data.toList [47,0]=false:=by
 unfold Go.Lib.containsAny;rw [Go.Lib.indexAny_none]
 ·rfl
 ·intro j b _ hb;have:=h.free b (List.mem_of_getElem? hb);simp [this.1,this.2]
theorem QaZ (w:World) (s:ByteArray) (h:Qy s):Calls prog 40 #[.string s] w fun e w'=>e= .returned (.bool true)∧Frm NoB w w':=by
 have hc:=Any.strings_ContainsAny_laid Tryz.containsAny (by kernel_rfl) s ⟨#[47,0]⟩ w (by have:=h.size;omega) (by decide) h.ascii (by
  intro j b hb
  match j,hb with
  | 0,hb=>cases hb;decide
  | 1,hb=>cases hb;decide
  | j+2,hb=>cases hb)
 change Calls prog 101 _ _ _ at hc;have e1:Go.Lib.containsAny s.data.toList (ByteArray.mk #[47,0]).data.toList=false:=QkK h;rw [e1] at hc;have HC:=hid hc;have h1: ¬s.toList= []:=fun e=>by
  have:=h.size.1;rw [Go.Lib.toList_data] at e;rw [Go.Lib.size_eq,e] at this;exact absurd this (by decide)
 have h2: ¬s.toList= [46]:=fun e=>h.dots.1 (by rw [←Go.Lib.toList_data];exact e)
 have h3: ¬s.toList= [46,46]:=fun e=>h.dots.2 (by rw [←Go.Lib.toList_data];exact e)
 have h4:(s.size:Int)≤50:=by have:=h.size;omega
 clear h hc e1;go_enter func40,ntmps40;go_wp2_with fail;refine HC.out.mono ?_;rintro e w2 ⟨rfl,hb⟩;have HB:=hid (Frm.ofBelow hb rfl NoB);clear hb;go_wp2;go_ret;refine ⟨?_,HB.out⟩;show Ending.returned (Value.bool (!s.toList.isEmpty && !s.toList== [46] && !s.toList== [46,46]))=_;simp [h1,h2,h3]
theorem Qaq (W:World):(zeroValue 297).run prog W= .ok (.agg #[.int .i64 0,.int .i64 0]) W:=by kernel_rfl
theorem YY: ¬U8T (297:TypeId):=by decide
def KY (b:Blk) (s:ByteArray):Value:=((slX b (b.length/64) (Qj s)).map (slV b)).getD (.agg #[.int .i64 0,.int .i64 0])
theorem Qdm {y:World} {mb n:Nat} {b:Blk} (hm:Qn JA okK y mb n (slM b (b.length/64))) (s:ByteArray) (hs:s.size≤50) (W:World) (hW:W.heap[mb]?=y.heap[mb]?):
 (Instr.lookup 293 (.map (some mb)) (.agg (Jb s)) true).run prog W= .ok (.tuple #[KY b s,.bool (JJ b (Qj s)).isSome]) W:=by
 have:=hm.lookup_ok Qa2 underlying293 (a:=Qj s) (Qr s hs) Qaq W hW;rw [O0] at this;have e:(JJ b (Qj s)).isSome=(Option.map (slV b) (slX b (b.length/64) (Qj s))).isSome:=by
  unfold JJ;cases slX b (b.length/64) (Qj s)<;>rfl
 rw [e];exact this
def QcA (o:Option Nat):Value:=match o with
 | some i=> .tuple #[.int .i64 (i:Nat),.int .i64 0]
 | none=> .tuple #[.int .i64 0,.int .i64 4]
theorem QjB (h:At w0 w X rs) (ho:J5 X) (d:Nat) (hd:X.live d) (hk:X.nd d 0=2) (b:Blk) (hb:X.bytes d=b) (hok:b.length%64=0) (s:ByteArray) (hs:Qy s):
 Calls prog 207 #[.pointer (some ⟨X.sb,0,none⟩),.int .i64 d,.string s] w fun e w'=>e= .returned (QcA (JJ b (Qj s)))∧At w0 w' X rs:=by
 have HNM:=hid (QaZ w s hs);obtain ⟨fr,hfr⟩: ∃fr,((slF b (b.length/64)).map (64* ·)).getD b.length=fr:=⟨_,rfl⟩;have KN:Hid (∀y,Frm NoB w y→Calls prog 214 #[.pointer (some ⟨X.sb,0,none⟩),.int .i64 d] y fun e w'=> ∃mb n,e= .returned (.tuple #[.map (some mb),.int .i64 fr,.int .i64 0])∧At w0 w' X rs∧Qn JA okK w' mb n (slM b (b.length/64))):=hid fun y hy=>QbJ (h.frm hy) ho d hd hk b hb hok fr hfr.symm
 have HSS:=hid hs.size.2;clear h ho hd hk hb hok hs hfr;go_enter func207,ntmps207;go_wp2_with fail;refine HNM.out.mono ?_;rintro e w2 ⟨rfl,hf2⟩;have HN:=hid (KN.out w2 hf2);clear hf2 KN HNM;go_wp2_with fail;refine HN.out.mono ?_;rintro e w3 ⟨mb,n,rfl,h3,hm3⟩;have H3:=hid h3;have HM3:=hid hm3;clear HN h3 hm3;go_wp2_with fail;refine (Qh8 w3 s HSS.out).mono ?_;rintro e w4 ⟨rfl,hf4⟩;have H4:=hid (H3.out.frm hf4);have hlk:=Qdm (HM3.out.frm hf4 (fun e=>e)) s HSS.out w4 rfl;clear hf4 H3 HM3;cases hx:slX b (b.length/64) (Qj s) with
 | none=>
   have e1:JJ b (Qj s)=none:=by unfold JJ;rw [hx];rfl
   have e2:KY b s= .agg #[.int .i64 0,.int .i64 0]:=by unfold KY;rw [hx];rfl
   rw [e1,e2] at hlk;have HE1:=hid e1;clear e1 e2 hx;have H5:=hid (H4.out.newArr #[.int .i64 0,.int .i64 0] 297 YY);go_wp2;go_ret2;exact ⟨by rw [HE1.out];rfl,H5.out.drop 1⟩
 | some k=>
   have e1:JJ b (Qj s)=some (slI b k):=by unfold JJ;rw [hx];rfl
   have e2:KY b s= .agg #[.int .i64 (64*k:Nat),.int .i64 (slI b k)]:=by unfold KY;rw [hx];rfl
   rw [e1,e2] at hlk;have HE1:=hid e1;clear e1 e2 hx;have H5:=hid (H4.out.newArr #[.int .i64 (64*k:Nat),.int .i64 (slI b k)] 297 YY);go_wp2;go_ret2;exact ⟨by rw [HE1.out];rfl,H5.out.drop 1⟩
theorem Wa (h:At w0 w X rs) (hop:X.op=true) (ho:J5 X) (d:Nat) (hd:X.live d) (hk:X.nd d 0=2) (b:Blk) (hb:X.bytes d=b) (hok:b.length%64=0) (s:ByteArray) (hs:Qy s) (fr:Nat) (hfr:fr=((slF b (b.length/64)).map (64* ·)).getD b.length):
 Calls prog 209 #[.pointer (some ⟨X.sb,0,none⟩),.int .i64 d,.string s] w fun e w'=> ∃mb n,e= .returned (.tuple #[.map (some mb),.int .i64 fr,.int .i64 0])∧At w0 w' X rs∧Qn JA okK w' mb n (slM b (b.length/64)):=by
 have HRD:=hid (OS h);rw [hop] at HRD;have HNM:=hid (QaZ w s hs);have KN:Hid (∀y,Frm NoB w y→Calls prog 214 #[.pointer (some ⟨X.sb,0,none⟩),.int .i64 d] y fun e w'=> ∃mb n,e= .returned (.tuple #[.map (some mb),.int .i64 fr,.int .i64 0])∧At w0 w' X rs∧Qn JA okK w' mb n (slM b (b.length/64))):=hid fun y hy=>QbJ (h.frm hy) ho d hd hk b hb hok fr hfr
 clear h ho hd hk hb hok hs hfr hop;go_enter func209,ntmps209;go_wp2_with fail;refine HRD.out.mono ?_;rintro e w1 ⟨rfl,rfl⟩;go_wp2_with fail;refine HNM.out.mono ?_;rintro e w2 ⟨rfl,hf2⟩;have HN:=hid (KN.out w2 hf2);clear hf2 KN HNM HRD;go_wp2_with fail;refine HN.out.mono ?_;rintro e w3 ⟨mb,n,rfl,h3,hm3⟩;have H3:=hid h3;have HM3:=hid hm3;clear HN h3 hm3;go_wp2_with fail;go_ret3;exact ⟨mb,n,rfl,H3.out,HM3.out⟩
theorem QkH (h:At w0 w X rs) (hop:X.op=true) (ho:J5 X) (d:Nat) (hd:X.live d) (hk:X.nd d 0=2) (b:Blk) (hb:X.bytes d=b) (hok:b.length%64=0) (s:ByteArray) (hs:Qy s) (he:JJ b (Qj s)=none) (i:Nat) (hi:i<4294967296) (fr:Nat) (hfr:fr=((slF b (b.length/64)).map (64* ·)).getD b.length) (ha:fr≤X.nd d 1) (S:Nat) (hS:S=max (X.nd d 1) (fr+64)) (h2:S≤5120) (hfb:dat S-dat (X.nd d 1)≤X.fb) {C:List Nat} (hC:Cov X C) (hbm:X.P.bm∈C) (htb:X.P.tb+d/8∈C) (hin: ∀k,k<dat (X.nd d 1)→X.nd d (2+k)∈C) (h60:C.length+(dat S-dat (X.nd d 1))≤60):
 Calls prog 120 #[.pointer (some ⟨X.sb,0,none⟩),.int .i64 d,.string s,.int .i64 i] w fun e w'=>e= .returned (.int .i64 0)∧∃W N,At w0 w' W rs∧Yp X W d fr (Kn i s)∧N.length=dat S-dat (X.nd d 1)∧Cov W (C++N)∧∀k,k<dat S→W.nd d (2+k)∈C++N:=by
 have HCH:=hid (Wa h hop ho d hd hk b hb hok s hs fr hfr);have KL:Hid (∀y,At w0 y X rs→Calls prog 211 #[.pointer (some ⟨X.sb,0,none⟩),.int .i64 d,.int .i64 fr,.string s,.int .i64 i] y fun e w'=>e= .returned (.int .i64 0)∧∃W N,At w0 w' W rs∧Yp X W d fr (Kn i s)∧N.length=dat S-dat (X.nd d 1)∧Cov W (C++N)∧∀k,k<dat S→W.nd d (2+k)∈C++N):=hid fun y hy=>QkL hy hop ho d hd fr ha s hs.size.2 i hi S hS h2 hfb hC hbm htb hin h60
 have HSS:=hid hs.size.2;have HE:=hid he;clear h hop ho hd hk hb hok hs he hi hfr ha hS h2 hfb hC hbm htb hin h60;go_enter func120,ntmps120;go_wp2_with fail;refine HCH.out.mono ?_;rintro e w3 ⟨mb,n,rfl,h3,hm3⟩;have H3:=hid h3;have HM3:=hid hm3;clear HCH h3 hm3;go_wp2_with fail;refine (Qh8 w3 s HSS.out).mono ?_;rintro e w4 ⟨rfl,hf4⟩;have H4:=hid (H3.out.frm hf4);have hlk:=Qdm (HM3.out.frm hf4 (fun e=>e)) s HSS.out w4 rfl;rw [HE.out] at hlk;have hfv: ∃a c,KY b s= .agg #[.int .i64 a,.int .i64 c]:=by
  unfold KY;cases slX b (b.length/64) (Qj s) with
  | none=>exact ⟨0,0,rfl⟩
  | some k=>exact ⟨_,_,rfl⟩
 obtain ⟨fa,fc,hfv⟩:=hfv;rw [hfv] at hlk;have H5:=hid (H4.out.newArr #[.int .i64 fa,.int .i64 fc] 297 YY);clear hf4 H3 HM3 hfv;go_upto_region 6 with (fail)
 obtain ⟨y5,hy5,h5⟩:=H5.out.name;rw [hy5];have HL:=hid (KL.out y5 (h5.drop 1));clear hy5 h5 H4 H5 hlk KL;go_wp2_with fail;refine HL.out.mono ?_;clear HL;rintro e w6 ⟨rfl,hp⟩;have HP:=hid hp;clear hp;go_wp2;go_ret;exact ⟨rfl,HP.out⟩
theorem QgK (h:At w0 w X rs) (hop:X.op=true) (ho:J5 X) (d:Nat) (hd:X.live d) (hk:X.nd d 0=2) (b:Blk) (hb:X.bytes d=b) (hok:b.length%64=0) (s:ByteArray) (hs:Qy s) (k:Nat) (hx:slX b (b.length/64) (Qj s)=some k) {C:List Nat} (hC:Cov X C) (hbm:X.P.bm∈C) (htb:X.P.tb+d/8∈C) (hin: ∀k,k<dat (X.nd d 1)→X.nd d (2+k)∈C) (h60:C.length≤60):
 Calls prog 131 #[.pointer (some ⟨X.sb,0,none⟩),.int .i64 d,.string s] w fun e w'=>e= .returned (.int .i64 0)∧∃W,At w0 w' W rs∧Yp X W d (64*k) (QQ 64)∧Cov W C∧∀m,m<dat (X.nd d 1)→W.nd d (2+m)∈C:=by
 have HCH:=hid (Wa h hop ho d hd hk b hb hok s hs _ rfl);obtain ⟨fr,hfr⟩: ∃fr,((slF b (b.length/64)).map (64* ·)).getD b.length=fr:=⟨_,rfl⟩;rw [hfr] at HCH;have hkl:=(Kz b (Qj s) _ k hx).1;have hbl:=Jr X d;rw [hb] at hbl;have h5:=ho.size d hd;have KW:Hid (∀y g5 g o c,At w0 y X (byt (.slice (some ⟨g,o,none⟩) 64 c) (QQ 64)::arr g5 #[.int .i64 (64*(k:Int)),.int .i64 (slI b k)] 297 YY::rs)→Calls prog 190 #[.pointer (some ⟨X.sb,0,none⟩),.int .i64 d,.int .i64 (64*(k:Int)),.slice (some ⟨g,o,none⟩) 64 c] y fun e w'=>e= .returned (.int .i64 0)∧∃W,At w0 w' W (arr g5 #[.int .i64 (64*(k:Int)),.int .i64 (slI b k)] 297 YY::rs)∧Yp X W d (64*k) (QQ 64)∧Cov W C∧∀m,m<dat (X.nd d 1)→W.nd d (2+m)∈C):=hid fun y g5 g o c hy=>by
  have e0:dat (X.nd d 1)-dat (X.nd d 1)=0:=Nat.sub_self _;have:=Qbl hy hop ho d hd (64*k) (by omega) 0 (b:=QQ 64) (bb:=g) (bo:=o) (vc:=c) (by rw [QA];rfl) (X.nd d 1) (by rw [QA];omega) h5 (by omega) hC hbm htb hin (by omega);rw [QA,show ((64*k:Nat):Int)=64*(k:Int) by omega] at this;refine this.mono ?_;rintro e w' ⟨he,W,N,q1,q2,q3,q4,q5⟩;have hN:N= []:=List.eq_nil_of_length_eq_zero (by rw [q3];omega);rw [hN,List.append_nil] at q4 q5;exact ⟨he,W,q1.drop 1,q2,q4,q5⟩
 have HSS:=hid hs.size.2;have HX:=hid hx;have k0:(0:Int)≤(k:Int):=Qk _;have k1:(k:Int)≤80:=by omega
 clear h hop ho hd hk hb hok hs hx hfr hkl hbl h5 hC hbm htb hin h60;go_enter func131,ntmps131;go_wp2_with fail;refine HCH.out.mono ?_;rintro e w3 ⟨mb,n,rfl,h3,hm3⟩;have H3:=hid h3;have HM3:=hid hm3;clear HCH h3 hm3;go_wp2_with fail;refine (Qh8 w3 s HSS.out).mono ?_;rintro e w4 ⟨rfl,hf4⟩;have H4:=hid (H3.out.frm hf4);have hlk:=Qdm (HM3.out.frm hf4 (fun e=>e)) s HSS.out w4 rfl;have e1:JJ b (Qj s)=some (slI b k):=by unfold JJ;rw [HX.out];rfl
 have e2:KY b s= .agg #[.int .i64 (64*(k:Int)),.int .i64 (slI b k)]:=by unfold KY;rw [HX.out];show slV b k=_;unfold slV;rw [show ((64*k:Nat):Int)=64*(k:Int) by omega]
 rw [e1,e2] at hlk;have h5:=H4.out.newArr #[.int .i64 (64*(k:Int)),.int .i64 (slI b k)] 297 YY;have H5:=hid h5;clear hf4 H3 HM3 e1 e2 h5;go_upto_region 5 with (fail)
 obtain ⟨y5,hy5,h5⟩:=H5.out.name;rw [hy5];have H5':=hid h5;generalize w4.heap.size=g5 at*
 have c0:y5.cell? ⟨g5,0,none⟩=some (.int .i64 (64*(k:Int))):=(h5.arrCell (i:=0) rfl 0).trans rfl;clear hy5 h5 H4 H5 hlk;have hmk: ∀W,(Instr.makeSlice 76 (.int .i64 64) (.int .i64 64)).run prog W= .ok (.slice (some ⟨W.heap.size,0,none⟩) 64 64) (W.alloc (.cells (madeCells #[.int .u8 0] 64) 5 (0,0))):=Kc 64 (by omega);obtain ⟨q,hq⟩: ∃q,64*(k:Int)=q:=⟨_,rfl⟩;rw [hq] at c0 KW H5';have KC:Hid (∀y Y rs' j,At w0 y Y rs'→rs'[j]?=some (arr g5 #[.int .i64 q,.int .i64 (slI b k)] 297 YY)→y.cell? ⟨g5,0,none⟩=some (.int .i64 q)):=hid fun y Y rs' j hy hj=>(hy.arrCell hj 0).trans rfl
 have H6:Hid (At w0 (y5.alloc (.cells (madeCells #[.int .u8 0] 64) 5 (0,0))).drew X (byt (.slice (some ⟨y5.heap.size,0,none⟩) 64 64) (QQ 64)::arr g5 #[.int .i64 q,.int .i64 (slI b k)] 297 YY::rs)):=hid ((H5'.out.mkByt ((Frm.refl _ _).alloc _) (Vq y5 64)).frm (Frm.refl NoB _).drew);have H7:Hid (At w0 (y5.alloc (.cells (madeCells #[.int .u8 0] 64) 5 (0,0))) X (byt (.slice (some ⟨y5.heap.size,0,none⟩) 64 64) (QQ 64)::arr g5 #[.int .i64 q,.int .i64 (slI b k)] 297 YY::rs)):=hid (H5'.out.mkByt ((Frm.refl _ _).alloc _) (Vq y5 64));have H8:Hid (At w0 y5.drew X (arr g5 #[.int .i64 q,.int .i64 (slI b k)] 297 YY::rs)):=hid (H5'.out.frm (Frm.refl NoB _).drew);clear k0 k1 HX HSS hq;go_wp2_with fail;go_region_held3 (fun y=>y.cell? ⟨g5,0,none⟩=some (.int .i64 q))
  (first | exact KC.out _ _ _ 0 H5'.out rfl | exact KC.out _ _ _ 0 H8.out rfl | exact KC.out _ _ _ 1 H6.out rfl | exact KC.out _ _ _ 1 H7.out rfl | exact KC.out _ _ _ 0 h9 rfl)
  (first
   | (go_at_call 190;(with_reducible refine (KW.out _ _ _ _ _ H6.out).mono ?_);rintro e w6 ⟨rfl,W,h9,hw⟩))
 have H9:=hid (h9.drop 1);have HW:=hid hw;clear h9 hw;go_wp2;go_ret;exact ⟨rfl,W,H9.out,HW.out⟩
def VE {α:Type} (mk:α→Value) (ok:α→Prop) (b n:Nat) (f:α→Option Value):Res where
 M:=Q0 b
 inv:=fun _ w=>Qn mk ok w b n f
 lt:=fun _ w H x hx=>by obtain rfl:x=b:=hx;exact H.lt
 dry:=fun _ w H x hx c e=>by
  obtain rfl:x=b:=hx;obtain ⟨es,clock,h,_⟩:=H;exact YO h c e
 keep:=fun _ w w' N H hf hd ha=>H.of_block (hf.block b H.lt (ha b rfl))
 zone:=fun _ _ _ H _ _=>H
theorem St.mapNew {w0:Gnd} {w:World} {rs:List Res} (h:St w0 w rs) {α:Type} (mk:α→Value) (ok:α→Prop):St w0 (w.alloc (.map #[] 0)) (VE mk ok w.heap.size 0 (fun _=>none)::rs):=
 h.make ((Frm.refl _ _).alloc _) (VE mk ok w.heap.size 0 (fun _=>none)) (Qn.made w) (fun x hx=>by obtain rfl:x=w.heap.size:=hx;exact Nat.le_refl _)
theorem St.mapPut {w0:Gnd} {w:World} {rs:List Res} (h:St w0 w rs) (i:Nat) {α:Type} [DecidableEq α] {mk:α→Value} {ok:α→Prop} {b n:Nat} {f:α→Option Value} (hr:rs[i]?=some (VE mk ok b n f)) {k t e:TypeId} (K:JK prog k mk ok) (ht:prog.underlying t=some (.map k e)) {a:α} (ha:ok a) (v:Value):
 ∃o,(∀W,W.heap[b]?=w.heap[b]?→(Instr.mapUpdate t (.map (some b)) (mk a) v).run prog W= .ok () (setBlock W b o))∧St w0 (setBlock w b o) (rs.set i (VE mk ok b (if (f a).isSome then n else n+1) (upd f a (some v)))):=by
 have hm:Qn mk ok w b n f:=h.get hr;obtain ⟨o,q1,q2⟩:=hm.update K ht ha v;exact ⟨o,q1,h.write i hr ((Frm.refl (Q0 b) w).setBlock (.inl (Q0.self b)) o) (VE mk ok b _ _) (q2 w hm.lt) fun _ hx=> .inl hx⟩
theorem St.mapClear {w0:Gnd} {w:World} {rs:List Res} (h:St w0 w rs) (i:Nat) {α:Type} {mk:α→Value} {ok:α→Prop} {b n:Nat} {f:α→Option Value} (hr:rs[i]?=some (VE mk ok b n f)) {k t e:TypeId} (ht:prog.underlying t=some (.map k e)) (ty:TypeId):
 ∃o,(Builtin.clear_ #[t] ty #[.map (some b)]).run prog w= .ok (.tuple #[]) (setBlock w b o)∧St w0 (setBlock w b o) (rs.set i (VE mk ok b 0 (fun _=>none))):=by
 have hm:Qn mk ok w b n f:=h.get hr;obtain ⟨o,q1,q2⟩:=hm.clear ht ty;exact ⟨o,q1 w rfl,h.write i hr ((Frm.refl (Q0 b) w).setBlock (.inl (Q0.self b)) o) (VE mk ok b _ _) (q2 w hm.lt) fun _ hx=> .inl hx⟩
theorem At.mkArr (h:At w0 w X rs) {w':World} (hf:Frm NoB w w') {b:Nat} {c:Array Value} {t:TypeId} (ht: ¬U8T t) (hb:w'.heap[b]?=some (.cells c t (0,0))) (hn:w.heap.size≤b):At w0 w' X (arr b c t ht::rs):=
 ⟨(h.1.make hf (arr b c t ht) hb fun x hx=>by obtain rfl:x=b:=hx;exact hn).swap,h.2⟩
theorem At.mapAt (h:At w0 w X rs) {i:Nat} {α:Type} {mk:α→Value} {ok:α→Prop} {b n:Nat} {f:α→Option Value} (hr:rs[i]?=some (VE mk ok b n f)):Qn mk ok w b n f:=h.1.get (i:=i+1) hr
theorem At.mapPut (h:At w0 w X rs) (i:Nat) {α:Type} [DecidableEq α] {mk:α→Value} {ok:α→Prop} {b n:Nat} {f:α→Option Value} (hr:rs[i]?=some (VE mk ok b n f)) {k t e:TypeId} (K:JK prog k mk ok) (ht:prog.underlying t=some (.map k e)) {a:α} (ha:ok a) (v:Value):
 ∃o,(∀W,W.heap[b]?=w.heap[b]?→(Instr.mapUpdate t (.map (some b)) (mk a) v).run prog W= .ok () (setBlock W b o))∧At w0 (setBlock w b o) X (rs.set i (VE mk ok b (if (f a).isSome then n else n+1) (upd f a (some v)))):=by
 obtain ⟨o,q1,q2⟩:=h.1.mapPut (i+1) hr K ht ha v;exact ⟨o,q1,q2,h.2⟩
theorem At.mapClear (h:At w0 w X rs) (i:Nat) {α:Type} {mk:α→Value} {ok:α→Prop} {b n:Nat} {f:α→Option Value} (hr:rs[i]?=some (VE mk ok b n f)) {k t e:TypeId} (ht:prog.underlying t=some (.map k e)) (ty:TypeId):
 ∃o,(Builtin.clear_ #[t] ty #[.map (some b)]).run prog w= .ok (.tuple #[]) (setBlock w b o)∧At w0 (setBlock w b o) X (rs.set i (VE mk ok b 0 (fun _=>none))):=by
 obtain ⟨o,q1,q2⟩:=h.1.mapClear (i+1) hr ht ty;exact ⟨o,q1,q2,h.2⟩
theorem At.mapNew (h:At w0 w X rs) {α:Type} (mk:α→Value) (ok:α→Prop):At w0 (w.alloc (.map #[] 0)) X (VE mk ok w.heap.size 0 (fun _=>none)::rs):=⟨(h.1.mapNew mk ok).swap,h.2⟩
theorem Qgd:prog.cellsOf 9=1:=by kernel_rfl
theorem QcI (d:Nat) (s:ByteArray) (hs:s.size≤maxLen):prog.keyLits (d+1) 9 [.string s]=some [.string s.data.toList]:=by
 unfold Program.keyLits;simp only [underlying9,hs,if_true]
def QaC (p:Nat×ByteArray):Value:= .agg #[.int .i64 p.1,.string p.2]
def okL (p:Nat×ByteArray):Prop:=p.1<1000000∧p.2.size≤50
theorem Qe3:prog.keyType 288=true:=by kernel_rfl
theorem QaF:prog.cellsOf 288=2:=by kernel_rfl
theorem Qda (p:Nat×ByteArray) (h:okL p): ∃l,keyOf prog 288 (QaC p)=some l:=by
 obtain ⟨d,hd⟩:=Ez;unfold keyOf QaC;simp only [underlying288];rw [if_pos (by simp [Qe3,Value.formed,underlying288,QaF]),hd];unfold Program.keyLits;simp only [underlying288,Value.cells];rw [if_pos (by rw [QaF];exact ⟨rfl,by decide+kernel⟩)];have hs:p.2.size≤maxLen:=Nat.le_trans h.2 (by decide);simp only [List.mapM_cons,List.mapM_nil,Wz,Qgd,List.drop_zero,List.take_succ_cons,List.take_zero,List.drop_succ_cons,keyLits_int _ _ (Kl p.1 h.1),QcI _ _ hs];exact ⟨_,rfl⟩
theorem Qcv:JK prog 288 QaC okL:=by
 have K:WideMaps.KeyLaw prog 288:=deep_law_laid UE (m:=2) (by omega) (by decide+kernel) (by kernel_rfl) (by kernel_rfl);refine ⟨Go.Maps.Keyed.of_law K,fun a ha=>Qda a ha,fun a b h=>?_⟩;simp only [QaC,Value.agg.injEq] at h;have h0:=congrArg (fun x=>x[0]?) h;have h1:=congrArg (fun x=>x[1]?) h;simp at h0 h1;exact Prod.ext (by omega) h1
structure FH where
 fb:Nat
 lb:Nat
 begun:Bool
 QH:Bool
 dead:Bool
theorem neFS: ¬U8T (108:TypeId):=by decide
def fsC (F:FH) (X:Sys):Array Value:= #[.pointer (some ⟨X.cb,0,none⟩),.pointer (some ⟨X.ab,0,none⟩),.pointer (some ⟨X.sb,0,none⟩),.bool F.begun,.bool F.QH,.bool F.dead,.map (some F.lb)]
def fsS (F:FH) (X:Sys):Res:=arr F.fb (fsC F X) 108 neFS
abbrev Lds:=Nat×ByteArray→Option Nat
def ldF (l:Lds):Nat×ByteArray→Option Value:=fun p=>(l p).map fun i=> .int .i64 (i:Nat)
def fsL (F:FH) (n:Nat) (l:Lds):Res:=VE QaC okL F.lb n (ldF l)
def ON (A:Path→Option Nd) (ι:Path→Nat) (l:Lds):Prop:= ∀d s i,l (d,s)=some i→∃p,A (p++ [s])≠none∧ι p=d∧ι (p++ [s])=i
def Fs (w0:Gnd) (w:World) (F:FH) (X:Sys) (A:Path→Option Nd) (ι:Path→Nat) (rs:List Res):Prop:=
 (∃n l,At w0 w X (fsS F X::fsL F n l::rs)∧ON A ι l)∧Rep X A ι
def JG (A:Path→Option Nd) (ι:Path→Nat) (q:Path):Option Nat:=(A q).map fun _=>ι q
theorem Rep.look {X:Sys} {A:Path→Option Nd} {ι:Path→Nat} (h:Rep X A ι) {p:Path} {n:Nat} (hp:A p=some (.dir n)) {s:ByteArray} (hs:NmS s):JJ (X.bytes (ι p)) (Qj s)=JG A ι (p++ [s]):=by
 rw [h.find hp hs];unfold JG;cases A (p++ [s]) with
 | none=>rw [if_neg (fun e=>e rfl)];rfl
 | some x=>rw [if_pos (fun e=>by cases e)];rfl
theorem Rep.get {X:Sys} {A:Path→Option Nd} {ι:Path→Nat} (h:Rep X A ι) {p:Path} (hp:A p≠none): ∃x,A p=some x:=by
 cases e:A p with
 | none=>exact absurd e hp
 | some x=>exact ⟨x,rfl⟩
theorem Rep.pre {X:Sys} {A:Path→Option Nd} {ι:Path→Nat} (h:Rep X A ι) {p:Path} (hp:A p≠none): ∀d k,k+d=p.length→0<d→∃m,A (p.take k)=some (.dir m)
 | 0,_,_,h0=>by omega
 | d+1,k,hk,_=>by
   have hlt:k<p.length:=by omega
   have e:p.take (k+1)=p.take k++ [p[k]]:=List.take_succ_eq_append_getElem hlt;have hne:A (p.take (k+1))≠none:=by
    by_cases hd:d=0
    ·rw [List.take_of_length_le (by omega)];exact hp
    ·obtain ⟨m,hm⟩:=h.pre hp d (k+1) (by omega) (by omega);rw [hm];exact fun x=>by cases x
   rw [e] at hne;exact (h.up _ _ hne).2
theorem Fs.frm {w0:Gnd} {w w':World} {F:FH} {X:Sys} {A:Path→Option Nd} {ι:Path→Nat} {rs:List Res} (h:Fs w0 w F X A ι rs) (hf:Frm NoB w w'):Fs w0 w' F X A ι rs:=by
 obtain ⟨⟨n,l,h1,h2⟩,h3⟩:=h;exact ⟨⟨n,l,h1.frm hf,h2⟩,h3⟩
theorem QZ: ¬U8T (9:TypeId):=by decide
def Uh (ns:List ByteArray):Array Value:=(ns.map Value.string).toArray
theorem QiP (w:World) (a:ByteArray) (r:List ByteArray) (ha:K6 a) (hr: ∀x∈r,K6 x) (hs:(Ye (a::r)).size<4294967281):
 Calls prog 242 #[.string (Ye (a::r)),.string ⟨#[47]⟩] w fun e w'=>e= .returned (.slice (some ⟨w.heap.size,0,none⟩) (a::r).length (a::r).length)∧w'=w.alloc (.cells (Uh (a::r)) 9 (0,0)):=by
 have hcnt:=Qea a r ha hr;have hspl:=WR a r ha hr;have hle:=Go.Lib.countB_le ⟨#[47]⟩ (by decide) (Ye (a::r)).size (Ye (a::r)) (Nat.le_refl _);have hlen:=Go.Lib.splitB_all ⟨#[47]⟩ (by decide) 0 _ (Ye (a::r)) rfl;have c:=Any.strings_genSplit_core Tryz.genSplit (by kernel_rfl) (Ye (a::r)) ⟨#[47]⟩ 0 (-1) (Go.Lib.countB (Ye (a::r)) ⟨#[47]⟩+1) w hs (by decide) (Nat.zero_le _)
  (fun x cc hx=>(Any.strings_Index_one { Tryz.genSplit with } x 47 _).mono fun e w' ⟨h1,h2⟩=>⟨by rw [h1];show _=Ending.returned (Value.int .i64 (Go.Lib.index x.data.toList [47]));rw [Go.Lib.index_one],h2⟩)
  ((Any.strings_Count_one { Tryz.genSplit with } (Ye (a::r)) 47 w).mono fun e w' ⟨h1,h2⟩=>⟨by rw [h1];show _=Ending.returned (Value.int .i64 ((Go.Lib.count (Ye (a::r)).data.toList [47]:Nat):Int));rw [Go.Lib.count_one];rfl,h2⟩)
  (by decide) (by decide) (by rw [if_pos (by decide)];omega)
 rw [Nat.add_sub_cancel,hspl,hcnt,Go.Lib.cellsOf_full] at c;change Calls prog 301 _ _ _ at c;have HC:=hid c;clear c hcnt hspl hle hlen ha hr hs;generalize Ye (a::r)=s at*
 go_enter func242,ntmps242;go_wp2_with fail;refine HC.out.mono ?_;rintro e w2 ⟨rfl,rfl⟩;go_wp2;go_ret;exact ⟨rfl,rfl⟩
theorem Ov (a:ByteArray) (r:List ByteArray):(Qd (a::r)).data.toList=47::(Ye (a::r)).data.toList:=rfl
theorem Qjd (w:World) (a:ByteArray) (r:List ByteArray) (ha:Qy a) (hr: ∀x∈r,Qy x) (hl:r.length≤7):
 Calls prog 171 #[.string (Qd (a::r))] w fun e w'=> ∃b,e= .returned (.tuple #[.slice (some ⟨b,0,none⟩) (r.length+1) (r.length+1),.int .i64 0])∧Frm NoB w w'∧w.heap.size≤b∧w'.heap[b]?=some (.cells (Uh (a::r)) 9 (0,0)):=by
 have hsz:(Ye (a::r)).size<4294967281:=by
  have: ∀l:List ByteArray,(∀x∈l,Qy x)→(Yo (l.map (·.data.toList))).length≤51*l.length:=fun l=>by
   induction l with
   | nil=>intro _;exact Nat.le_refl _
   | cons y l ih=>
     intro h;have h1:=(h y (List.mem_cons_self ..)).size.2;have h2:=ih fun x hx=>h x (List.mem_cons_of_mem _ hx)
     rw [Go.Lib.size_eq] at h1;show ((47::y.data.toList)++Yo (l.map (·.data.toList))).length≤_;rw [List.length_append,List.length_cons,List.length_cons];omega
  have h1:=this (a::r) fun x hx=>by
   rcases List.mem_cons.1 hx with rfl | hx
   ·exact ha
   ·exact hr x hx
  have h2:(Ye (a::r)).size=(Yo ((a::r).map (·.data.toList))).tail.length:=by rw [Go.Lib.size_eq];rfl
  rw [h2,List.length_tail];rw [List.length_cons] at h1;omega
 have HSP:Hid (∀w,Calls prog 242 #[.string (Ye (a::r)),.string ⟨#[47]⟩] w fun e w'=>e= .returned (.slice (some ⟨w.heap.size,0,none⟩) (r.length+1) (r.length+1))∧w'=w.alloc (.cells (Uh (a::r)) 9 (0,0))):=hid (fun w=>QiP w a r ha.slash (fun x hx=>(hr x hx).slash) hsz);have hne: ¬(Qd (a::r)).toList= [47]:=fun e=>by
  rw [Go.Lib.toList_data,Ov] at e;have h1:=(List.cons.inj e).2;have h2:(Ye (a::r)).data.toList=a.data.toList++Yo (r.map (·.data.toList)):=rfl;rw [h2] at h1;have h3:=(List.append_eq_nil_iff.1 h1).1;have h4:=ha.size.1;rw [Go.Lib.size_eq,h3] at h4;exact absurd h4 (by decide)
 have hne:((Qd (a::r)).toList== [47])=false:=by simpa using hne
 have hcp:=Any.strings_CutPrefix Tryz.cutPrefix (Qd (a::r)) ⟨#[47]⟩ w;change Calls prog 127 _ _ _ at hcp;have e1:Go.Lib.hasPrefix (Qd (a::r)).data.toList (ByteArray.mk #[47]).data.toList=true:=by rw [Ov];rfl
 have e2:(⟨(Go.Lib.trimPrefix (Qd (a::r)).data.toList (ByteArray.mk #[47]).data.toList).toArray⟩:ByteArray)=Ye (a::r):=by rw [Ov];rfl
 rw [e1,e2] at hcp;have HCP:=hid hcp;have HNM:Hid (∀y (k:Nat) (hk:k<(a::r).length),Calls prog 40 #[.string ((a::r)[k])] y fun e w'=>e= .returned (.bool true)∧Frm NoB y w'):=hid fun y k hk=>QaZ y _ (by
  rcases List.mem_cons.1 (List.getElem_mem hk) with e | e
  ·rw [e];exact ha
  ·exact hr _ e)
 have HL:Hid ((a::r).length=r.length+1):=hid rfl;have n0:((r.length:Nat):Int)+1≤8:=by omega
 have n1:(0:Int)≤((r.length:Nat):Int):=Qk _;clear ha hr hcp e1 e2 hsz;obtain ⟨n,hn⟩: ∃n,r.length=n:=⟨_,rfl⟩;rw [hn] at n0 n1 HL hl ⊢;rw [hn] at HSP;clear hn;generalize Ye (a::r)=rest at*
 generalize Qd (a::r)=path at*
 generalize a::r=ns at*
 go_enter func171,ntmps171;go_wp2_with fail;go_step3;go_wp2_with fail;refine HCP.out.mono ?_;rintro e w1 ⟨rfl,rfl⟩;go_wp2_with fail;refine (HSP.out _).mono ?_;clear HSP HCP hne;rintro e w2 ⟨rfl,hw2⟩;have hb:=Qb w1 (.cells (Uh ns) 9 (0,0));have hf:=(Frm.refl NoB w1).alloc (.cells (Uh ns) 9 (0,0));rw [←hw2] at hb hf;obtain ⟨g,hg⟩: ∃g,w1.heap.size=g:=⟨_,rfl⟩;have HG:=hid hg;rw [hg] at hb ⊢;have HB:=hid hb;have HF:=hid hf;clear hw2 hb hf hg;go_wp2_with fail;go_step3;go_wp2_with fail;go_loopw [8,25] (fun _ t25 wr=> ∃k:Nat,k≤n+1∧t25= .int .i64 k∧Hid (Frm NoB w2 wr)) (fun _ t25 _=>n+1-(intOf t25).toNat)
 case atStart=>exact ⟨0,Nat.zero_le _,rfl,hid (Frm.refl _ _)⟩
 case round=>
  obtain ⟨k,hk,rfl,HK⟩:=hrel;have k0:(0:Int)≤(k:Int):=Qk _;by_cases hlt:k<n+1
  ·have l1:(k:Int)<(n:Int)+1:=by omega
   have hkl:k<ns.length:=by rw [HL.out];exact hlt
   have hc:wr.cell? ⟨g,k,none⟩=some (.string ns[k]):=by
    have:=HK.out.block g (lt_of_block HB.out) (fun e=>e);refine (Qa (this.trans HB.out)).trans ?_;unfold Uh;rw [List.getElem?_toArray,List.getElem?_map,List.getElem?_eq_getElem hkl];rfl
   have HN:=hid (HNM.out wr k hkl);generalize ns[k]=s at*
   go_wp2_with fail;refine HN.out.mono ?_;rintro e w3 ⟨rfl,hf3⟩;have HK3:=hid (HK.out.trans hf3 fun _ _ e=>e);clear hf3 HN hc hkl;go_wp2_with fail;exact ⟨⟨k+1,hlt,by go_num,HK3⟩,by simp [intOf];omega⟩
  ·have l1: ¬(k:Int)<(n:Int)+1:=by omega
   go_wp2_with fail;go_ret2;exact ⟨g,rfl,HF.out.trans HK.out (fun _ _ e=>e),by rw [HG.out];exact Nat.le_refl _,(HK.out.block g (lt_of_block HB.out) (fun e=>e)).trans HB.out⟩
def Qhi (l:Lds) (k:Nat×ByteArray) (i:Nat):Lds:=fun x=>if x=k then some i else l x
theorem Qh6 (l:Lds) (k:Nat×ByteArray) (i:Nat):upd (ldF l) k (some (.int .i64 (i:Nat)))=ldF (Qhi l k i):=by
 funext x
 unfold upd ldF Qhi;by_cases e:x=k
 ·rw [if_pos e,if_pos e];rfl
 ·rw [if_neg e,if_neg e]
theorem Rep.small {X:Sys} {A:Path→Option Nd} {ι:Path→Nat} (h:Rep X A ι) (hX:Jl X) {p:Path} (hp:A p≠none):ι p<4096:=by
 obtain ⟨x,hx⟩:=h.get hp;have:=(h.live p x hx).1.1;have:=hX.pl.ni.2;omega
variable {F:FH} {A:Path→Option Nd} {ι:Path→Nat}
theorem QdD (h:Fs w0 w F X A ι rs) {p:Path} {m:Nat} (hp:A p=some (.dir m)) (s:ByteArray) (hs:Qy s):
 Calls prog 118 #[.pointer (some ⟨F.fb,0,none⟩),.int .i64 (ι p),.string s] w fun e w'=>e= .returned (QcA (JG A ι (p++ [s])))∧Fs w0 w' F X A ι rs:=by
 obtain ⟨⟨n,l,ha,hl⟩,hr⟩:=h;have hpn:A p≠none:=by rw [hp];exact fun x=>by cases x
 have hlive:=hr.live p _ hp;have hdir:=hr.dir p m hp;have hlook:=hr.look hp hs.nm;have hsm:=hr.small ha.ok hpn;have HR:=hid hr;have HLD:=hid hl;obtain ⟨r,hrr⟩: ∃r,JG A ι (p++ [s])=r:=⟨_,rfl⟩;have KF:Hid (Calls prog 207 #[.pointer (some ⟨X.sb,0,none⟩),.int .i64 (ι p),.string s] w fun e w'=>e= .returned (QcA r)∧At w0 w' X (fsS F X::fsL F n l::rs)):=hid (by
  have:=QjB ha hr.ok (ι p) hlive.1 hlive.2.1 _ rfl hdir.whole s hs;rw [hlook,hrr] at this;exact this)
 have hI: ∀i,l (ι p,s)=some i→r=some i:=fun i hi=>by
  obtain ⟨q,q1,q2,q3⟩:=hl _ _ i hi;have hqn:A q≠none:=by
   obtain ⟨_,mm,hm⟩:=hr.up q s q1;rw [hm];exact fun x=>by cases x
  have:q=p:=hr.inj q p hqn hpn q2;subst this;obtain ⟨x,hx⟩:=hr.get q1;rw [←hrr];unfold JG;rw [hx,←q3];rfl
 have HI:=hid hI;have hok:okL (ι p,s):=⟨by show ι p<1000000;omega,hs.size.2⟩;have hlk:=(ha.mapAt (i:=1) rfl).lookup_ok Qcv underlying106 hok EY w rfl;have c2:w.cell? ⟨F.fb,2,none⟩=some (.pointer (some ⟨X.sb,0,none⟩)):=(ha.arrCell (i:=0) rfl 2).trans rfl;have c6:w.cell? ⟨F.fb,6,none⟩=some (.map (some F.lb)):=(ha.arrCell (i:=0) rfl 6).trans rfl;have HOK:=hid hok;have HP:=hid hp;have HRR:=hid hrr;rw [hrr];have HA:=hid ha;clear hl hr hlive hdir hlook hpn hI hok ha hp hs hrr;obtain ⟨d,hd⟩: ∃d,ι p=d:=⟨_,rfl⟩;rw [hd] at KF HI hsm hlk HOK ⊢;have hlk:(Instr.lookup 106 (.map (some F.lb)) (.agg #[.int .i64 d,.string s]) true).run prog w= .ok (.tuple #[((l (d,s)).map fun i=>Value.int .i64 (i:Nat)).getD (.int .i64 0),.bool ((l (d,s)).map fun i=>Value.int .i64 (i:Nat)).isSome]) w:=hlk;cases hx:l (d,s) with
 | some i=>
   rw [hx] at hlk;have hlk:(Instr.lookup 106 (.map (some F.lb)) (.agg #[.int .i64 d,.string s]) true).run prog w= .ok (.tuple #[.int .i64 (i:Nat),.bool true]) w:=hlk;have HE:=hid (HI.out i hx);clear hx HI KF;go_enter func118,ntmps118;go_wp2_with fail;go_ret2;exact ⟨by rw [HE.out];rfl,⟨n,l,HA.out,HLD.out⟩,HR.out⟩
 | none=>
   rw [hx] at hlk;have hlk:(Instr.lookup 106 (.map (some F.lb)) (.agg #[.int .i64 d,.string s]) true).run prog w= .ok (.tuple #[.int .i64 0,.bool false]) w:=hlk;clear HI;cases hrv:r with
   | none=>
     rw [hrv] at KF;have KF:Hid (Calls prog 207 #[.pointer (some ⟨X.sb,0,none⟩),.int .i64 d,.string s] w fun e w'=>e= .returned (.tuple #[.int .i64 0,.int .i64 4])∧At w0 w' X (fsS F X::fsL F n l::rs)):=KF;clear hx hrv;go_enter func118,ntmps118;go_wp2_with fail;refine KF.out.mono ?_;rintro e w2 ⟨rfl,h2⟩;have H2:=hid h2;clear h2;go_wp2_with fail;go_ret2;exact ⟨rfl,⟨n,l,H2.out,HLD.out⟩,HR.out⟩
   | some i=>
     rw [hrv] at KF HRR;have KF:Hid (Calls prog 207 #[.pointer (some ⟨X.sb,0,none⟩),.int .i64 d,.string s] w fun e w'=>e= .returned (.tuple #[.int .i64 (i:Nat),.int .i64 0])∧At w0 w' X (fsS F X::fsL F n l::rs)):=KF;have HNL:Hid (ON A ι (Qhi l (d,s) i)):=hid fun d' s' i' hi=>by
      unfold Qhi at hi;by_cases e:(d',s')=(d,s)
      ·rw [if_pos e] at hi;cases hi;cases e;have:=HRR.out;unfold JG at this;cases hq:A (p++ [s]) with
       | none=>rw [hq] at this;cases this
       | some x=>
         rw [hq] at this;exact ⟨p,by rw [hq];exact fun x=>(by cases x),hd,Option.some.inj this⟩
      ·rw [if_neg e] at hi;exact HLD.out d' s' i' hi
     clear hx hrv;go_enter func118,ntmps118;go_wp2_with fail;refine KF.out.mono ?_;rintro e w2 ⟨rfl,h2⟩;obtain ⟨o,hup,h3⟩:=h2.mapPut 1 rfl Qcv underlying106 HOK.out (.int .i64 (i:Nat));have hup:(Instr.mapUpdate 106 (.map (some F.lb)) (.agg #[.int .i64 d,.string s]) (.int .i64 (i:Nat))).run prog w2= .ok () (setBlock w2 F.lb o):=hup w2 rfl;rw [Qh6] at h3;have H3:Hid (At w0 (setBlock w2 F.lb o) X (fsS F X::fsL F _ (Qhi l (d,s) i)::rs)):=hid h3;have c6:w2.cell? ⟨F.fb,6,none⟩=some (.map (some F.lb)):=(h2.arrCell (i:=0) rfl 6).trans rfl;clear h2 h3 KF hlk;go_wp2_with fail;go_ret2;exact ⟨rfl,⟨_,_,H3.out,HNL.out⟩,HR.out⟩
theorem Fs.strCell (h:Fs w0 w F X A ι rs) {j sb:Nat} {ns:Path} (hr:rs[j]?=some (arr sb (Uh ns) 9 QZ)) {k:Nat} (hk:k<ns.length):w.cell? ⟨sb,k,none⟩=some (.string ns[k]):=by
 obtain ⟨⟨n,l,ha,_⟩,_⟩:=h;refine (ha.arrCell (i:=j+2) hr k).trans ?_;unfold Uh;rw [List.getElem?_toArray,List.getElem?_map,List.getElem?_eq_getElem hk];rfl
end
end Go.Proofs.YtlemndledcmhiaaGreatDoor
