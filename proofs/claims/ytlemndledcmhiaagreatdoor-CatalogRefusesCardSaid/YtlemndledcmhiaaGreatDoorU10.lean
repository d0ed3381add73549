/-
  The catalog, from the device up, part 10.
-/
import Derived.Test.YtlemndledcmhiaaGreatDoorU9
namespace Go.Proofs.YtlemndledcmhiaaGreatDoor
set_option linter.unusedVariables false
set_option linter.unusedSimpArgs false
section
open Go.ChangeMaps Go.MapKept Go.RowKit
variable {w0:Gnd} {w:World} {rs:List Res} {X:Sys}
set_option maxHeartbeats 1000000 in
set_option maxRecDepth 100000 in
theorem i_give {g:Nat} {f:Nat→Nat} (h:At w0 w X (arr g (stC 13 (ndI f)) 270 neNd::rs)) (hop:X.op=true) (s S:Nat) (hs:f 1=s) (h1:S≤s) (h2:s≤5120) (hblk: ∀k,k<dat s→∃b,b<X.P.dc∧f (2+k)=X.P.da+b∧bitAt (X.v X.P.bm) b=true) (hinj: ∀k j,k<dat s→j<dat s→f (2+k)=f (2+j)→k=j) {C:List Nat} (hC:Cov X C) (hbm:X.P.bm∈C) (h60:C.length≤60):
    Calls Tryz.prog 222 #[.pointer (some ⟨X.sb,0,none⟩),.pointer (some ⟨g,0,none⟩),.int .i64 S] w fun e w'=>e= .returned (.int .i64 0)∧∃Y f',At w0 w' Y (arr g (stC 13 (ndI f')) 270 neNd::rs)∧Gave X Y f f' (dat S) (dat s):=by
  have HD1:Hid (∀y,Calls Tryz.prog 278 #[.int .i64 s] y fun e w'=>y=w'∧e= .returned (.int .i64 (dat s:Nat))):=Lib.hid fun y=>i_data y s (by omega)
  have HD2:Hid (∀y,Calls Tryz.prog 278 #[.int .i64 S] y fun e w'=>y=w'∧e= .returned (.int .i64 (dat S:Nat))):=Lib.hid fun y=>i_data y S (by omega)
  have hds:dat S≤dat s:=by unfold dat;omega
  have hdS:dat s≤10:=dat_le h2
  have HX:=Lib.hid h
  have HOP:=Lib.hid hop
  have HB:=Lib.hid hblk
  have HINJ:=Lib.hid hinj
  have HC:=Lib.hid (And.intro hC (And.intro hbm h60))
  have HSZ:=Lib.hid hs
  obtain ⟨a,ha⟩: ∃a,dat S=a:=⟨_,rfl⟩
  obtain ⟨b,hb⟩: ∃b,dat s=b:=⟨_,rfl⟩
  have HAB:=Lib.hid (And.intro ha hb)
  rw [ha] at hds HD2 ⊢
  rw [hb] at hds HD1 hdS ⊢
  have a0:(0:Int)≤(a:Int):=Int.natCast_nonneg _
  have b0:(0:Int)≤(b:Int):=Int.natCast_nonneg _
  have b1:(b:Int)≤10:=by omega
  have a1:(a:Int)≤(b:Int):=by omega
  clear h hop hblk hinj hC hbm h60 hs h1 h2 ha hb hdS
  go_enter Tryz.func222,Tryz.ntmps222
  go_wp2_with fail
  refine (HD2.out _).mono ?_
  rintro e w2 ⟨rfl,rfl⟩
  go_wp2_with fail
  go_loopw [7,8,9] (fun t _ _ wr=> ∃(k:Nat) (Y:Sys) (f':Nat→Nat),a≤k∧k≤b∧t= .int .i64 k∧Hid (At w0 wr Y (arr g (stC 13 (ndI f')) 270 neNd::rs))∧Hid (Gave X Y f f' a k)) (fun t _ _ _=>b-(intOf t).toNat)
  case atStart=>exact ⟨a,X,f,Nat.le_refl _,hds,rfl,HX,Lib.hid (Gave.refl X f a)⟩
  case round=>
    clear HX
    obtain ⟨k,Y,f',hk1,hk2,rfl,HST,HG⟩:=hrel
    have k0:(0:Int)≤(k:Int):=Int.natCast_nonneg _
    have d1:wr.cell? ⟨g,1,none⟩=some (.int .i64 s):=(HST.out.arrCell (i:=0) rfl 1).trans ((stC_get _ _ _ (by omega)).trans (by unfold ndI;rw [HG.out.same 1 (.inl (by omega)),HSZ.out]))
    by_cases hlt:k<b
    · have l1:(k:Int)<(b:Int):=by omega
      have l2:(k:Int)<10:=by omega
      have l3:(k:Int)<11:=by omega
      have hBG:=HST.out.1.get (i:=1) rfl
      have HBG:=Lib.hid (show wr.heap[g]?=some (.cells (stC 13 (ndI f')) 270 (0,0)) from hBG)
      clear hBG
      obtain ⟨q,hq1,hq2,hq3⟩:=HB.out k (by rw [HAB.out.2];exact hlt)
      have hfk:f' (2+k)=X.P.da+q:=(HG.out.same _ (.inr (Nat.le_refl _))).trans hq2
      have hset:bitAt (Y.v X.P.bm) q=true:=(HG.out.bits q).2 ⟨hq3,fun j j1 j2 e=>by
        have:=HINJ.out j k (by rw [HAB.out.2];omega) (by rw [HAB.out.2];exact hlt) (by rw [e,hq2])
        omega⟩
      have eP:=HG.out.wr.P
      have HST':=Lib.hid (HG.out.step HST.out.ok hq1 hq2 hset)
      have HLT:=Lib.hid (And.intro hlt hk1)
      have HGB:Hid (∀y,At w0 y Y (arr g (stC 13 (ndI f')) 270 neNd::rs)→Calls Tryz.prog 279 #[.pointer (some ⟨X.ab,0,none⟩),.int .i64 (X.P.da+q:Nat)] y fun e w'=>e= .returned (.int .i64 0)∧At w0 w' (Y.put Y.P.bm (setBit (Y.v Y.P.bm) q false)) (arr g (stC 13 (ndI f')) 270 neNd::rs)):=Lib.hid fun y hy=>by
        have:=a_GiveBlock hy (by rw [HG.out.wr.op];exact HOP.out) q (by rw [eP];exact hq1) (by rw [eP];exact hset) ((HC.out.1.wr HG.out.wr (fun t e=>e▸HC.out.2.1)).room hy.ok (by rw [eP];exact HC.out.2.1) HC.out.2.2)
        rw [HG.out.wr.ab,eP] at this
        rw [eP]
        exact this
      have HBK:=Lib.hid (i_block HST.out f' k (by omega))
      rw [HG.out.wr.sb,hfk] at HBK
      have HE:Hid (Y.sb=X.sb∧Y.ab=X.ab):=Lib.hid ⟨HG.out.wr.sb,HG.out.wr.ab⟩
      clear hfk hset eP hq1 hq2 hq3 HST HG hlt
      generalize X.P.da+q=qq at*
      generalize hV:Y.put Y.P.bm (setBit (Y.v Y.P.bm) q false)=V at*
      have HV:=Lib.hid hV
      clear hV
      go_wp2_with (refine loadNd rfl _ rfl g rfl _ HBG.out ?_)
      refine (HD1.out _).mono ?_
      rintro e w2 ⟨rfl,rfl⟩
      go_wp2_with (refine loadNd rfl _ rfl g rfl _ HBG.out ?_)
      refine HBK.out.mono ?_
      clear HBK HBG d1
      rintro e w3 ⟨rfl,h3⟩
      have c1:=h3.stCells.2.1
      rw [HE.out.1,HE.out.2] at c1
      have HGB3:=Lib.hid (HGB.out _ h3)
      clear h3 HGB
      go_wp2_with fail
      refine HGB3.out.mono ?_
      clear HGB3 c1
      rintro e w4 ⟨rfl,h4⟩
      have d0: ∃u,w4.cell? ⟨g,2+k,none⟩=some u:=⟨_,(h4.arrCell (i:=0) rfl (2+k)).trans (stC_get _ _ _ (by omega))⟩
      obtain ⟨u0,d0⟩:=d0
      have f0:w4.frozen? ⟨g,2+k,none⟩=false:=h4.arrFree (i:=0) rfl (2+k)
      have h5:=h4.setArr 0 rfl (2+k) (.int .i64 ((0:Nat):Int))
      rw [stC_setF _ _ _ _ (by omega),ndI_set] at h5
      have H5:Hid (At w0 (w4.setCell ⟨g,2+k,none⟩ (.int .i64 0)) V (arr g (stC 13 (ndI (setF f' (2+k) 0))) 270 neNd::rs)):=Lib.hid h5
      have HR:=Lib.hid (show a≤k+1∧k+1≤b from ⟨by have:=HLT.out;omega,HLT.out.1⟩)
      clear h4 h5
      go_wp2
      first | exact ⟨⟨k+1,V,_,HR.out.1,HR.out.2,by go_num,H5,HST'⟩,by have:=HLT.out;simp [intOf];omega⟩ | (go_roundw;case rel=>first | exact ⟨k+1,V,_,HR.out.1,HR.out.2,by go_num,H5,HST'⟩ | ((repeat apply Exists.intro);exact ⟨⟨k+1,V,_,HR.out.1,HR.out.2,by go_num,H5,HST'⟩,rfl⟩);case measure=>have:=HLT.out;simp [intOf];omega)
    · have l1: ¬(k:Int)<(b:Int):=by omega
      obtain rfl:k=b:=by omega
      have l4: ¬(k:Int)>10:=by omega
      go_wp2_with fail
      refine (HD1.out _).mono ?_
      rintro e w2 ⟨rfl,rfl⟩
      go_wp2_with fail
      refine (HD2.out _).mono ?_
      rintro e w2 ⟨rfl,rfl⟩
      go_wp2_with fail
      refine (HD1.out _).mono ?_
      rintro e w2 ⟨rfl,rfl⟩
      go_wp2
      go_ret
      exact ⟨rfl,Y,f',HST.out,HG.out⟩
end
section
open Go.ChangeMaps Go.MapKept Go.RowKit
theorem neStt: ¬U8T (82:TypeId):=by decide
theorem zeroStt (W:World):(zeroValue 82).run Tryz.prog W= .ok (.agg #[.int .i64 0,.int .i64 0]) W:=by kernel_rfl
theorem infoStt (a b:Value):(Tryz.prog.info? 82).map (·.size)=some (#[a,b]:Array Value).size:=by kernel_rfl
end
section
open Go.ChangeMaps Go.MapKept Go.RowKit
variable {w0:Gnd} {w:World} {rs:List Res} {X:Sys}
set_option maxRecDepth 100000 in
theorem i_Stat (h:At w0 w X rs) (i:Nat) (hi:X.live i):
    Calls Tryz.prog 173 #[.pointer (some ⟨X.sb,0,none⟩),.int .i64 i] w fun e w'=>e= .returned (.tuple #[.agg #[.int .i64 (X.nd i 0),.int .i64 (X.nd i 1)],.int .i64 0])∧At w0 w' X rs:=by
  obtain ⟨f,hf⟩: ∃f,X.nd i=f:=⟨_,rfl⟩
  have HA0:=Lib.hid (h.newArr #[.int .i64 0,.int .i64 0] 82 neStt)
  have KL:Hid (∀y rs',At w0 y X rs'→Calls Tryz.prog 212 #[.pointer (some ⟨X.sb,0,none⟩),.int .i64 i] y fun e w'=>e= .returned (.tuple #[.agg (stC 13 (ndI f)),.int .i64 0])∧At w0 w' X rs'):=Lib.hid fun y rs' hy=>by rw [←hf];exact i_load hy i hi.1 hi.2
  rw [hf]
  clear h hi hf
  go_enter Tryz.func173,Tryz.ntmps173
  go_upto_region 1 with (refine allocRow rfl _ _ zeroStt rfl ?_)
  obtain ⟨y1,hy1,h1⟩:=HA0.out.name
  rw [hy1]
  clear hy1 HA0
  have H1:=Lib.hid h1
  generalize w.heap.size=b at*
  clear h1
  go_wp2_with fail
  refine (KL.out _ _ H1.out).mono ?_
  rintro e w2 ⟨rfl,h2⟩
  have HA:=Lib.hid (h2.newArr (stC 13 fun _=>0) 270 neNd)
  have HB0:=Lib.hid (show (w2.alloc (.cells (stC 13 fun _=>0) 270 (0,0))).heap[w2.heap.size]?=some (.cells (stC 13 fun _=>0) 270 (0,0)) from HA.out.1.get (i:=1) rfl)
  have HA2:=Lib.hid (HA.out.setRow 0 (c':=stC 13 (ndI f)) rfl)
  clear h2
  go_upto_region 2 with (first | (refine allocRow rfl _ _ zeroNd rfl ?_) | (refine storeNd rfl _ _ rfl w2.heap.size _ rfl rfl _ (stC_size _ _) HB0.out ?_))
  obtain ⟨y2,hy2,h2⟩:=HA2.out.name
  rw [hy2]
  clear hy2 HA HA2 HB0
  generalize w2.heap.size=g at*
  have h2:At w0 y2 X (arr g (stC 13 (ndI f)) 270 neNd::arr b #[.int .i64 0,.int .i64 0] 82 neStt::rs):=h2
  have d0:y2.cell? ⟨g,0,none⟩=some (.int .i64 (f 0)):=(h2.arrCell (i:=0) rfl 0).trans (stC_get _ _ _ (by omega))
  have d1:y2.cell? ⟨g,1,none⟩=some (.int .i64 (f 1)):=(h2.arrCell (i:=0) rfl 1).trans (stC_get _ _ _ (by omega))
  have h3:=h2.setArr 1 rfl 0 (.int .i64 (f 0))
  have h4:=h3.setArr 1 rfl 1 (.int .i64 (f 1))
  have e0:y2.cell? ⟨b,0,none⟩=some (.int .i64 0):=(h2.arrCell (i:=1) rfl 0).trans rfl
  have g0:y2.frozen? ⟨b,0,none⟩=false:=h2.arrFree (i:=1) rfl 0
  have e1:(y2.setCell ⟨b,0,none⟩ (.int .i64 (f 0))).cell? ⟨b,1,none⟩=some (.int .i64 0):=(h3.arrCell (i:=1) rfl 1).trans rfl
  have g1:(y2.setCell ⟨b,0,none⟩ (.int .i64 (f 0))).frozen? ⟨b,1,none⟩=false:=h3.arrFree (i:=1) rfl 1
  have h4:At w0 ((y2.setCell ⟨b,0,none⟩ (.int .i64 (f 0))).setCell ⟨b,1,none⟩ (.int .i64 (f 1))) X (arr g (stC 13 (ndI f)) 270 neNd::arr b #[.int .i64 (f 0),.int .i64 (f 1)] 82 neStt::rs):=h4
  have H3:=Lib.hid h4
  have HB3:=Lib.hid (show ((y2.setCell ⟨b,0,none⟩ (.int .i64 (f 0))).setCell ⟨b,1,none⟩ (.int .i64 (f 1))).heap[b]?=some (.cells #[.int .i64 (f 0),.int .i64 (f 1)] 82 (0,0)) from h4.1.get (i:=2) rfl)
  clear h2 h3 h4 H1 KL
  go_wp2_with fail
  have hld:=run_loadVar_row (P:=Tryz.prog) ((y2.setCell ⟨b,0,none⟩ (.int .i64 (f 0))).setCell ⟨b,1,none⟩ (.int .i64 (f 1))) b 82 82 #[.int .i64 (f 0),.int .i64 (f 1)] (0,0) _ HB3.out Tryz.underlying82 rfl (infoStt _ _)
  exact bodyPost_ret (v:= .tuple #[.agg #[.int .i64 (f 0),.int .i64 (f 1)],.int .i64 0]) (results_ct Tryz.results173 _ _ ⟨b,0,none⟩ rfl _ hld) rfl ⟨rfl,H3.out.drop 2⟩
set_option maxRecDepth 100000 in
theorem i_Format (h:At w0 w X rs) (hop:X.op=true) {C:List Nat} (hC:Cov X C) (htb:X.P.tb∈C) (h60:C.length≤60):
    Calls Tryz.prog 95 #[.pointer (some ⟨X.sb,0,none⟩)] w fun e w'=>e= .returned (.int .i64 0)∧At w0 w' (X.saved 0 (newNd 2)) rs:=by
  have HR:=Lib.hid (i_Ready h)
  rw [hop] at HR
  have HSV:=Lib.hid (i_save h hop 0 h.ok.pl.ni.1 (newNd 2) (fun j _=>by unfold newNd;split<;>omega) (hC.room h.ok htb h60))
  have eA:(Value.agg (stC 13 (ndI (newNd 2))))= .agg #[.int .i64 2,.int .i64 0,.int .i64 0,.int .i64 0,.int .i64 0,.int .i64 0,.int .i64 0,.int .i64 0,.int .i64 0,.int .i64 0,.int .i64 0,.int .i64 0,.int .i64 0]:=rfl
  rw [eA] at HSV
  rw [show ((0:Nat):Int)=0 from rfl] at HSV
  clear h hop hC htb h60 eA
  go_enter Tryz.func95,Tryz.ntmps95
  go_wp2_with fail
  refine HR.out.mono ?_
  rintro e w2 ⟨rfl,rfl⟩
  go_wp2_with fail
  refine HSV.out.mono ?_
  rintro e w3 ⟨rfl,h3⟩
  have H3:=Lib.hid h3
  clear h3
  go_wp2
  go_ret
  exact ⟨rfl,H3.out⟩
end
section
open Go.ChangeMaps Go.MapKept Go.RowKit
structure Shrunk (X W:Sys) (i S:Nat):Prop where
  ok:FsOk W
  live: ∀j,W.live j↔X.live j
  oth: ∀j,X.live j→j≠i→W.bytes j=X.bytes j∧∀m,m<13→W.nd j m=X.nd j m
  kind:W.nd i 0=X.nd i 0
  size:W.nd i 1=S
  blk: ∀k,k<dat S→W.nd i (2+k)=X.nd i (2+k)
  byte: ∀p,p<S→fb W.v (W.nd i) p=fb X.v (X.nd i) p
  free:W.fb=X.fb+(dat (X.nd i 1)-dat S)
  wr:Wr X W fun t=>t=X.P.bm∨t=X.P.tb+i/8
theorem FsOk.shrunk {X Y:Sys} (ho:FsOk X) (hX:SysOk X) {i S:Nat} {f':Nat→Nat} (hi:X.live i) (hS:S≤X.nd i 1) (hg:Gave X Y (X.nd i) f' (dat S) (dat (X.nd i 1))):Shrunk X (Y.saved i (setF f' 1 S)) i S:=by
  generalize hWW:Y.saved i (setF f' 1 S)=W
  have h1:=hX.pl.im;have h2:=hX.pl.bm;have h3:=hX.pl.tb;have h4:=hX.pl.da
  have hi1:=hi.1
  have hse:=ho.size i hi
  have hda:=dat_le hse
  have hdS:dat S≤dat (X.nd i 1):=by unfold dat;omega
  have hP:Y.P=X.P:=hg.wr.P
  have hPW:W.P=X.P:=by rw [←hWW];exact hP
  have hYv: ∀t,t≠X.P.bm→Y.v t=X.v t:=fun t h=>hg.wr.v t h
  have ht:=hX.tab hi1
  have hYt:Y.v (X.P.tb+i/8)=X.v (X.P.tb+i/8):=hYv _ (by omega)
  have hWv: ∀t,W.v t=if t=X.P.tb+i/8 then putNd (X.v (X.P.tb+i/8)) (i%8*64) (setF f' 1 S) 13 else Y.v t:=fun t=>by
    rw [←hWW]
    show (Sys.put Y _ _).v t=_
    rw [Sys.put_v,hP,hYt]
  have hWo: ∀t,t≠X.P.tb+i/8→t≠X.P.bm→W.v t=X.v t:=fun t q1 q2=>by rw [hWv,if_neg q1,hYv t q2]
  have hWim:W.v X.P.im=X.v X.P.im:=hWo _ (by omega) (by omega)
  have hWbm:W.v X.P.bm=Y.v X.P.bm:=by rw [hWv,if_neg (by omega)]
  have hlen:(X.v (X.P.tb+i/8)).length=512:=hX.len _ ht.1 ht.2.2
  have hlive: ∀j,W.live j↔X.live j:=fun j=>by unfold Sys.live;rw [hPW,hWim]
  have hf: ∀j,j<13→setF f' 1 S j<4294967296:=fun j hj=>by
    show (if j=1 then S else f' j)<_
    by_cases e:j=1
    · rw [if_pos e];omega
    · rw [if_neg e]
      by_cases e2:j<2+dat S∨2+dat (X.nd i 1)≤j
      · rw [hg.same j e2];exact nd_lt hX hi1 hj
      · have:=hg.zero (j-2) (by omega) (by omega)
        rw [show 2+(j-2)=j by omega] at this
        omega
  have hWi: ∀m,m<13→W.nd i m=setF f' 1 S m:=fun m hm=>by
    unfold Sys.nd ndAt
    rw [hPW,hWv,if_pos rfl]
    exact putNd_same _ _ _ 13 (by rw [hlen];omega) hf m hm
  have hWj: ∀j,X.live j→j≠i→∀m,m<13→W.nd j m=X.nd j m:=fun j hj hne m hm=>by
    have hj1:=hj.1
    unfold Sys.nd ndAt
    rw [hPW,hWv]
    by_cases e:j/8=i/8
    · rw [if_pos (by rw [e]),putNd_other _ _ _ _ _ 13 (by rw [hlen];omega) (by omega),←e]
    · rw [if_neg (by omega),hYv _ (by omega)]
  have e1:W.nd i 1=S:=hWi 1 (by omega)
  have eb: ∀k,k<dat S→W.nd i (2+k)=X.nd i (2+k):=fun k hk=>(hWi (2+k) (by omega)).trans ((if_neg (by omega)).trans (hg.same _ (.inl (by omega))))
  have orig: ∀j k,X.live j→k<dat (W.nd j 1)→k<dat (X.nd j 1)∧W.nd j (2+k)=X.nd j (2+k)∧(j=i→k<dat S):=fun j k hj hk=>by
    by_cases e:j=i
    · subst e
      rw [e1] at hk
      exact ⟨by omega,eb k hk,fun _=>hk⟩
    · rw [hWj j hj e 1 (by omega)] at hk
      have:=dat_le (ho.size j hj)
      exact ⟨hk,hWj j hj e (2+k) (by omega),fun x=>absurd x e⟩
  refine ⟨⟨fun j hj=>?_,fun j k hj hk=>?_,fun j j' k m hj hj' hk hm e=>?_⟩,hlive,fun j hj hne=>⟨bytes_congr (hWj j hj hne) (ho.size j hj) fun k hk=>?_,hWj j hj hne⟩,?_,e1,eb,fun p hp=>?_,?_,?_⟩
  · have hj:=(hlive j).1 hj
    by_cases e:j=i
    · rw [e,e1];omega
    · rw [hWj j hj e 1 (by omega)];exact ho.size j hj
  · have hj:=(hlive j).1 hj
    obtain ⟨q1,q2,q3⟩:=orig j k hj hk
    obtain ⟨b,r1,r2,r3⟩:=ho.blk j k hj q1
    refine ⟨b,by rw [hPW];exact r1,by rw [hPW,q2];exact r2,?_⟩
    rw [hPW,hWbm]
    refine (hg.bits b).2 ⟨r3,fun m m1 m2 e=>?_⟩
    obtain ⟨x1,x2⟩:=ho.inj j i k m hj hi q1 m2 (by rw [r2,e])
    have:=q3 x1
    omega
  · have gj:=(hlive j).1 hj
    have gj':=(hlive j').1 hj'
    obtain ⟨q1,q2,_⟩:=orig j k gj hk
    obtain ⟨s1,s2,_⟩:=orig j' m gj' hm
    rw [q2,s2] at e
    exact ho.inj j j' k m gj gj' q1 s1 e
  · obtain ⟨b,_,q,_⟩:=ho.blk j k hj hk
    exact hWo _ (by omega) (by omega)
  · exact (hWi 0 (by omega)).trans ((if_neg (by omega)).trans (hg.same 0 (.inl (by omega))))
  · have hk:=dat_lt hp
    obtain ⟨b,_,q,_⟩:=ho.blk i _ hi (show p/512<dat (X.nd i 1) by omega)
    unfold fb
    rw [eb _ hk,hWo _ (by omega) (by omega)]
  · have:=hg.free
    have e:W.fb=Y.fb:=by unfold Sys.fb;rw [hPW,hP,hWbm]
    omega
  · rw [←hWW]
    exact (hg.wr.mono fun t e=> .inl e).trans ((Wr.put Y _ _).mono fun t e=> .inr (by rw [e,hP]))
theorem Gave.lt {X Y:Sys} (hX:SysOk X) {i S s:Nat} {f':Nat→Nat} (hi:i<X.P.ni) (hS:S≤5120) (hg:Gave X Y (X.nd i) f' (dat S) (dat s)): ∀j,j<13→setF f' 1 S j<4294967296:=fun j hj=>by
  show (if j=1 then S else f' j)<_
  by_cases e:j=1
  · rw [if_pos e];omega
  · rw [if_neg e]
    by_cases e2:j<2+dat S∨2+dat s≤j
    · rw [hg.same j e2];exact nd_lt hX hi hj
    · have:=hg.zero (j-2) (by omega) (by omega)
      rw [show 2+(j-2)=j by omega] at this
      omega
end
section
open Go.ChangeMaps Go.MapKept Go.RowKit
variable {w0:Gnd} {w:World} {rs:List Res} {X:Sys}
set_option maxHeartbeats 1000000 in
set_option maxRecDepth 100000 in
theorem i_Truncate (h:At w0 w X rs) (hop:X.op=true) (ho:FsOk X) (i:Nat) (hi:X.live i) (S:Nat) (hS:S≤X.nd i 1) {C:List Nat} (hC:Cov X C) (hbm:X.P.bm∈C) (htb:X.P.tb+i/8∈C) (h60:C.length≤60):
    Calls Tryz.prog 236 #[.pointer (some ⟨X.sb,0,none⟩),.int .i64 i,.int .i64 S] w fun e w'=>e= .returned (.int .i64 0)∧∃W,At w0 w' W rs∧Shrunk X W i S:=by
  obtain ⟨f,hf⟩: ∃f,X.nd i=f:=⟨_,rfl⟩
  obtain ⟨s,hs⟩: ∃s,f 1=s:=⟨_,rfl⟩
  have HCH:=Lib.hid (i_changing h hop i hi.1 hi.2)
  have hs5:=ho.size i hi
  have HO:=Lib.hid ho
  have HS:=Lib.hid h.ok
  have HI:=Lib.hid hi
  have HOP:=Lib.hid hop
  have HC:=Lib.hid (And.intro hC (And.intro hbm (And.intro htb h60)))
  have HF:=Lib.hid hf
  rw [hf] at HCH hS hs5
  rw [hs] at hS hs5
  have HSS:=Lib.hid (And.intro hs (And.intro hS hs5))
  have s0:(0:Int)≤(s:Int):=Int.natCast_nonneg _
  have s1:(s:Int)≤5120:=by omega
  have S0:(0:Int)≤(S:Int):=Int.natCast_nonneg _
  have S1:(S:Int)≤(s:Int):=by omega
  -- what is saved
  have KSV:Hid (∀y g Y f',At w0 y Y (arr g (stC 13 (ndI (setF f' 1 S))) 270 neNd::rs)→Gave X Y f f' (dat S) (dat s)→Calls Tryz.prog 184 #[.pointer (some ⟨X.sb,0,none⟩),.int .i64 i,.agg (stC 13 (ndI (setF f' 1 S)))] y fun e w'=>e= .returned (.int .i64 0)∧At w0 w' (Y.saved i (setF f' 1 S)) (arr g (stC 13 (ndI (setF f' 1 S))) 270 neNd::rs)∧Shrunk X (Y.saved i (setF f' 1 S)) i S):=Lib.hid fun y g Y f' hy hg=>by
    have eP:=hg.wr.P
    have e1:X.nd i 1=s:=by rw [HF.out];exact HSS.out.1
    have hg':Gave X Y (X.nd i) f' (dat S) (dat (X.nd i 1)):=by rw [e1,HF.out];exact hg
    have:=i_save hy (by rw [hg.wr.op];exact HOP.out) i (by rw [eP];exact HI.out.1) (setF f' 1 S) (Gave.lt HS.out HI.out.1 (by have:=HSS.out;omega) hg') ((HC.out.1.wr hg.wr (fun t e=>e▸HC.out.2.1)).room hy.ok (by rw [eP];exact HC.out.2.2.1) HC.out.2.2.2)
    rw [hg.wr.sb] at this
    exact this.mono fun e w' ⟨q1,q2⟩=>⟨q1,q2,HO.out.shrunk HS.out HI.out (by rw [e1];exact HSS.out.2.1) hg'⟩
  clear h hop ho hi hC hbm htb h60 hf hs hs5 hS
  go_enter Tryz.func236,Tryz.ntmps236
  go_wp2_with fail
  refine HCH.out.mono ?_
  clear HCH
  rintro e w2 ⟨rfl,h2⟩
  have HA:=Lib.hid (h2.newArr (stC 13 fun _=>0) 270 neNd)
  have HB0:=Lib.hid (show (w2.alloc (.cells (stC 13 fun _=>0) 270 (0,0))).heap[w2.heap.size]?=some (.cells (stC 13 fun _=>0) 270 (0,0)) from HA.out.1.get (i:=1) rfl)
  have HA2:=Lib.hid (HA.out.setRow 0 (c':=stC 13 (ndI f)) rfl)
  clear h2
  go_upto_region 2 with (first | (refine allocRow rfl _ _ zeroNd rfl ?_) | (refine storeNd rfl _ _ rfl w2.heap.size _ rfl rfl _ (stC_size _ _) HB0.out ?_))
  obtain ⟨y1,hy1,h1⟩:=HA2.out.name
  rw [hy1]
  have H1:Hid (At w0 y1 X (arr w2.heap.size (stC 13 (ndI f)) 270 neNd::rs)):=Lib.hid h1
  clear hy1 HA HA2 HB0 h1
  generalize w2.heap.size=g at*
  have d1:y1.cell? ⟨g,1,none⟩=some (.int .i64 s):=(H1.out.arrCell (i:=0) rfl 1).trans ((stC_get _ _ _ (by omega)).trans (by unfold ndI;rw [HSS.out.1]))
  by_cases hlt:S<s
  · have l1:(S:Int)<(s:Int):=by omega
    have HG:=Lib.hid (i_give H1.out HOP.out s S HSS.out.1 (by omega) HSS.out.2.2 (fun k hk=>by rw [←HSS.out.1,←HF.out] at hk;rw [←HF.out];exact HO.out.blk i k HI.out hk) (fun k j hk hj e=>by rw [←HSS.out.1,←HF.out] at hk hj;rw [←HF.out] at e;exact (HO.out.inj i i k j HI.out HI.out hk hj e).2) HC.out.1 HC.out.2.1 HC.out.2.2.2)
    clear H1
    go_wp2_with fail
    refine HG.out.mono ?_
    clear HG d1
    rintro e w3 ⟨rfl,Y,f',h3,hg⟩
    have d0: ∃u,w3.cell? ⟨g,1,none⟩=some u:=⟨_,(h3.arrCell (i:=0) rfl 1).trans (stC_get _ _ _ (by omega))⟩
    obtain ⟨u0,d0⟩:=d0
    have f0:w3.frozen? ⟨g,1,none⟩=false:=h3.arrFree (i:=0) rfl 1
    have h5:=h3.setArr 0 rfl 1 (.int .i64 S)
    rw [stC_setF _ _ _ _ (by omega),ndI_set] at h5
    have h5:At w0 (w3.setCell ⟨g,1,none⟩ (.int .i64 S)) Y (arr g (stC 13 (ndI (setF f' 1 S))) 270 neNd::rs):=h5
    have HB5:=Lib.hid (show (w3.setCell ⟨g,1,none⟩ (.int .i64 S)).heap[g]?=some (.cells (stC 13 (ndI (setF f' 1 S))) 270 (0,0)) from h5.1.get (i:=1) rfl)
    have HSV:=Lib.hid (KSV.out _ _ _ _ h5 hg)
    clear h3 h5 hg
    go_wp2_with (refine loadNd rfl _ rfl g rfl _ HB5.out ?_)
    obtain ⟨W,hW⟩: ∃W,Y.saved i (setF f' 1 S)=W:=⟨_,rfl⟩
    rw [hW] at HSV
    refine HSV.out.mono ?_
    clear HSV HB5 d0 f0 hW
    rintro e w4 ⟨rfl,h4,hsh⟩
    have H4:=Lib.hid (h4.drop 1)
    have HSH:=Lib.hid hsh
    clear h4 hsh
    go_wp2
    go_ret
    exact ⟨rfl,_,H4.out,HSH.out⟩
  · have l1: ¬(S:Int)<(s:Int):=by omega
    have eS:S=s:=by omega
    have eF:setF f 1 S=f:=funext fun j=>by
      show (if j=1 then S else f j)=f j
      by_cases e:j=1
      · rw [if_pos e,e,HSS.out.1,eS]
      · rw [if_neg e]
    have hst:At w0 y1 X (arr g (stC 13 (ndI (setF f 1 S))) 270 neNd::rs):=by rw [eF];exact H1.out
    have HSV:=Lib.hid (KSV.out _ _ _ _ hst (by rw [eS];exact Gave.refl X f _))
    have HB5:=Lib.hid (show y1.heap[g]?=some (.cells (stC 13 (ndI (setF f 1 S))) 270 (0,0)) from hst.1.get (i:=1) rfl)
    clear H1 hst eF eS
    go_wp2_with (refine loadNd rfl _ rfl g rfl _ HB5.out ?_)
    obtain ⟨W,hW⟩: ∃W,X.saved i (setF f 1 S)=W:=⟨_,rfl⟩
    rw [hW] at HSV
    refine HSV.out.mono ?_
    clear HSV HB5 hW
    rintro e w4 ⟨rfl,h4,hsh⟩
    have H4:=Lib.hid (h4.drop 1)
    have HSH:=Lib.hid hsh
    clear h4 hsh
    go_wp2
    go_ret
    exact ⟨rfl,_,H4.out,HSH.out⟩
end
section
open Go.ChangeMaps Go.MapKept Go.RowKit
def keyB (s:ByteArray):Blk:=UInt8.ofNat s.size::(s.data.toList++List.replicate (50-s.size) 0)
theorem keyB_length (s:ByteArray) (h:s.size≤50):(keyB s).length=51:=by
  have hl:s.data.toList.length=s.size:=by rw [Array.length_toList];rfl
  unfold keyB
  rw [List.length_cons,List.length_append,List.length_replicate,hl]
  omega
def keyC (s:ByteArray):Array Value:=((keyB s).map B8).toArray
def kc0:Array Value:=(List.replicate 51 (Value.int .u8 0)).toArray
theorem zeroKey (W:World):(zeroValue 299).run Tryz.prog W= .ok (.agg kc0) W:=by kernel_rfl
theorem infoKey (c:Array Value) (h:c.size=51):(Tryz.prog.info? 299).map (·.size)=some c.size:=by rw [h];kernel_rfl
theorem key_cells (s:ByteArray) (h:s.size≤50):((kc0.setIfInBounds 0 (.int .u8 (s.size:Nat))).toList.take 1++Lib.byteCells s.data.toList++(kc0.setIfInBounds 0 (.int .u8 (s.size:Nat))).toList.drop (1+s.size)).toArray=keyC s:=by
  have hl:s.data.toList.length=s.size:=by rw [Array.length_toList];rfl
  have e0:(kc0.setIfInBounds 0 (.int .u8 (s.size:Nat))).toList= .int .u8 (s.size:Nat)::List.replicate 50 (.int .u8 0):=by
    rw [Array.toList_setIfInBounds]
    rfl
  have e1:B8 (UInt8.ofNat s.size)= .int .u8 (s.size:Nat):=by
    unfold B8
    have:(UInt8.ofNat s.size).toNat=s.size:=by rw [UInt8.toNat_ofNat'];omega
    rw [this]
  unfold keyC keyB
  rw [e0,List.map_cons,e1,List.map_append,List.map_replicate,Nat.add_comm,List.drop_succ_cons,List.drop_replicate]
  rfl
theorem oneB8 (b:Blk):((b.map B8).toArray.all fun x=>x.oneCell')=true:=by
  rw [Array.all_eq_true_iff_forall_mem]
  intro x hx
  obtain ⟨y,_,rfl⟩:=List.mem_map.1 (List.mem_toArray.1 hx)
  rfl
theorem loadKey {ops:Array Oper} {rest:List Oper} {o:Oper} {a:Act} {w:World} {Q:Exit→Act→World→Prop} (hw:Region.wanted o (yielded ops a.tmps)=true) (x:Operand) (ho:o.op= .load 299 x) (g:Nat) (hx:a.eval x= .pointer (some ⟨g,0,none⟩)) (c:Array Value) (hc:c.size=51)
    (hg:w.heap[g]?=some (.cells c 299 (0,0))) (h:wpList Tryz.prog ops Q rest (a.put o.dst (.agg c)) w):wpList Tryz.prog ops Q (o::rest) a w:=
  BigFrame.wpList_want hw fun K hK=>wp_load_row _ x ho g hx _ c _ _ hg Tryz.underlying299 rfl (infoKey c hc) (hK _ _ h)
theorem storeKey {ops:Array Oper} {rest:List Oper} {o:Oper} {a:Act} {w:World} {Q:Exit→Act→World→Prop} (hgd:o.guard=none) (x y:Operand) (ho:o.op= .store 299 x y) (g:Nat) (b:Blk) (hb:b.length=51) (hx:a.eval x= .pointer (some ⟨g,0,none⟩)) (hy:a.eval y= .agg (b.map B8).toArray) (old:Array Value) (hold:old.size=51)
    (hg:w.heap[g]?=some (.cells old 299 (0,0))) (h:wpList Tryz.prog ops Q rest (a.put o.dst undef) (w.setRow g (b.map B8).toArray)):wpList Tryz.prog ops Q (o::rest) a w:=
  wpList_store_row hgd _ x y ho g (b.map B8).toArray hx hy _ old hg (infoKey _ (by simp [hb])) (by rw [hold];simp [hb]) (oneB8 b) h
theorem results_c1 {P:Program} {fn:Func} {t:Tmp} {ty:TypeId} (h:fn.results= #[.cell t ty]) (tmps:Array Value) (w:World) (a:Addr) (ht:tmps.getD t undef= .pointer (some a)) (v:Value) (hl:(loadVar ty a).run P w= .ok v w):
    (results fn tmps).run P w= .ok v w:=by
  have ht':tmps[t]?.getD undef= .pointer (some a):=by simpa using ht
  simp [results,h,ht',hl,asAddr]
set_option maxRecDepth 100000 in
theorem d_of (w:World) (s:ByteArray) (hs:s.size≤50):
    Calls Tryz.prog 210 #[.string s] w fun e w'=>e= .returned (.agg (keyC s))∧Frm NoB w w':=by
  obtain ⟨g,hg⟩: ∃g,w.heap.size=g:=⟨_,rfl⟩
  have hb0:=block_alloc_new w (.cells kc0 299 (0,0))
  have hf0:=(Frm.refl NoB w).alloc (.cells kc0 299 (0,0))
  obtain ⟨y,hy⟩: ∃y,w.alloc (.cells kc0 299 (0,0))=y:=⟨_,rfl⟩
  have HG:=Lib.hid hg
  rw [hy,hg] at hb0
  rw [hy] at hf0
  have d0:y.cell? ⟨g,0,none⟩=some (.int .u8 0):=(cell_of_block hb0).trans rfl
  have f0:y.frozen? ⟨g,0,none⟩=false:=frozen_of_block hb0
  have hb1:=block_setCell_same (i:=0) (.int .u8 (s.size:Nat)) hb0
  have hf1:Frm NoB w (y.setCell ⟨g,0,none⟩ (.int .u8 (s.size:Nat))):=hf0.setCell (.inr (by rw [←hg];exact Nat.le_refl _)) _
  obtain ⟨y1,hy1⟩: ∃y1,y.setCell ⟨g,0,none⟩ (.int .u8 (s.size:Nat))=y1:=⟨_,rfl⟩
  rw [hy1] at hb1 hf1
  have hcp:=fun ty c=>Lib.run_copy_row_string (P:=Tryz.prog) y1 76 9 ty 5 g 1 50 c s _ 299 Tryz.underlying76 (by kernel_rfl) hb1 hs (by rw [Array.size_setIfInBounds];show 1+s.size≤51;omega)
  rw [key_cells s hs] at hcp
  have hsz:(keyC s).size=51:=by unfold keyC;simp [keyB_length s hs]
  have hb2:=setRow_heap y1 g _ (keyC s) _ _ hb1
  have hf2:Frm NoB w (y1.setRow g (keyC s)):=hf1.setRowNew (by rw [hg];exact Nat.le_refl _) _
  have hs0:(0:Int)≤((s.size:Nat):Int):=Int.natCast_nonneg _
  have hs1:((s.size:Nat):Int)≤50:=by omega
  have HY:=Lib.hid (And.intro hy hy1)
  have HB2:=Lib.hid hb2
  have HF2:=Lib.hid hf2
  have HSZ:=Lib.hid hsz
  clear hb0 hf0 hb1 hf1 hb2 hf2 hsz hy hy1 hg
  go_enter Tryz.func210,Tryz.ntmps210
  go_upto_region 1 with (refine allocRow rfl _ _ zeroKey rfl ?_)
  rw [HY.out.1,HG.out]
  go_upto_region 2 with fail
  rw [HY.out.2]
  clear d0 f0
  go_upto_region 3 with fail
  have HB3:=Lib.hid (setRow_heap (y1.setRow g (keyC s)) g _ (keyC s) _ _ HB2.out)
  have HF3:=Lib.hid (HF2.out.setRowNew (by rw [HG.out];exact Nat.le_refl _) (keyC s))
  go_wp2_with (first | (refine loadKey rfl _ rfl g rfl _ HSZ.out HB2.out ?_) | (refine storeKey rfl _ _ rfl g (keyB s) (keyB_length s hs) rfl rfl _ HSZ.out HB2.out ?_))
  have hld:=run_loadVar_row (P:=Tryz.prog) ((y1.setRow g (keyC s)).setRow g (keyC s)) g 299 299 (keyC s) (0,0) _ HB3.out Tryz.underlying299 rfl (infoKey _ HSZ.out)
  exact bodyPost_ret (v:= .agg (keyC s)) (results_c1 Tryz.results210 _ _ ⟨g,0,none⟩ rfl _ hld) rfl ⟨rfl,HF3.out⟩
def nameB (i:Nat) (s:ByteArray):Blk:=lays (putLE (nought 64) 0 4 i) 4 (keyB s)
theorem nameB_length (i:Nat) (s:ByteArray) (h:s.size≤50):(nameB i s).length=64:=by
  have h1:(putLE (nought 64) 0 4 i).length=64:=(putLE_length _ _ _ _ (by rw [nought_len];omega)).trans (nought_len 64)
  unfold nameB
  rw [lays_length _ _ _ (by rw [h1,keyB_length s h];omega),h1]
theorem addr_at (g j:Nat):((⟨g,0,none⟩:Addr).add j)=⟨g,j,none⟩:=by
  unfold Addr.add
  by_cases e:j=0
  · subst e;rfl
  · rw [if_neg e,Nat.zero_add]
end
section
open Go.ChangeMaps Go.MapKept Go.RowKit
variable {w0:Gnd} {w:World} {rs:List Res} {X:Sys}
set_option maxRecDepth 100000 in
theorem d_lay (h:At w0 w X rs) (hop:X.op=true) (ho:FsOk X) (d:Nat) (hd:X.live d) (a:Nat) (ha:a≤X.nd d 1) (s:ByteArray) (hs:s.size≤50) (i:Nat) (hi:i<4294967296) (S:Nat) (hS:S=max (X.nd d 1) (a+64)) (h2:S≤5120) (hfr:dat S-dat (X.nd d 1)≤X.fb) {C:List Nat} (hC:Cov X C) (hbm:X.P.bm∈C) (htb:X.P.tb+d/8∈C) (hin: ∀k,k<dat (X.nd d 1)→X.nd d (2+k)∈C) (h60:C.length+(dat S-dat (X.nd d 1))≤60):
    Calls Tryz.prog 211 #[.pointer (some ⟨X.sb,0,none⟩),.int .i64 d,.int .i64 a,.string s,.int .i64 i] w fun e w'=>e= .returned (.int .i64 0)∧∃W N,At w0 w' W rs∧Wrote X W d a (nameB i s)∧N.length=dat S-dat (X.nd d 1)∧Cov W (C++N)∧∀k,k<dat S→W.nd d (2+k)∈C++N:=by
  have hsl:=nameB_length i s hs
  have KW:Hid (∀y g o c,At w0 y X (byt (.slice (some ⟨g,o,none⟩) 64 c) (nameB i s)::rs)→Calls Tryz.prog 190 #[.pointer (some ⟨X.sb,0,none⟩),.int .i64 d,.int .i64 a,.slice (some ⟨g,o,none⟩) 64 c] y fun e w'=>e= .returned (.int .i64 0)∧∃W N,At w0 w' W rs∧Wrote X W d a (nameB i s)∧N.length=dat S-dat (X.nd d 1)∧Cov W (C++N)∧∀k,k<dat S→W.nd d (2+k)∈C++N):=Lib.hid fun y g o c hy=>by
    have:=i_Write hy hop ho d hd a ha 0 (b:=nameB i s) (bb:=g) (bo:=o) (vc:=c) (by rw [hsl];rfl) S (by rw [hsl];exact hS) h2 hfr hC hbm htb hin h60
    rw [hsl] at this
    refine this.mono ?_
    rintro e w' ⟨he,W,N,q1,q2⟩
    exact ⟨he,W,N,q1.drop 1,q2⟩
  have H:=Lib.hid h
  have hmk: ∀W,(Instr.makeSlice 76 (.int .i64 64) (.int .i64 64)).run Tryz.prog W= .ok (.slice (some ⟨W.heap.size,0,none⟩) 64 64) (W.alloc (.cells (madeCells #[.int .u8 0] 64) 5 (0,0))):=run_makeN 64 (by omega)
  have hb0:=nought_at w 64
  have hf0:=(Frm.refl NoB w).alloc (.cells (madeCells #[.int .u8 0] 64) 5 (0,0))
  have HPT:=Lib.hid (bitsPut_any _ _ _ 0 4 i (Fresh w) hb0 (by omega) (by omega) (by rw [nought_len];omega) (by rw [nought_len];omega) (by omega))
  have HF0:=Lib.hid hf0
  have i0:(0:Int)≤(i:Int):=Int.natCast_nonneg _
  have i1:(i:Int)<4294967296:=by omega
  have HI:=Lib.hid (And.intro hi hs)
  clear h hop ho hd ha hS h2 hfr hC hbm htb hin h60 hb0 hf0 hsl hs hi
  go_enter Tryz.func211,Tryz.ntmps211
  go_wp2_with fail
  refine HPT.out.mono ?_
  clear HPT hmk
  rintro e w2 ⟨hf2,v2,rfl,hb2⟩
  have hl2:(putLE (nought 64) 0 4 i).length=64:=(putLE_length _ _ _ _ (by rw [nought_len];omega)).trans (nought_len 64)
  obtain ⟨vb,vo,vc,rfl,hcap,-,-⟩:=hb2.cells
  rw [hl2] at hcap hb2 ⊢
  have HF2:=Lib.hid (HF0.out.trans hf2 fun _ _ e=>e)
  have HB2:=Lib.hid (hb2.mono (R':=Fresh w) fun x _ hx=>Nat.le_trans HF0.out.size hx)
  have HL2:=Lib.hid hl2
  clear hf2 hb2 hl2 HF0
  go_wp2_with fail
  refine (d_of w2 s HI.out.2).mono ?_
  rintro e w3 ⟨rfl,hf3⟩
  have HF3:=Lib.hid (HF2.out.trans hf3 fun _ _ e=>e)
  have HB3:=Lib.hid (HB2.out.frm0 hf3)
  have HK0:=Lib.hid (block_alloc_new w3 (.cells kc0 299 (0,0)))
  have hk1:=setRow_heap _ _ _ (keyC s) _ _ HK0.out
  have hf4:Frm NoB w3 ((w3.alloc (.cells kc0 299 (0,0))).setRow w3.heap.size (keyC s)):=((Frm.refl NoB w3).alloc _).setRowNew (Nat.le_refl _) _
  have HF4:=Lib.hid (HF3.out.trans hf4 fun _ _ e=>e)
  have HB4:=Lib.hid (HB3.out.frm0 hf4)
  have HK1:=Lib.hid hk1
  clear hf3 HB2 HF2 HB3 HF3 hk1 hf4
  go_upto_region 3 with (first | (refine allocRow rfl _ _ zeroKey rfl ?_) | (refine storeKey rfl _ _ rfl w3.heap.size (keyB s) (keyB_length s HI.out.2) rfl rfl _ rfl HK0.out ?_))
  obtain ⟨gk,hgk⟩: ∃gk,w3.heap.size=gk:=⟨_,rfl⟩
  rw [hgk] at HF4 HB4 HK1 ⊢
  show Code.wp Tryz.prog _ _ _ ((w3.alloc (.cells kc0 299 (0,0))).setRow gk (keyC s))
  obtain ⟨w5,hw5⟩: ∃w5,(w3.alloc (.cells kc0 299 (0,0))).setRow gk (keyC s)=w5:=⟨_,rfl⟩
  rw [hw5] at HF4 HB4 HK1 ⊢
  clear hw5 hgk HK0
  have hkl:=keyB_length s HI.out.2
  obtain ⟨cs,hcp,hf6,hb6⟩:=copy_at (HB4.out.frm0 (Frm.refl NoB w5).drew) HF4.out.drew (by rw [HL2.out];omega) 4 (sa:=⟨gk,0,none⟩) (sl:=51) (sc:=51) (keyB s) (by rw [HL2.out,hkl];omega) (by rw [HL2.out,hkl];rfl) (fun j u hj=>by
    rw [addr_at]
    refine (cell_of_block (w:=w5.drew) HK1.out).trans ?_
    unfold keyC
    rw [List.getElem?_toArray]
    exact hj)
  rw [HL2.out,hkl] at hcp
  have H6:=Lib.hid (H.out.mkByt hf6 hb6)
  have hv4: ¬vc=4:=by omega
  have HWR:=Lib.hid (KW.out _ vb vo vc H6.out)
  clear hf6 hb6 HF4 HB4 HK1 KW hkl
  go_region
  go_wp2_with fail
  refine HWR.out.mono ?_
  rintro e w7 ⟨rfl,hp⟩
  have HP:=Lib.hid hp
  clear hp
  go_wp2
  go_ret
  exact ⟨rfl,HP.out⟩
end
section
open Go.ChangeMaps Go.MapKept Go.RowKit
theorem mapM_all {α β:Type} (f:α→Option β): ∀(l:List α),(∀x∈l,∃y,f x=some y)→∃ys,l.mapM f=some ys
  | [],_=>⟨[],rfl⟩
  | a::l,h=>by
    obtain ⟨y,hy⟩:=h a (List.mem_cons_self ..)
    obtain ⟨ys,hys⟩:=mapM_all f l fun x hx=>h x (List.mem_cons_of_mem _ hx)
    exact ⟨y::ys,by rw [List.mapM_cons,hy,hys];rfl⟩
def KeyK (b:Blk):Value:= .agg (b.map B8).toArray
def okK (b:Blk):Prop:=b.length=51
theorem keyTyKey:Tryz.prog.keyType 299=true:=by kernel_rfl
theorem cellsKey:Tryz.prog.cellsOf 299=51:=by kernel_rfl
theorem cellsU8:Tryz.prog.cellsOf 5=1:=by kernel_rfl
theorem wfU8 (x:UInt8):(Lit.int .u8 (x.toNat:Int)).wf=true:=by
  have:x.toNat<256:=x.toNat_lt
  have h0:IntKind.u8.min=0:=by decide
  have h1:IntKind.u8.max=255:=by decide
  simp [Lit.wf,h0,h1]
  omega
theorem keyLits_u8 (d:Nat) (x:UInt8):Tryz.prog.keyLits (d+1) 5 [B8 x]=some [.int .u8 (x.toNat:Int)]:=by
  unfold Program.keyLits B8
  simp only [Tryz.underlying5,wfU8,and_self,if_true]
theorem keyOf_key (b:Blk) (h:okK b): ∃l,keyOf Tryz.prog 299 (KeyK b)=some l:=by
  obtain ⟨d,hd⟩:=typesSz
  have hl:b.length=51:=h
  unfold keyOf KeyK
  simp only [Tryz.underlying299]
  rw [if_pos (by simp [keyTyKey,Value.formed,Tryz.underlying299,cellsKey,hl]),hd]
  unfold Program.keyLits
  simp only [Tryz.underlying299,Value.cells]
  rw [if_pos (by rw [cellsKey];simp [hl])]
  obtain ⟨ys,hys⟩:=mapM_all (fun i=>Tryz.prog.keyLits (d+1) 5 (((b.map B8).toArray.toList.drop (i*Tryz.prog.cellsOf 5)).take (Tryz.prog.cellsOf 5))) (List.range 51) fun i hi=>by
    have hi:=List.mem_range.1 hi
    rw [cellsU8,Nat.mul_one]
    refine ⟨[.int .u8 ((b[i]'(by omega)).toNat:Int)],?_⟩
    have e:((b.map B8).drop i).take 1= [B8 (b[i]'(by omega))]:=by
      rw [List.drop_eq_getElem_cons (by rw [List.length_map];omega)]
      simp
    rw [e]
    exact keyLits_u8 d _
  rw [hys]
  exact ⟨_,rfl⟩
theorem kindKey:KeyKind Tryz.prog 299 KeyK okK:=by
  have K:WideMaps.KeyLaw Tryz.prog 299:=deep_law_laid laidOutP (m:=2) (by omega) (by decide+kernel) (by kernel_rfl) (by kernel_rfl)
  refine ⟨Go.Maps.Keyed.of_law K,fun a ha=>keyOf_key a ha,fun a b h=>?_⟩
  have h1:(a.map B8)=(b.map B8):=by
    unfold KeyK at h
    injection h with h
    exact congrArg Array.toList h |> fun h=>by simpa using h
  have: ∀(a b:Blk),a.map B8=b.map B8→a=b:=fun a=>by
    induction a with
    | nil=>intro b h;cases b with
      | nil=>rfl
      | cons y b=>cases h
    | cons x a ih=>intro b h;cases b with
      | nil=>cases h
      | cons y b=>
        rw [List.map_cons,List.map_cons,List.cons.injEq] at h
        have h2:B8 x=B8 y:=h.1
        have:(x.toNat:Int)=y.toNat:=by unfold B8 at h2;injection h2
        rw [ih b h.2,UInt8.toNat_inj.1 (by omega:x.toNat=y.toNat)]
  exact this a b h1
def slK (b:Blk) (k:Nat):Blk:=(b.drop (64*k+4)).take 51
def slI (b:Blk) (k:Nat):Nat:=getLE b (64*k) 4
def slU (b:Blk) (k:Nat):Bool:=b.getD (64*k+4) 0!=0
def slV (b:Blk) (k:Nat):Value:= .agg #[.int .i64 (64*k:Nat),.int .i64 (slI b k)]
def slM (b:Blk):Nat→Blk→Option Value
  | 0=>fun _=>none
  | n+1=>fun a=>if slU b n=true∧a=slK b n then some (slV b n) else slM b n a
def slF (b:Blk) (n:Nat):Option Nat:=(List.range n).find? fun k=>!slU b k
structure DirOk (b:Blk):Prop where
  whole:b.length%64=0
  once: ∀i j,i<b.length/64→j<b.length/64→slU b i=true→slU b j=true→slK b i=slK b j→i=j
theorem slF_some {b:Blk} {n k:Nat} (h:slF b n=some k):k<n∧slU b k=false:=by
  have h1:=List.find?_some h
  have h2:=List.mem_range.1 (List.mem_of_find?_eq_some h)
  exact ⟨h2,by simpa using h1⟩
theorem slF_succ (b:Blk) (n:Nat):slF b (n+1)=(slF b n).or (if slU b n then none else some n):=by
  unfold slF
  rw [List.range_succ,List.find?_append]
  congr 1
  rw [List.find?_singleton]
  cases slU b n<;>rfl
def NmS (s:ByteArray):Prop:=1≤s.size∧s.size≤50
def slX (b:Blk):Nat→Blk→Option Nat
  | 0=>fun _=>none
  | n+1=>fun a=>if slU b n=true∧a=slK b n then some n else slX b n a
theorem slM_slX (b:Blk) (a:Blk): ∀n,slM b n a=(slX b n a).map (slV b)
  | 0=>rfl
  | n+1=>by
    show (if slU b n=true∧a=slK b n then some (slV b n) else slM b n a)=Option.map (slV b) (if slU b n=true∧a=slK b n then some n else slX b n a)
    rw [slM_slX b a n]
    split<;>rfl
theorem slX_is (b:Blk) (a:Blk): ∀n k,slX b n a=some k→k<n∧slU b k=true∧slK b k=a
  | 0,_,h=>by cases h
  | n+1,k,h=>by
    have h:(if slU b n=true∧a=slK b n then some n else slX b n a)=some k:=h
    by_cases e:slU b n=true∧a=slK b n
    · rw [if_pos e] at h
      cases h
      exact ⟨Nat.lt_succ_self _,e.1,e.2.symm⟩
    · rw [if_neg e] at h
      obtain ⟨q1,q2⟩:=slX_is b a n k h
      exact ⟨by omega,q2⟩
theorem slX_none {b a:Blk}: ∀ {n:Nat},slX b n a=none→∀k,k<n→slU b k=true→slK b k≠a
  | 0,_,k,hk,_=>by omega
  | n+1,h,k,hk,hu=>by
    have h:(if slU b n=true∧a=slK b n then some n else slX b n a)=none:=h
    by_cases e:slU b n=true∧a=slK b n
    · rw [if_pos e] at h;cases h
    · rw [if_neg e] at h
      by_cases ek:k=n
      · subst ek;intro x;exact e ⟨hu,x.symm⟩
      · exact slX_none h k (by omega) hu
def entI (b a:Blk):Option Nat:=(slX b (b.length/64) a).map (slI b)
theorem entI_some {b a:Blk} (h:DirOk b) {i:Nat}:entI b a=some i↔∃k,k<b.length/64∧slU b k=true∧slK b k=a∧slI b k=i:=by
  unfold entI
  constructor
  · intro h
    cases hx:slX b (b.length/64) a with
    | none=>rw [hx] at h;cases h
    | some k=>
      rw [hx] at h
      obtain ⟨q1,q2,q3⟩:=slX_is b a _ k hx
      exact ⟨k,q1,q2,q3,Option.some.inj h⟩
  · rintro ⟨k,q1,q2,q3,q4⟩
    cases hx:slX b (b.length/64) a with
    | none=>exact absurd q3 (slX_none hx k q1 q2)
    | some m=>
      obtain ⟨r1,r2,r3⟩:=slX_is b a _ m hx
      have:=h.once k m q1 r1 q2 r2 (q3.trans r3.symm)
      subst this
      rw [←q4];rfl
theorem entI_none {b a:Blk}:entI b a=none↔∀k,k<b.length/64→slU b k=true→slK b k≠a:=by
  unfold entI
  constructor
  · intro h
    cases hx:slX b (b.length/64) a with
    | none=>exact slX_none hx
    | some k=>rw [hx] at h;cases h
  · intro h
    cases hx:slX b (b.length/64) a with
    | none=>rfl
    | some k=>
      obtain ⟨q1,q2,q3⟩:=slX_is b a _ k hx
      exact absurd q3 (h k q1 q2)
theorem slot_congr {b c:Blk} {k:Nat} (h: ∀p,64*k≤p→p<64*k+64→c[p]?=b[p]?):slU c k=slU b k∧slK c k=slK b k∧slI c k=slI b k:=by
  refine ⟨?_,?_,?_⟩
  · unfold slU
    rw [List.getD_eq_getElem?_getD,List.getD_eq_getElem?_getD,h _ (by omega) (by omega)]
  · unfold slK
    apply List.ext_getElem?
    intro i
    rw [List.getElem?_take,List.getElem?_take,List.getElem?_drop,List.getElem?_drop]
    split
    · exact h _ (by omega) (by omega)
    · rfl
  · unfold slI
    exact getLE_congr fun i h1 h2=>h i (by omega) (by omega)
structure Over (b c:Blk) (a:Nat) (x:Blk):Prop where
  len:c.length=max b.length (a+x.length)
  byte: ∀p,p<c.length→c[p]?=if a≤p∧p<a+x.length then x[p-a]? else b[p]?
structure SlotB (x:Blk) (i:Nat) (key:Blk):Prop where
  len:x.length=64
  num:getLE x 0 4=i
  key:(x.drop 4).take 51=key
theorem Over.same {b c x:Blk} {a:Nat} (h:Over b c a x) (ha:a≤b.length) {k:Nat} (hk:64*k+64≤b.length) (hd:64*k+64≤a∨a+x.length≤64*k):slU c k=slU b k∧slK c k=slK b k∧slI c k=slI b k:=
  slot_congr fun p h1 h2=>by rw [h.byte p (by rw [h.len];omega),if_neg (by omega)]
theorem Over.at {b c x:Blk} {k i:Nat} {key:Blk} (h:Over b c (64*k) x) (hx:SlotB x i key):slK c k=key∧slI c k=i∧slU c k=(key.getD 0 0!=0):=by
  have hl:=h.len
  have hxl:=hx.len
  have hb: ∀p,p<64→c[64*k+p]?=x[p]?:=fun p hp=>by
    rw [h.byte _ (by omega),if_pos (by omega),show 64*k+p-64*k=p by omega]
  have hK:slK c k=key:=by
    rw [←hx.key]
    unfold slK
    apply List.ext_getElem?
    intro j
    rw [List.getElem?_take,List.getElem?_take,List.getElem?_drop,List.getElem?_drop]
    split
    · rw [Nat.add_assoc,hb _ (by omega)]
    · rfl
  refine ⟨hK,?_,?_⟩
  · rw [←hx.num]
    unfold slI getLE
    congr 1
    apply List.ext_getElem?
    intro j
    rw [List.getElem?_take,List.getElem?_take,List.getElem?_drop,List.getElem?_drop]
    split
    · rw [hb _ (by omega),Nat.zero_add]
    · rfl
  · rw [←hx.key]
    unfold slU
    rw [List.getD_eq_getElem?_getD,List.getD_eq_getElem?_getD,List.getElem?_take,if_pos (by omega),List.getElem?_drop,hb _ (by omega)]
theorem DirOk.put {b c x:Blk} {k i:Nat} {key:Blk} (hd:DirOk b) (hk:64*k≤b.length) (h:Over b c (64*k) x) (hx:SlotB x i key) (hu:(key.getD 0 0!=0)=true) (hno: ∀m,m<b.length/64→slU b m=true→slK b m=key→m=k) (hfr:k<b.length/64→slU b k=true→slK b k=key):
    DirOk c∧entI c key=some i∧∀a,a≠key→entI c a=entI b a:=by
  have hl:=h.len
  have hxl:=hx.len
  have hw:=hd.whole
  obtain ⟨e1,e2,e3⟩:=h.at hx
  have hcl:c.length/64=max (b.length/64) (k+1):=by omega
  have ho: ∀m,m<c.length/64→m≠k→m<b.length/64∧slU c m=slU b m∧slK c m=slK b m∧slI c m=slI b m:=fun m hm hne=>by
    have hmb:m<b.length/64:=by omega
    exact ⟨hmb,h.same hk (by omega) (by omega)⟩
  have hok:DirOk c:=by
    refine ⟨by omega,fun m n hm hn um un e=>?_⟩
    by_cases em:m=k
    · by_cases en:n=k
      · rw [em,en]
      · obtain ⟨q1,q2,q3,_⟩:=ho n hn en
        rw [em,e1] at e
        have:=hno n q1 (q2▸un) (q3▸e.symm)
        exact absurd this en
    · obtain ⟨q1,q2,q3,_⟩:=ho m hm em
      by_cases en:n=k
      · rw [en,e1] at e
        have:=hno m q1 (q2▸um) (q3▸e)
        exact absurd this em
      · obtain ⟨r1,r2,r3,_⟩:=ho n hn en
        exact hd.once m n q1 r1 (q2▸um) (r2▸un) (by rw [←q3,←r3];exact e)
  refine ⟨hok,(entI_some hok).2 ⟨k,by omega,by rw [e3];exact hu,e1,e2⟩,fun a ha=>?_⟩
  cases hb:entI b a with
  | some j=>
    obtain ⟨m,q1,q2,q3,q4⟩:=(entI_some hd).1 hb
    have hmk:m≠k:=fun e=>ha (by rw [←q3,e];exact hfr (e▸q1) (e▸q2))
    obtain ⟨_,r2,r3,r4⟩:=ho m (by omega) hmk
    exact (entI_some hok).2 ⟨m,by omega,r2.trans q2,r3.trans q3,r4.trans q4⟩
  | none=>
    refine entI_none.2 fun m hm um em=>?_
    by_cases e:m=k
    · rw [e,e1] at em;exact ha em.symm
    · obtain ⟨q1,q2,q3,_⟩:=ho m hm e
      exact entI_none.1 hb m q1 (q2▸um) (q3▸em)
theorem keyB_head (s:ByteArray) (h:NmS s):((keyB s).getD 0 0!=0)=true:=by
  unfold keyB
  have h1:=h.1;have h2:=h.2
  have:(UInt8.ofNat s.size).toNat=s.size:=by rw [UInt8.toNat_ofNat'];omega
  have hne:UInt8.ofNat s.size≠0:=fun e=>by rw [e] at this;have:(0:UInt8).toNat=0:=rfl;omega
  simpa using hne
theorem keyB_inj (s t:ByteArray) (hs:s.size≤50) (ht:t.size≤50) (h:keyB s=keyB t):s=t:=by
  unfold keyB at h
  rw [List.cons.injEq] at h
  have e:s.size=t.size:=by
    have:=congrArg UInt8.toNat h.1
    rw [UInt8.toNat_ofNat',UInt8.toNat_ofNat'] at this
    omega
  have hl:s.data.toList.length=s.size:=by rw [Array.length_toList];rfl
  have hl2:t.data.toList.length=t.size:=by rw [Array.length_toList];rfl
  have:=(List.append_inj h.2 (by omega)).1
  have e2:s.data=t.data:=Array.toList_inj.1 this
  cases s;cases t;cases e2;rfl
abbrev Path:=List ByteArray
inductive Nd where
  | dir (n:Nat)
  | file (b:Blk)
def Nd.kind:Nd→Nat
  | .dir _=>2
  | .file _=>1
def Nd.size:Nd→Nat
  | .dir n=>n
  | .file b=>b.length
structure Rep (X:Sys) (A:Path→Option Nd) (ι:Path→Nat):Prop where
  ok:FsOk X
  root: ∃n,A []=some (.dir n)
  zero:ι []=0
  live: ∀p x,A p=some x→X.live (ι p)∧X.nd (ι p) 0=x.kind∧X.nd (ι p) 1=x.size
  dir: ∀p n,A p=some (.dir n)→DirOk (X.bytes (ι p))
  name: ∀p n,A p=some (.dir n)→∀a,entI (X.bytes (ι p)) a≠none→∃s,NmS s∧a=keyB s∧A (p++ [s])≠none
  leads: ∀p s,A (p++ [s])≠none→entI (X.bytes (ι p)) (keyB s)=some (ι (p++ [s]))
  file: ∀p b,A p=some (.file b)→X.bytes (ι p)=b
  inj: ∀p q,A p≠none→A q≠none→ι p=ι q→p=q
  up: ∀p s,A (p++ [s])≠none→NmS s∧∃n,A p=some (.dir n)
theorem snoc_inj {p q:Path} {s t:ByteArray} (h:q++ [t]=p++ [s]):q=p∧t=s:=by
  have:=List.append_inj' h rfl
  exact ⟨this.1,by simpa using this.2⟩
theorem snoc_ne (p:Path) (s:ByteArray):p++ [s]≠p:=fun h=>by
  have:=congrArg List.length h
  simp at this
theorem Rep.find {X:Sys} {A:Path→Option Nd} {ι:Path→Nat} (h:Rep X A ι) {p:Path} {n:Nat} (hp:A p=some (.dir n)) {s:ByteArray} (hs:NmS s):entI (X.bytes (ι p)) (keyB s)=if A (p++ [s])≠none then some (ι (p++ [s])) else none:=by
  by_cases e:A (p++ [s])≠none
  · rw [if_pos e];exact h.leads p s e
  · rw [if_neg e]
    cases hx:entI (X.bytes (ι p)) (keyB s) with
    | none=>rfl
    | some j=>
      obtain ⟨t,q1,q2,q3⟩:=h.name p n hp (keyB s) (by rw [hx];exact fun x=>by cases x)
      rw [keyB_inj s t hs.2 q1.2 q2] at e
      exact absurd q3 e
def addT (A:Path→Option Nd) (p:Path) (s:ByteArray) (x:Nd) (S:Nat):Path→Option Nd:=fun q=>if q=p++ [s] then some x else if q=p then some (.dir S) else A q
def addI (ι:Path→Nat) (p:Path) (s:ByteArray) (i:Nat):Path→Nat:=fun q=>if q=p++ [s] then i else ι q
def setT (A:Path→Option Nd) (p:Path) (x:Option Nd):Path→Option Nd:=fun q=>if q=p then x else A q
theorem Rep.add {X W:Sys} {A:Path→Option Nd} {ι:Path→Nat} (h:Rep X A ι) {p:Path} {n:Nat} (hp:A p=some (.dir n)) {s:ByteArray} (hs:NmS s) (hno:A (p++ [s])=none) {i k S:Nat} {x:Nd} (hx0:x= .dir 0∨x= .file []) (hok:FsOk W) (hi: ¬X.live i) (hl: ∀j,W.live j↔X.live j∨j=i)
    (ho: ∀j,X.live j→j≠ι p→W.bytes j=X.bytes j∧∀m,m<13→W.nd j m=X.nd j m) (hk:W.nd (ι p) 0=2) (hS:W.nd (ι p) 1=S) (hik:W.nd i 0=x.kind) (his:W.nd i 1=0) {b:Blk} (hov:Over (X.bytes (ι p)) (W.bytes (ι p)) (64*k) b) (hsl:SlotB b i (keyB s)) (hkl:64*k≤(X.bytes (ι p)).length) (hfr:k<(X.bytes (ι p)).length/64→slU (X.bytes (ι p)) k=false):
    Rep W (addT A p s x S) (addI ι p s i):=by
  have hno': ¬A (p++ [s])≠none:=fun e=>e hno
  have hf0:entI (X.bytes (ι p)) (keyB s)=none:=by rw [h.find hp hs,if_neg hno']
  have hlp:=h.live p _ hp
  obtain ⟨d1,d2,d3⟩:=(h.dir p n hp).put hkl hov hsl (keyB_head s hs) (fun m q1 q2 q3=>absurd q3 (entI_none.1 hf0 m q1 q2)) (fun q1 q2=>by rw [hfr q1] at q2;cases q2)
  have hne:ι p≠i:=fun e=>hi (e▸hlp.1)
  have eip:addI ι p s i p=ι p:=if_neg (fun e=>snoc_ne p s e.symm)
  have ein:addI ι p s i (p++ [s])=i:=if_pos rfl
  have eAn:addT A p s x S (p++ [s])=some x:=if_pos rfl
  have eAp:addT A p s x S p=some (.dir S):=by unfold addT;rw [if_neg (fun e=>snoc_ne p s e.symm),if_pos rfl]
  have eAo: ∀q,q≠p++ [s]→q≠p→addT A p s x S q=A q:=fun q q1 q2=>by unfold addT;rw [if_neg q1,if_neg q2]
  have eio: ∀q,q≠p++ [s]→addI ι p s i q=ι q:=fun q q1=>if_neg q1
  have hbi:W.bytes i= []:=by
    have:=bytes_len W i
    rw [his] at this
    exact List.eq_nil_of_length_eq_zero this
  have hoth: ∀q y,A q=some y→q≠p→W.bytes (ι q)=X.bytes (ι q)∧∀m,m<13→W.nd (ι q) m=X.nd (ι q) m:=fun q y hq hne=>ho _ (h.live q y hq).1 fun e=>hne (h.inj q p (by rw [hq];exact fun x=>by cases x) (by rw [hp];exact fun x=>by cases x) e)
  have hpn: ∀q,addT A p s x S q≠none↔q=p++ [s]∨A q≠none:=fun q=>by
    by_cases e1:q=p++ [s]
    · rw [e1,eAn];simp
    · by_cases e2:q=p
      · rw [e2,eAp,hp];simp
      · rw [eAo q e1 e2];simp [e1]
  have hch: ∀t,¬A (p++ [s]++ [t])≠none:=fun t e=>by
    obtain ⟨_,m,hm⟩:=h.up _ _ e
    rw [hno] at hm;cases hm
  refine ⟨hok,?_,?_,fun q y hq=>?_,fun q m hq=>?_,fun q m hq a ha=>?_,fun q t hq=>?_,fun q c hq=>?_,fun q r hq hr e=>?_,fun q t hq=>?_⟩
  · obtain ⟨m,hm⟩:=h.root
    by_cases e:([]:Path)=p
    · exact ⟨S,by rw [e];exact eAp⟩
    · exact ⟨m,by rw [eAo _ (fun x=>by simp at x) e];exact hm⟩
  · rw [eio _ (fun x=>by simp at x)];exact h.zero
  · by_cases e1:q=p++ [s]
    · subst e1
      rw [eAn] at hq
      cases hq
      rw [ein]
      refine ⟨(hl i).2 (.inr rfl),hik,?_⟩
      rw [his]
      rcases hx0 with e | e<;>rw [e]<;>rfl
    · by_cases e2:q=p
      · subst e2
        rw [eAp] at hq
        cases hq
        rw [eip]
        exact ⟨(hl _).2 (.inl hlp.1),hk,hS⟩
      · rw [eAo q e1 e2] at hq
        have g:=h.live q y hq
        have o:=hoth q y hq e2
        rw [eio q e1]
        exact ⟨(hl _).2 (.inl g.1),(o.2 0 (by omega)).trans g.2.1,(o.2 1 (by omega)).trans g.2.2⟩
  · by_cases e1:q=p++ [s]
    · subst e1
      rw [ein,hbi]
      exact ⟨rfl,fun i j hi=>by simp at hi⟩
    · by_cases e2:q=p
      · subst e2;rw [eip];exact d1
      · rw [eAo q e1 e2] at hq
        rw [eio q e1,(hoth q _ hq e2).1]
        exact h.dir q m hq
  · by_cases e1:q=p++ [s]
    · subst e1
      rw [ein,hbi] at ha
      exact absurd rfl ha
    · by_cases e2:q=p
      · subst e2
        rw [eip] at ha
        by_cases e3:a=keyB s
        · exact ⟨s,hs,e3,(hpn _).2 (.inl rfl)⟩
        · rw [d3 a e3] at ha
          obtain ⟨t,q1,q2,q3⟩:=h.name q n hp a ha
          exact ⟨t,q1,q2,(hpn _).2 (.inr q3)⟩
      · rw [eAo q e1 e2] at hq
        rw [eio q e1,(hoth q _ hq e2).1] at ha
        obtain ⟨t,q1,q2,q3⟩:=h.name q m hq a ha
        exact ⟨t,q1,q2,(hpn _).2 (.inr q3)⟩
  · by_cases e:q++ [t]=p++ [s]
    · obtain ⟨e1,e2⟩:=snoc_inj e
      rw [e1,e2,eip,ein]
      exact d2
    · have hA:=((hpn _).1 hq).resolve_left e
      have hl:=h.leads q t hA
      rw [eio _ e]
      obtain ⟨hts,m,hqd⟩:=h.up q t hA
      have e1:q≠p++ [s]:=fun x=>hch t (x▸hA)
      rw [eio q e1]
      by_cases e2:q=p
      · subst e2
        rw [d3 _ (fun x=>e (by rw [keyB_inj t s hts.2 hs.2 x])),hl]
      · rw [(hoth q _ hqd e2).1,hl]
  · by_cases e1:q=p++ [s]
    · subst e1
      rw [eAn] at hq
      cases hq
      rcases hx0 with e | e
      · cases e
      · cases e;rw [ein,hbi]
    · by_cases e2:q=p
      · subst e2;rw [eAp] at hq;cases hq
      · rw [eAo q e1 e2] at hq
        rw [eio q e1,(hoth q _ hq e2).1]
        exact h.file q c hq
  · have g: ∀q,A q≠none→ι q≠i:=fun q hq e=>by
      cases hx:A q with
      | none=>exact hq hx
      | some y=>exact hi (e▸(h.live q y hx).1)
    have hq:=(hpn q).1 hq
    have hr:=(hpn r).1 hr
    by_cases e1:q=p++ [s]
    · by_cases e2:r=p++ [s]
      · rw [e1,e2]
      · rw [e1,ein,eio r e2] at e
        exact absurd e.symm (g r (hr.resolve_left e2))
    · by_cases e2:r=p++ [s]
      · rw [e2,ein,eio q e1] at e
        exact absurd e (g q (hq.resolve_left e1))
      · rw [eio q e1,eio r e2] at e
        exact h.inj q r (hq.resolve_left e1) (hr.resolve_left e2) e
  · by_cases e:q++ [t]=p++ [s]
    · obtain ⟨e1,e2⟩:=snoc_inj e
      rw [e1,e2]
      exact ⟨hs,S,eAp⟩
    · have hA:=((hpn _).1 hq).resolve_left e
      obtain ⟨q1,m,q2⟩:=h.up q t hA
      have e1:q≠p++ [s]:=fun x=>hch t (x▸hA)
      by_cases e2:q=p
      · exact ⟨q1,S,by rw [e2];exact eAp⟩
      · exact ⟨q1,m,by rw [eAo q e1 e2];exact q2⟩
theorem Rep.edit {X W:Sys} {A:Path→Option Nd} {ι:Path→Nat} (h:Rep X A ι) {p:Path} {b c:Blk} (hp:A p=some (.file b)) (hok:FsOk W) (hl: ∀j,W.live j↔X.live j) (ho: ∀j,X.live j→j≠ι p→W.bytes j=X.bytes j∧∀m,m<13→W.nd j m=X.nd j m) (hk:W.nd (ι p) 0=X.nd (ι p) 0) (hS:W.nd (ι p) 1=c.length) (hc:W.bytes (ι p)=c):
    Rep W (setT A p (some (.file c))) ι:=by
  have hlp:=h.live p _ hp
  have hoth: ∀q y,A q=some y→q≠p→W.bytes (ι q)=X.bytes (ι q)∧∀m,m<13→W.nd (ι q) m=X.nd (ι q) m:=fun q y hq hne=>ho _ (h.live q y hq).1 fun e=>hne (h.inj q p (by rw [hq];exact fun x=>by cases x) (by rw [hp];exact fun x=>by cases x) e)
  have eAp:setT A p (some (.file c)) p=some (.file c):=if_pos rfl
  have eAo: ∀q,q≠p→setT A p (some (.file c)) q=A q:=fun q q1=>if_neg q1
  have hpn: ∀q,setT A p (some (.file c)) q≠none↔A q≠none:=fun q=>by
    by_cases e:q=p
    · rw [e,eAp,hp];simp
    · rw [eAo q e]
  have hnd: ∀q m,A q=some (.dir m)→q≠p:=fun q m hq e=>by rw [e,hp] at hq;cases hq
  have hnd': ∀q m,setT A p (some (.file c)) q=some (.dir m)→q≠p∧A q=some (.dir m):=fun q m hq=>by
    have:q≠p:=fun e=>by rw [e,eAp] at hq;cases hq
    exact ⟨this,by rw [eAo q this] at hq;exact hq⟩
  refine ⟨hok,?_,h.zero,fun q y hq=>?_,fun q m hq=>?_,fun q m hq a ha=>?_,fun q t hq=>?_,fun q c' hq=>?_,fun q r hq hr e=>h.inj q r ((hpn q).1 hq) ((hpn r).1 hr) e,fun q t hq=>?_⟩
  · obtain ⟨m,hm⟩:=h.root
    exact ⟨m,by rw [eAo _ (hnd _ _ hm)];exact hm⟩
  · by_cases e:q=p
    · subst e
      rw [eAp] at hq
      cases hq
      exact ⟨(hl _).2 hlp.1,hk.trans hlp.2.1,hS⟩
    · rw [eAo q e] at hq
      have g:=h.live q y hq
      have o:=hoth q y hq e
      exact ⟨(hl _).2 g.1,(o.2 0 (by omega)).trans g.2.1,(o.2 1 (by omega)).trans g.2.2⟩
  · obtain ⟨q1,q2⟩:=hnd' q m hq
    rw [(hoth q _ q2 q1).1]
    exact h.dir q m q2
  · obtain ⟨q1,q2⟩:=hnd' q m hq
    rw [(hoth q _ q2 q1).1] at ha
    obtain ⟨t,r1,r2,r3⟩:=h.name q m q2 a ha
    exact ⟨t,r1,r2,(hpn _).2 r3⟩
  · have hA:=(hpn _).1 hq
    obtain ⟨_,m,q2⟩:=h.up q t hA
    rw [(hoth q _ q2 (hnd q m q2)).1]
    exact h.leads q t hA
  · by_cases e:q=p
    · subst e
      rw [eAp] at hq
      cases hq
      exact hc
    · rw [eAo q e] at hq
      rw [(hoth q _ hq e).1]
      exact h.file q c' hq
  · obtain ⟨q1,m,q2⟩:=h.up q t ((hpn _).1 hq)
    exact ⟨q1,m,by rw [eAo q (hnd q m q2)];exact q2⟩
theorem lays_getElem (x:Blk) (o:Nat) (b:List UInt8) (h:o+b.length≤x.length) (p:Nat):(lays x o b)[p]?=if o≤p∧p<o+b.length then b[p-o]? else x[p]?:=by
  unfold lays
  by_cases h1:p<o
  · rw [if_neg (by omega),List.append_assoc,List.getElem?_append_left (by rw [List.length_take];omega),List.getElem?_take,if_pos h1]
  · by_cases h2:p<o+b.length
    · rw [if_pos ⟨by omega,h2⟩,List.getElem?_append_left (by rw [List.length_append,List.length_take];omega),List.getElem?_append_right (by rw [List.length_take];omega),List.length_take,Nat.min_eq_left (by omega)]
    · rw [if_neg (by omega),List.getElem?_append_right (by rw [List.length_append,List.length_take];omega),List.length_append,List.length_take,Nat.min_eq_left (by omega),List.getElem?_drop]
      congr 1
      omega
theorem nameB_slot (i:Nat) (s:ByteArray) (hs:s.size≤50) (hi:i<4294967296):SlotB (nameB i s) i (keyB s):=by
  have hk:=keyB_length s hs
  have h0:(putLE (nought 64) 0 4 i).length=64:=(putLE_length _ _ _ _ (by rw [nought_len];omega)).trans (nought_len 64)
  have hg: ∀p,(nameB i s)[p]?=if 4≤p∧p<4+51 then (keyB s)[p-4]? else (putLE (nought 64) 0 4 i)[p]?:=fun p=>by
    have:=lays_getElem (putLE (nought 64) 0 4 i) 4 (keyB s) (by rw [hk,h0];omega) p
    rw [hk] at this
    exact this
  refine ⟨nameB_length i s hs,?_,?_⟩
  · rw [getLE_congr (bs:=putLE (nought 64) 0 4 i) fun p h1 h2=>by rw [hg,if_neg (by omega)]]
    exact getLE_putLE_same _ 0 4 i (by rw [nought_len];omega) (by omega)
  · apply List.ext_getElem?
    intro j
    rw [List.getElem?_take,List.getElem?_drop]
    by_cases h:j<51
    · rw [if_pos h,hg,if_pos (by omega),show 4+j-4=j by omega]
    · rw [if_neg h,List.getElem?_eq_none (by omega)]
theorem Wrote.over {X W:Sys} {i a:Nat} {b:List UInt8} (h:Wrote X W i a b) (ha:a≤X.nd i 1):Over (X.bytes i) (W.bytes i) a b:=by
  refine ⟨by rw [bytes_len,bytes_len,h.size],fun p hp=>?_⟩
  rw [bytes_len] at hp
  rw [bytes_get W i p hp,h.byte p hp]
  by_cases e:a≤p∧p<a+b.length
  · rw [if_pos e,if_pos e,List.getD_eq_getElem?_getD,List.getElem?_eq_getElem (by omega)]
    rfl
  · rw [if_neg e,if_neg e]
    rw [h.size] at hp
    exact (bytes_get X i p (by omega)).symm
def HeldC (X:Sys) (C:List Nat) (i:Nat):Prop:=X.P.tb+i/8∈C∧∀k,k<dat (X.nd i 1)→X.nd i (2+k)∈C
theorem HeldC.mono {X:Sys} {C C':List Nat} {i:Nat} (h:HeldC X C i) (hC: ∀c∈C,c∈C'):HeldC X C' i:=⟨hC _ h.1,fun k hk=>hC _ (h.2 k hk)⟩
theorem HeldC.same {X W:Sys} {C:List Nat} {i:Nat} (h:HeldC X C i) (hP:W.P=X.P) (hs:X.nd i 1≤5120) (hn: ∀m,m<13→W.nd i m=X.nd i m):HeldC W C i:=
  ⟨by rw [hP];exact h.1,fun k hk=>by
    rw [hn 1 (by omega)] at hk
    have:=dat_le hs
    rw [hn (2+k) (by omega)]
    exact h.2 k hk⟩
theorem made_fi {X:Sys} {i kind:Nat} (hX:SysOk X) (hz:firstZ (X.v X.P.im) X.P.ni=some i):(X.made i kind).fi+1=X.fi:=by
  obtain ⟨hi,hb⟩:=firstZ_some hz
  have hm:=hX.maps
  have hni:=hX.pl.ni.2
  have h1:=hX.pl.im;have h3:=hX.pl.tb
  have hml:(X.v X.P.im).length=512:=hX.len _ hm.1 hm.2.1
  have e:(X.made i kind).v X.P.im=setBit (X.v X.P.im) i true:=by
    show (Sys.put (X.put X.P.im (setBit (X.v X.P.im) i true)) _ _).v X.P.im=_
    rw [Sys.put_v,if_neg (by show¬X.P.im=X.P.tb+i/8;omega),Sys.put_v,if_pos rfl]
  have hp:=popc_set_on hi (by rw [hml];omega) hb
  have hl:=popc_le (setBit (X.v X.P.im) i true) X.P.ni
  show X.P.ni-popc ((X.made i kind).v X.P.im) X.P.ni+1=X.P.ni-popc (X.v X.P.im) X.P.ni
  rw [e,hp]
  rw [hp] at hl
  omega
theorem fi_room {X:Sys} (h:0<X.fi): ∃i,firstZ (X.v X.P.im) X.P.ni=some i:=firstZ_room (by unfold Sys.fi at h;omega)
theorem arrayAtK {vb vo vc n:Nat} (hn:n=51) (W:World):(Instr.arrayAt 299 (.slice (some ⟨vb,vo,none⟩) n vc)).run Tryz.prog W= .ok (.pointer (some ⟨vb,vo,none⟩)) W:=by
  subst hn
  unfold Instr.arrayAt
  rw [Sem.run_bind,run_underlying Tryz.underlying299 W]
  rfl
theorem BytesAt.slot {w:World} {vb vo n vc:Nat} {b:Blk} {R:Nat→Prop} (h:BytesAt w (.slice (some ⟨vb,vo,none⟩) n vc) b R) (k:Nat):w.rangeAt vb (vo+(64*k+4)) ((slK b k).map B8):=fun j v hj=>by
  have:=h.part (64*k+4) 51 j v hj
  rw [show ((⟨vb,vo+(64*k+4),none⟩:Addr).add j)=⟨vb,vo+(64*k+4)+j,none⟩ by
    unfold Addr.add
    by_cases e:j=0
    · subst e;rfl
    · rw [if_neg e]] at this
  exact this
theorem slK_len {b:Blk} {k:Nat} (h:64*k+55≤b.length):(slK b k).length=51:=by
  unfold slK
  rw [List.length_take,List.length_drop]
  omega
end
end Go.Proofs.YtlemndledcmhiaaGreatDoor
