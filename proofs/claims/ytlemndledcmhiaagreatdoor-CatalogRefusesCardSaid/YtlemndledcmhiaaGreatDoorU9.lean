/-
  The catalog, from the device up, part 9.
-/
import Derived.Test.YtlemndledcmhiaaGreatDoorU8
import Derived.Deep.AppendLies
namespace Go.Proofs.YtlemndledcmhiaaGreatDoor
set_option linter.unusedVariables false
set_option linter.unusedSimpArgs false
section
open Go.ChangeMaps Go.MapKept Go.RowKit
theorem Wr.fb {X Z:Sys} {T:Nat→Prop} (h:Wr X Z T) (hT: ¬T X.P.bm):Z.fb=X.fb:=by
  unfold Sys.fb
  rw [h.P,h.v _ hT]
end
section
open Go.ChangeMaps Go.MapKept Go.RowKit
variable {w0:Gnd} {w:World} {rs:List Res} {X:Sys}
set_option maxHeartbeats 1000000 in
set_option maxRecDepth 100000 in
theorem i_grow {g:Nat} {f:Nat→Nat} (h:At w0 w X (arr g (stC 13 (ndI f)) 270 neNd::rs)) (hop:X.op=true) (s S:Nat) (hs:f 1=s) (h1:s≤S) (h2:S≤5120) (hfr:dat S-dat s≤X.fb) {C:List Nat} (hin: ∀k,k<dat s→X.P.da≤f (2+k)∧f (2+k)<X.n∧f (2+k)∈C) (hinj: ∀k j,k<dat s→j<dat s→f (2+k)=f (2+j)→k=j) (hC:Cov X C) (hbm:X.P.bm∈C) (h60:C.length+(dat S-dat s)≤60):
    Calls Tryz.prog 253 #[.pointer (some ⟨X.sb,0,none⟩),.pointer (some ⟨g,0,none⟩),.int .i64 S] w fun e w'=>e= .returned (.int .i64 0)∧∃Z Y f' N,At w0 w' Y (arr g (stC 13 (ndI (setF f' 1 S))) 270 neNd::rs)∧Wr X Z (fun t=> ∃k,k<dat s∧t=f (2+k))∧Zeroed X.v Z.v f s∧Took Z Y f f' (dat s) (dat S)∧N.length=dat S-dat s∧Cov Y (C++N)∧∀j,dat s≤j→j<dat S→f' (2+j)∈N:=by
  have HD1:Hid (∀y,Calls Tryz.prog 278 #[.int .i64 s] y fun e w'=>y=w'∧e= .returned (.int .i64 (dat s:Nat))):=Lib.hid fun y=>i_data y s (by omega)
  have HD2:Hid (∀y,Calls Tryz.prog 278 #[.int .i64 S] y fun e w'=>y=w'∧e= .returned (.int .i64 (dat S:Nat))):=Lib.hid fun y=>i_data y S (by omega)
  have HH1:Hid (∀y,Calls Tryz.prog 303 #[.int .i64 s] y fun e w'=>y=w'∧e= .returned (.int .i64 (dat s:Nat))):=Lib.hid fun y=>i_has y s (by omega)
  have HH2:Hid (∀y,Calls Tryz.prog 303 #[.int .i64 S] y fun e w'=>y=w'∧e= .returned (.int .i64 (dat S:Nat))):=Lib.hid fun y=>i_has y S h2
  have hds:dat s≤dat S:=by unfold dat;omega
  have hdS:dat S≤10:=by unfold dat;omega
  have HF:=Lib.hid (a_Free h)
  have hfb:X.fb≤4096:=by have:=h.ok.pl.dc;unfold Sys.fb;omega
  have HX:=Lib.hid h
  have HFB:Hid (∀Z,Wr X Z (fun t=> ∃k,k<dat s∧t=f (2+k))→Z.fb=X.fb):=Lib.hid fun Z hz=>hz.fb fun ⟨k,hk,e⟩=>by have:=(hin k hk).1;have:=h.ok.pl.bm;have:=h.ok.pl.tb;have:=h.ok.pl.da;omega
  have HOP:=Lib.hid hop
  have HIN:=Lib.hid hin
  have HINJ:=Lib.hid hinj
  have HC:=Lib.hid (And.intro hC (And.intro hbm h60))
  have HSZ:=Lib.hid (And.intro hs (And.intro h1 h2))
  have c1:=h.stCells.2.1
  have d1:w.cell? ⟨g,1,none⟩=some (.int .i64 s):=(h.arrCell (i:=0) rfl 1).trans ((stC_get _ _ _ (by omega)).trans (by unfold ndI;rw [hs]))
  obtain ⟨a,ha⟩: ∃a,dat s=a:=⟨_,rfl⟩
  obtain ⟨b,hb⟩: ∃b,dat S=b:=⟨_,rfl⟩
  have HAB:=Lib.hid (And.intro ha hb)
  rw [ha] at hin hinj hfr h60 hds HD1 HH1 ⊢
  rw [hb] at hfr h60 hds HD2 HH2 hdS ⊢
  have HFR:=Lib.hid hfr
  have a0:(0:Int)≤(a:Int):=Int.natCast_nonneg _
  have a1:(a:Int)≤10:=by omega
  have b0:(0:Int)≤(b:Int):=Int.natCast_nonneg _
  have b1:(b:Int)≤10:=by omega
  have hw1:IntKind.i64.wrap ((b:Int)-(a:Int))=(b:Int)-(a:Int):=IntWalk.i64_in _ (by omega)
  have hgt: ¬(X.fb:Int)<(b:Int)-(a:Int):=by omega
  have s0:(0:Int)≤(s:Int):=Int.natCast_nonneg _
  have s1:(s:Int)≤5120:=by omega
  have S0:(0:Int)≤(S:Int):=Int.natCast_nonneg _
  have S1:(S:Int)≤5120:=by omega
  clear h hop hin hinj hC hbm h60 hs h1 h2 hfr ha hb hds hdS
  go_enter Tryz.func253,Tryz.ntmps253
  go_wp2_with fail
  refine HF.out.mono ?_
  clear HF c1 d1
  rintro e w2 ⟨rfl,h2⟩
  have d1:w2.cell? ⟨g,1,none⟩=some (.int .i64 s):=(h2.arrCell (i:=0) rfl 1).trans ((stC_get _ _ _ (by omega)).trans (by unfold ndI;rw [HSZ.out.1]))
  have H2:=Lib.hid h2
  clear h2 HX
  generalize X.fb=fbx at*
  go_upto_region 2 with (fail)
  go_region_held3 (fun y=>y.cell? ⟨g,1,none⟩=some (.int .i64 s)) (go_keep)
    (first
      | (go_at_call 303;(with_reducible refine (HH1.out _).mono ?_);rintro e w6 ⟨rfl,rfl⟩)
      | (go_at_call 303;(with_reducible refine (HH2.out _).mono ?_);rintro e w6 ⟨rfl,rfl⟩))
  have h3:=H2.out.frm (Frm.refl NoB w2).drew
  have H3:=Lib.hid h3
  have d1:w2.drew.cell? ⟨g,1,none⟩=some (.int .i64 s):=(h3.arrCell (i:=0) rfl 1).trans ((stC_get _ _ _ (by omega)).trans (by unfold ndI;rw [HSZ.out.1]))
  clear h3 H2
  generalize w2.drew=w3 at*
  obtain ⟨o,ho⟩: ∃o,s%512=o:=⟨_,rfl⟩
  have ezo:(s:Int)%512=((o:Nat):Int):=by omega
  have HO:=Lib.hid ho
  have o0:(0:Int)≤(o:Int):=Int.natCast_nonneg _
  have o1:(o:Int)<512:=by omega
  clear hw1 ho
  go_upto_region 5 with (fail)
  rw [ezo]
  have HLAY:0<o→Hid (∀y v c,At w0 y X (byt (.slice (some ⟨v,0,none⟩) (512-o) c) (nought (512-o))::arr g (stC 13 (ndI f)) 270 neNd::rs)→Calls Tryz.prog 254 #[.pointer (some ⟨X.sb,0,none⟩),.agg #[.int .i64 ((f 0:Nat):Int),.int .i64 ((s:Nat):Int),.int .i64 ((f 2:Nat):Int),.int .i64 ((f 3:Nat):Int),.int .i64 ((f 4:Nat):Int),.int .i64 ((f 5:Nat):Int),.int .i64 ((f 6:Nat):Int),.int .i64 ((f 7:Nat):Int),.int .i64 ((f 8:Nat):Int),.int .i64 ((f 9:Nat):Int),.int .i64 ((f 10:Nat):Int),.int .i64 ((f 11:Nat):Int),.int .i64 ((f 12:Nat):Int)],.int .i64 s,.slice (some ⟨v,0,none⟩) (512-o) c] y fun e w'=>e= .returned (.int .i64 0)∧∃Z,At w0 w' Z (arr g (stC 13 (ndI f)) 270 neNd::rs)∧Wr X Z (fun t=> ∃k,k<dat s∧t=f (2+k))∧Zeroed X.v Z.v f s):=fun hp=>Lib.hid fun y v c hy=>by
    have hb:=HSZ.out
    have hO:=HO.out
    have:=i_lay hy HOP.out f s (dat s) 0 (b:=nought (512-o)) (bb:=v) (bo:=0) (vc:=c) (by rw [nought_len];rfl) (by unfold dat;omega) (by rw [nought_len];unfold dat;omega) HIN.out HINJ.out HC.out.1 (by have:=HC.out.2.2;omega)
    rw [nought_len,show (Value.agg (stC 13 (ndI f)))= .agg #[.int .i64 ((f 0:Nat):Int),.int .i64 ((s:Nat):Int),.int .i64 ((f 2:Nat):Int),.int .i64 ((f 3:Nat):Int),.int .i64 ((f 4:Nat):Int),.int .i64 ((f 5:Nat):Int),.int .i64 ((f 6:Nat):Int),.int .i64 ((f 7:Nat):Int),.int .i64 ((f 8:Nat):Int),.int .i64 ((f 9:Nat):Int),.int .i64 ((f 10:Nat):Int),.int .i64 ((f 11:Nat):Int),.int .i64 ((f 12:Nat):Int)] by rw [←HSZ.out.1];rfl] at this
    refine this.mono ?_
    rintro e w' ⟨he,Z,q1,q2,q3⟩
    refine ⟨he,Z,q1.drop 1,q2,?_⟩
    rw [←hO] at q3 hp
    exact q3.zeroed hp
  have HZO:=Lib.hid HLAY
  clear HLAY
  by_cases hop:0<o
  · have o2:(0:Int)<(o:Int):=by omega
    have HL:=HZO.out hop
    obtain ⟨m,hm⟩: ∃m,512-o=m:=⟨_,rfl⟩
    rw [hm] at HL
    have hw2:IntKind.i64.wrap (512-(o:Int))=(m:Int):=by rw [show (512-(o:Int))=(m:Int) by omega];exact IntWalk.i64_in _ (by omega)
    have hmk:=run_makeN m (by omega)
    have KC:Hid (∀y Y rs' j,At w0 y Y rs'→rs'[j]?=some (arr g (stC 13 (ndI f)) 270 neNd)→y.cell? ⟨g,0,none⟩=some (.int .i64 ((f 0:Nat):Int))∧y.cell? ⟨g,1,none⟩=some (.int .i64 ((s:Nat):Int))∧y.cell? ⟨g,2,none⟩=some (.int .i64 ((f 2:Nat):Int))∧y.cell? ⟨g,3,none⟩=some (.int .i64 ((f 3:Nat):Int))∧y.cell? ⟨g,4,none⟩=some (.int .i64 ((f 4:Nat):Int))∧y.cell? ⟨g,5,none⟩=some (.int .i64 ((f 5:Nat):Int))∧y.cell? ⟨g,6,none⟩=some (.int .i64 ((f 6:Nat):Int))∧y.cell? ⟨g,7,none⟩=some (.int .i64 ((f 7:Nat):Int))∧y.cell? ⟨g,8,none⟩=some (.int .i64 ((f 8:Nat):Int))∧y.cell? ⟨g,9,none⟩=some (.int .i64 ((f 9:Nat):Int))∧y.cell? ⟨g,10,none⟩=some (.int .i64 ((f 10:Nat):Int))∧y.cell? ⟨g,11,none⟩=some (.int .i64 ((f 11:Nat):Int))∧y.cell? ⟨g,12,none⟩=some (.int .i64 ((f 12:Nat):Int))):=Lib.hid fun y Y rs' j hy hj=>by
      have hc:=fun i (hi:i<13)=>(hy.arrCell hj i).trans (stC_get 13 (ndI f) i hi)
      refine ⟨hc 0 (by omega),(hc 1 (by omega)).trans (by unfold ndI;rw [HSZ.out.1]),hc 2 (by omega),hc 3 (by omega),hc 4 (by omega),hc 5 (by omega),hc 6 (by omega),hc 7 (by omega),hc 8 (by omega),hc 9 (by omega),hc 10 (by omega),hc 11 (by omega),hc 12 (by omega)⟩
    obtain ⟨e0,e1,e2,e3,e4,e5,e6,e7,e8,e9,e10,e11,e12⟩:=KC.out w3 _ _ 0 H3.out rfl
    have H4:Hid (At w0 (w3.alloc (.cells (madeCells #[.int .u8 0] m) 5 (0,0))).drew X (byt (.slice (some ⟨w3.heap.size,0,none⟩) m m) (nought m)::arr g (stC 13 (ndI f)) 270 neNd::rs)):=Lib.hid ((H3.out.mkByt ((Frm.refl _ _).alloc _) (nought_at w3 m)).frm (Frm.refl NoB _).drew)
    have H5:Hid (At w0 (w3.alloc (.cells (madeCells #[.int .u8 0] m) 5 (0,0))) X (byt (.slice (some ⟨w3.heap.size,0,none⟩) m m) (nought m)::arr g (stC 13 (ndI f)) 270 neNd::rs)):=Lib.hid (H3.out.mkByt ((Frm.refl _ _).alloc _) (nought_at w3 m))
    have H6:Hid (At w0 w3.drew X (arr g (stC 13 (ndI f)) 270 neNd::rs)):=Lib.hid (H3.out.frm (Frm.refl NoB _).drew)
    go_upto_region 6 with (fail)
    go_region_held3 (fun y=>y.cell? ⟨g,0,none⟩=some (.int .i64 ((f 0:Nat):Int))∧y.cell? ⟨g,1,none⟩=some (.int .i64 ((s:Nat):Int))∧y.cell? ⟨g,2,none⟩=some (.int .i64 ((f 2:Nat):Int))∧y.cell? ⟨g,3,none⟩=some (.int .i64 ((f 3:Nat):Int))∧y.cell? ⟨g,4,none⟩=some (.int .i64 ((f 4:Nat):Int))∧y.cell? ⟨g,5,none⟩=some (.int .i64 ((f 5:Nat):Int))∧y.cell? ⟨g,6,none⟩=some (.int .i64 ((f 6:Nat):Int))∧y.cell? ⟨g,7,none⟩=some (.int .i64 ((f 7:Nat):Int))∧y.cell? ⟨g,8,none⟩=some (.int .i64 ((f 8:Nat):Int))∧y.cell? ⟨g,9,none⟩=some (.int .i64 ((f 9:Nat):Int))∧y.cell? ⟨g,10,none⟩=some (.int .i64 ((f 10:Nat):Int))∧y.cell? ⟨g,11,none⟩=some (.int .i64 ((f 11:Nat):Int))∧y.cell? ⟨g,12,none⟩=some (.int .i64 ((f 12:Nat):Int)))
      (first | exact KC.out _ _ _ 0 H3.out rfl | exact KC.out _ _ _ 0 H6.out rfl | exact KC.out _ _ _ 1 H4.out rfl | exact KC.out _ _ _ 1 H5.out rfl | exact KC.out _ _ _ 0 h6 rfl)
      (first
        | (go_at_call 254;(with_reducible refine (HL.out _ _ _ H4.out).mono ?_);rintro e w6 ⟨rfl,Z,h6,hwz,hz⟩))
    have G:=Lib.hid h6
    have GW:=Lib.hid hwz
    have GZ:=Lib.hid hz
    clear h6 hwz hz hw2 hmk KC e0 e1 e2 e3 e4 e5 e6 e7 e8 e9 e10 e11 e12 H4 H5 H6 HL H3 d1 HZO
    go_upto_region 9 with (fail)
    have HA:=HAB.out
    clear HAB o2
    have d1:w6.cell? ⟨g,1,none⟩=some (.int .i64 s):=(G.out.arrCell (i:=0) rfl 1).trans ((stC_get _ _ _ (by omega)).trans (by unfold ndI;rw [HSZ.out.1]))
    have HCZ:Hid (Cov Z C):=Lib.hid (HC.out.1.wr GW.out fun t ⟨k,hk,e⟩=>by rw [e];exact (HIN.out k hk).2.2)
    have HZF:=Lib.hid (HFB.out Z GW.out)
    have HAB:=Lib.hid HA
    have hab:a≤b:=by have:=HSZ.out;have:=HA;unfold dat at this;omega
    clear HA hop
    go_wp2_with fail
    refine (HD1.out _).mono ?_
    rintro e w7 ⟨rfl,rfl⟩
    clear d1
    go_wp2_with fail
    go_loopw [11,12] (fun t _ wr=> ∃(k:Nat) (Y:Sys) (f':Nat→Nat) (N:List Nat),a≤k∧k≤b∧t= .int .i64 k∧Hid (At w0 wr Y (arr g (stC 13 (ndI f')) 270 neNd::rs))∧Hid (Took Z Y f f' a k)∧Hid (N.length=k-a∧Cov Y (C++N)∧∀j,a≤j→j<k→f' (2+j)∈N)) (fun t _ _=>b-(intOf t).toNat)
    case atStart=>exact ⟨a,Z,f,[],Nat.le_refl _,hab,rfl,G,Lib.hid (Took.refl Z f a),Lib.hid ⟨by simp,by rw [List.append_nil];exact HCZ.out,fun j h1 h2=>by omega⟩⟩
    case round=>
      clear G
      obtain ⟨k,Y,f',N,hk1,hk2,rfl,HST,HT,HN⟩:=hrel
      have k0:(0:Int)≤(k:Int):=Int.natCast_nonneg _
      have esb:Y.sb=X.sb:=HT.out.wr.sb.trans GW.out.sb
      have eP:Y.P=X.P:=HT.out.wr.P.trans GW.out.P
      have ESB:=Lib.hid esb
      by_cases hlt:k<b
      · have k1:(k:Int)<b:=by omega
        obtain ⟨q,hq⟩:=Y.room (by have h1:=HT.out.free;have h2:=HZF.out;have h3:=HFR.out;omega)
        have HTK:=Lib.hid (i_take HST.out (by rw [HT.out.wr.op,GW.out.op];exact HOP.out) k (by omega) hq HN.out.2.1 (by rw [eP];exact List.mem_append_left _ HC.out.2.1) (by have h1:=HC.out.2.2;have h2:=HN.out.1;have h3:=HAB.out;rw [h3.1,h3.2] at h1;rw [List.length_append];omega))
        rw [esb] at HTK
        have HT':=Lib.hid (HT.out.step HST.out.ok hq)
        have HN':Hid ((N++ [Y.P.da+q]).length=k+1-a∧Cov (Y.fresh q) (C++(N++ [Y.P.da+q]))∧∀j,a≤j→j<k+1→setF f' (2+k) (Y.P.da+q) (2+j)∈N++ [Y.P.da+q]):=Lib.hid (by
          refine ⟨by rw [List.length_append,HN.out.1];simp;omega,(HN.out.2.1.mono fun c hc=>?_).wr (Wr.fresh Y q) fun t ht=>?_,fun j h1 h2=>?_⟩
          · rw [←List.append_assoc];exact List.mem_append_left _ hc
          · rcases ht with e | e
            · rw [e,eP];exact List.mem_append_left _ HC.out.2.1
            · rw [e];exact List.mem_append_right _ (List.mem_append_right _ (List.mem_singleton.2 rfl))
          · by_cases e:j=k
            · subst e
              exact List.mem_append_right _ (List.mem_singleton.2 (if_pos rfl))
            · have:setF f' (2+k) (Y.P.da+q) (2+j)=f' (2+j):=if_neg (by omega)
              rw [this]
              exact List.mem_append_left _ (HN.out.2.2 j h1 (by omega)))
        have HLT:=Lib.hid (And.intro hlt hk1)
        clear HST HT HN hq hlt esb eP
        generalize Y.P.da+q=qq at*
        generalize Y.fresh q=V at*
        go_wp2_with fail
        refine (HD2.out _).mono ?_
        rintro e w8 ⟨rfl,rfl⟩
        go_wp2_with fail
        refine HTK.out.mono ?_
        rintro e w8 ⟨rfl,h8⟩
        have H8:=Lib.hid h8
        clear h8 HTK
        have HR:=Lib.hid (show a≤k+1∧k+1≤b from ⟨by have:=HLT.out;omega,HLT.out.1⟩)
        go_wp2
        first | exact ⟨⟨k+1,V,_,N++ [qq],HR.out.1,HR.out.2,by go_num,H8,HT',HN'⟩,by have:=HLT.out;simp [intOf];omega⟩ | (go_roundw;case rel=>first | exact ⟨k+1,V,_,N++ [qq],HR.out.1,HR.out.2,by go_num,H8,HT',HN'⟩ | ((repeat apply Exists.intro);exact ⟨⟨k+1,V,_,N++ [qq],HR.out.1,HR.out.2,by go_num,H8,HT',HN'⟩,rfl⟩);case measure=>have:=HLT.out;simp [intOf];omega)
      · have k1: ¬(k:Int)<b:=by omega
        obtain rfl:k=b:=by omega
        go_wp2_with fail
        refine (HD2.out _).mono ?_
        rintro e w8 ⟨rfl,rfl⟩
        have d0:wr.cell? ⟨g,1,none⟩=some (.int .i64 (f' 1:Nat)):=(HST.out.arrCell (i:=0) rfl 1).trans (stC_get _ _ _ (by omega))
        have f0:wr.frozen? ⟨g,1,none⟩=false:=HST.out.arrFree (i:=0) rfl 1
        have h9:=HST.out.setArr 0 rfl 1 (.int .i64 S)
        rw [stC_setF _ _ _ _ (by omega),ndI_set] at h9
        have H9:=Lib.hid h9
        clear h9 HST
        go_wp2
        go_ret
        exact ⟨rfl,Z,Y,f',N,H9.out,HAB.out.1▸GW.out,GZ.out,HT.out,HN.out.1,HN.out.2.1,HN.out.2.2⟩
  · obtain ⟨Z,hZ⟩: ∃Z,Z=X:=⟨X,rfl⟩
    have G:Hid (At w0 w3 Z (arr g (stC 13 (ndI f)) 270 neNd::rs)):=by rw [hZ];exact H3
    have GW:Hid (Wr X Z (fun t=> ∃k,k<dat s∧t=f (2+k))):=by rw [hZ];exact Lib.hid (Wr.refl _ _)
    have GZ:Hid (Zeroed X.v Z.v f s):=by rw [hZ];exact Lib.hid (Zeroed.refl _ _ _ (by rw [HO.out];exact hop))
    have o2: ¬(0:Int)<(o:Int):=by omega
    clear hZ H3 d1 HZO
    obtain ⟨w6,hw6⟩: ∃w6,w3=w6:=⟨_,rfl⟩
    rw [hw6] at G ⊢
    clear hw6
    go_upto_region 9 with (fail)
    have HA:=HAB.out
    clear HAB o2
    have d1:w6.cell? ⟨g,1,none⟩=some (.int .i64 s):=(G.out.arrCell (i:=0) rfl 1).trans ((stC_get _ _ _ (by omega)).trans (by unfold ndI;rw [HSZ.out.1]))
    have HCZ:Hid (Cov Z C):=Lib.hid (HC.out.1.wr GW.out fun t ⟨k,hk,e⟩=>by rw [e];exact (HIN.out k hk).2.2)
    have HZF:=Lib.hid (HFB.out Z GW.out)
    have HAB:=Lib.hid HA
    have hab:a≤b:=by have:=HSZ.out;have:=HA;unfold dat at this;omega
    clear HA hop
    go_wp2_with fail
    refine (HD1.out _).mono ?_
    rintro e w7 ⟨rfl,rfl⟩
    clear d1
    go_wp2_with fail
    go_loopw [11,12] (fun t _ wr=> ∃(k:Nat) (Y:Sys) (f':Nat→Nat) (N:List Nat),a≤k∧k≤b∧t= .int .i64 k∧Hid (At w0 wr Y (arr g (stC 13 (ndI f')) 270 neNd::rs))∧Hid (Took Z Y f f' a k)∧Hid (N.length=k-a∧Cov Y (C++N)∧∀j,a≤j→j<k→f' (2+j)∈N)) (fun t _ _=>b-(intOf t).toNat)
    case atStart=>exact ⟨a,Z,f,[],Nat.le_refl _,hab,rfl,G,Lib.hid (Took.refl Z f a),Lib.hid ⟨by simp,by rw [List.append_nil];exact HCZ.out,fun j h1 h2=>by omega⟩⟩
    case round=>
      clear G
      obtain ⟨k,Y,f',N,hk1,hk2,rfl,HST,HT,HN⟩:=hrel
      have k0:(0:Int)≤(k:Int):=Int.natCast_nonneg _
      have esb:Y.sb=X.sb:=HT.out.wr.sb.trans GW.out.sb
      have eP:Y.P=X.P:=HT.out.wr.P.trans GW.out.P
      have ESB:=Lib.hid esb
      by_cases hlt:k<b
      · have k1:(k:Int)<b:=by omega
        obtain ⟨q,hq⟩:=Y.room (by have h1:=HT.out.free;have h2:=HZF.out;have h3:=HFR.out;omega)
        have HTK:=Lib.hid (i_take HST.out (by rw [HT.out.wr.op,GW.out.op];exact HOP.out) k (by omega) hq HN.out.2.1 (by rw [eP];exact List.mem_append_left _ HC.out.2.1) (by have h1:=HC.out.2.2;have h2:=HN.out.1;have h3:=HAB.out;rw [h3.1,h3.2] at h1;rw [List.length_append];omega))
        rw [esb] at HTK
        have HT':=Lib.hid (HT.out.step HST.out.ok hq)
        have HN':Hid ((N++ [Y.P.da+q]).length=k+1-a∧Cov (Y.fresh q) (C++(N++ [Y.P.da+q]))∧∀j,a≤j→j<k+1→setF f' (2+k) (Y.P.da+q) (2+j)∈N++ [Y.P.da+q]):=Lib.hid (by
          refine ⟨by rw [List.length_append,HN.out.1];simp;omega,(HN.out.2.1.mono fun c hc=>?_).wr (Wr.fresh Y q) fun t ht=>?_,fun j h1 h2=>?_⟩
          · rw [←List.append_assoc];exact List.mem_append_left _ hc
          · rcases ht with e | e
            · rw [e,eP];exact List.mem_append_left _ HC.out.2.1
            · rw [e];exact List.mem_append_right _ (List.mem_append_right _ (List.mem_singleton.2 rfl))
          · by_cases e:j=k
            · subst e
              exact List.mem_append_right _ (List.mem_singleton.2 (if_pos rfl))
            · have:setF f' (2+k) (Y.P.da+q) (2+j)=f' (2+j):=if_neg (by omega)
              rw [this]
              exact List.mem_append_left _ (HN.out.2.2 j h1 (by omega)))
        have HLT:=Lib.hid (And.intro hlt hk1)
        clear HST HT HN hq hlt esb eP
        generalize Y.P.da+q=qq at*
        generalize Y.fresh q=V at*
        go_wp2_with fail
        refine (HD2.out _).mono ?_
        rintro e w8 ⟨rfl,rfl⟩
        go_wp2_with fail
        refine HTK.out.mono ?_
        rintro e w8 ⟨rfl,h8⟩
        have H8:=Lib.hid h8
        clear h8 HTK
        have HR:=Lib.hid (show a≤k+1∧k+1≤b from ⟨by have:=HLT.out;omega,HLT.out.1⟩)
        go_wp2
        first | exact ⟨⟨k+1,V,_,N++ [qq],HR.out.1,HR.out.2,by go_num,H8,HT',HN'⟩,by have:=HLT.out;simp [intOf];omega⟩ | (go_roundw;case rel=>first | exact ⟨k+1,V,_,N++ [qq],HR.out.1,HR.out.2,by go_num,H8,HT',HN'⟩ | ((repeat apply Exists.intro);exact ⟨⟨k+1,V,_,N++ [qq],HR.out.1,HR.out.2,by go_num,H8,HT',HN'⟩,rfl⟩);case measure=>have:=HLT.out;simp [intOf];omega)
      · have k1: ¬(k:Int)<b:=by omega
        obtain rfl:k=b:=by omega
        go_wp2_with fail
        refine (HD2.out _).mono ?_
        rintro e w8 ⟨rfl,rfl⟩
        have d0:wr.cell? ⟨g,1,none⟩=some (.int .i64 (f' 1:Nat)):=(HST.out.arrCell (i:=0) rfl 1).trans (stC_get _ _ _ (by omega))
        have f0:wr.frozen? ⟨g,1,none⟩=false:=HST.out.arrFree (i:=0) rfl 1
        have h9:=HST.out.setArr 0 rfl 1 (.int .i64 S)
        rw [stC_setF _ _ _ _ (by omega),ndI_set] at h9
        have H9:=Lib.hid h9
        clear h9 HST
        go_wp2
        go_ret
        exact ⟨rfl,Z,Y,f',N,H9.out,HAB.out.1▸GW.out,GZ.out,HT.out,HN.out.1,HN.out.2.1,HN.out.2.2⟩
end
section
open Go.ChangeMaps Go.MapKept Go.RowKit
def Sys.live (X:Sys) (i:Nat):Prop:=i<X.P.ni∧bitAt (X.v X.P.im) i=true
def Sys.bytes (X:Sys) (i:Nat):List UInt8:=(List.range (X.nd i 1)).map (_root_.Go.Proofs.YtlemndledcmhiaaGreatDoor.fb X.v (X.nd i))
structure FsOk (X:Sys):Prop where
  size: ∀i,X.live i→X.nd i 1≤5120
  blk: ∀i k,X.live i→k<dat (X.nd i 1)→∃b,b<X.P.dc∧X.nd i (2+k)=X.P.da+b∧bitAt (X.v X.P.bm) b=true
  inj: ∀i j k m,X.live i→X.live j→k<dat (X.nd i 1)→m<dat (X.nd j 1)→X.nd i (2+k)=X.nd j (2+m)→i=j∧k=m
theorem dat_le {s:Nat} (h:s≤5120):dat s≤10:=by unfold dat;omega
theorem dat_lt {p s:Nat} (h:p<s):p/512<dat s:=by unfold dat;omega
theorem bytes_len (X:Sys) (i:Nat):(X.bytes i).length=X.nd i 1:=by simp [Sys.bytes]
theorem bytes_get (X:Sys) (i p:Nat) (h:p<X.nd i 1):(X.bytes i)[p]?=some (fb X.v (X.nd i) p):=by simp [Sys.bytes,h]
theorem bytes_congr {X W:Sys} {j:Nat} (h1: ∀m,m<13→W.nd j m=X.nd j m) (hs:X.nd j 1≤5120) (hv: ∀k,k<dat (X.nd j 1)→W.v (X.nd j (2+k))=X.v (X.nd j (2+k))):W.bytes j=X.bytes j:=by
  unfold Sys.bytes
  rw [h1 1 (by omega)]
  apply List.map_congr_left
  intro p hp
  have hp:=List.mem_range.1 hp
  unfold fb
  rw [h1 (2+p/512) (by omega),hv (p/512) (dat_lt hp)]
theorem nd_lt {X:Sys} (h:SysOk X) {i j:Nat} (hi:i<X.P.ni) (hj:j<13):X.nd i j<4294967296:=
  have:=h.tab hi
  getLE_lt _ _ 4 (by rw [h.len _ this.1 this.2.2];omega)
theorem FsOk.data {X Y:Sys} {T:Nat→Prop} (h:FsOk X) (hX:SysOk X) (hw:Wr X Y T) (hT: ∀t,T t→X.P.da≤t):FsOk Y∧(∀i,Y.live i↔X.live i)∧(∀i,X.live i→Y.nd i=X.nd i)∧Y.fb=X.fb:=by
  have h1:=hX.pl.im;have h2:=hX.pl.bm;have h3:=hX.pl.tb;have h4:=hX.pl.da
  have hP:=hw.P
  have him:Y.v X.P.im=X.v X.P.im:=hw.v _ fun ht=>by have:=hT _ ht;omega
  have hbm:Y.v X.P.bm=X.v X.P.bm:=hw.v _ fun ht=>by have:=hT _ ht;omega
  have hl: ∀i,Y.live i↔X.live i:=fun i=>by unfold Sys.live;rw [hP,him]
  have hn: ∀i,X.live i→Y.nd i=X.nd i:=fun i hi=>by
    unfold Sys.nd
    rw [hP,hw.v _ fun ht=>by have:=hT _ ht;have:=hi.1;omega]
  refine ⟨⟨fun i hi=>?_,fun i k hi hk=>?_,fun i j k m hi hj hk hm e=>?_⟩,hl,hn,hw.fb fun ht=>by have:=hT _ ht;omega⟩
  · rw [hn i ((hl i).1 hi)];exact h.size i ((hl i).1 hi)
  · have hi:=(hl i).1 hi
    rw [hn i hi] at hk ⊢
    rw [hP,hbm]
    exact h.blk i k hi hk
  · have hi:=(hl i).1 hi
    have hj:=(hl j).1 hj
    rw [hn i hi] at hk e
    rw [hn j hj] at hm e
    exact h.inj i j k m hi hj hk hm e
def Sys.saved (Y:Sys) (i:Nat) (f:Nat→Nat):Sys:=Y.put (Y.P.tb+i/8) (putNd (Y.v (Y.P.tb+i/8)) (i%8*64) f 13)
theorem FsOk.grown {X Z Y:Sys} {i S:Nat} {f':Nat→Nat} (ho:FsOk X) (hX:SysOk X) (hY:SysOk Y) (hi:X.live i) (hw:Wr X Z (fun t=> ∃k,k<dat (X.nd i 1)∧t=X.nd i (2+k))) (hz:Zeroed X.v Z.v (X.nd i) (X.nd i 1)) (ht:Took Z Y (X.nd i) f' (dat (X.nd i 1)) (dat S)) (hS:X.nd i 1≤S) (hS2:S≤5120):
    let W:=Y.saved i (setF f' 1 S)
    FsOk W∧(∀j,W.live j↔X.live j)∧(∀j,X.live j→j≠i→W.bytes j=X.bytes j∧∀m,m<13→W.nd j m=X.nd j m)∧W.nd i 0=X.nd i 0∧W.nd i 1=S∧(∀p,p<S→fb W.v (W.nd i) p=if p<X.nd i 1 then fb X.v (X.nd i) p else 0)∧(∀k,k<dat S→W.nd i (2+k)=f' (2+k))∧W.fb+(dat S-dat (X.nd i 1))=X.fb:=by
  intro W
  have h1:=hX.pl.im;have h2:=hX.pl.bm;have h3:=hX.pl.tb;have h4:=hX.pl.da
  have hPZ:=hw.P
  have hP:Y.P=X.P:=ht.wr.P.trans hPZ
  have hPW:W.P=X.P:=hP
  have hse:=ho.size i hi
  have hda:=dat_le hse
  have hdS:=dat_le hS2
  have hbk:=ho.blk i
  -- the blocks
  have hZ: ∀t,t<X.P.da→Z.v t=X.v t:=fun t h=>hw.v t fun ⟨k,hk,e⟩=>by obtain ⟨b,_,q,_⟩:=hbk k hi hk;omega
  have hYm: ∀t,t<X.P.da→t≠X.P.bm→Y.v t=X.v t:=fun t h hb=>(ht.wr.v t fun hh=>by rw [hPZ] at hh;rcases hh with e | ⟨b,_,_,e⟩<;>omega).trans (hZ t h)
  have hZb:Z.v X.P.bm=X.v X.P.bm:=hZ _ (by omega)
  have hWv: ∀t,W.v t=if t=X.P.tb+i/8 then putNd (Y.v (X.P.tb+i/8)) (i%8*64) (setF f' 1 S) 13 else Y.v t:=fun t=>by
    show (Sys.put Y _ _).v t=_
    rw [Sys.put_v,hP]
  have hi1:=hi.1
  have htl:X.P.tb+i/8<X.P.da:=by omega
  have hWim:W.v X.P.im=X.v X.P.im:=by rw [hWv,if_neg (by omega)];exact hYm _ (by omega) (by omega)
  have hWbm:W.v X.P.bm=Y.v X.P.bm:=by rw [hWv,if_neg (by omega)]
  have hWd: ∀t,X.P.da≤t→W.v t=Y.v t:=fun t h=>by rw [hWv,if_neg (by omega)]
  have hlive: ∀j,W.live j↔X.live j:=fun j=>by unfold Sys.live;rw [hPW,hWim]
  have hlen:(Y.v (X.P.tb+i/8)).length=512:=by have:=hY.tab (i:=i) (by rw [hP];exact hi1);rw [hP] at this;exact hY.len _ this.1 this.2.2
  have hf: ∀j,j<13→setF f' 1 S j<4294967296:=fun j hj=>by
    show (if j=1 then S else f' j)<_
    by_cases e:j=1
    · rw [if_pos e];omega
    · rw [if_neg e]
      by_cases e2:j<2+dat (X.nd i 1)∨2+dat S≤j
      · rw [ht.same j e2];exact nd_lt hX hi.1 hj
      · obtain ⟨b,q1,q2,_⟩:=ht.new (j-2) (by omega) (by omega)
        rw [show 2+(j-2)=j by omega] at q2
        have:=hX.pl.all;have:=hX.pl.n
        rw [hPZ] at q1 q2
        omega
  have hWi: ∀m,m<13→W.nd i m=setF f' 1 S m:=fun m hm=>by
    unfold Sys.nd ndAt
    rw [hPW,hWv,if_pos rfl]
    exact putNd_same _ _ _ 13 (by rw [hlen];omega) hf m hm
  have hWj: ∀j,X.live j→j≠i→∀m,m<13→W.nd j m=X.nd j m:=fun j hj hne m hm=>by
    have hj1:=hj.1
    have e0:Y.v (X.P.tb+j/8)=X.v (X.P.tb+j/8):=hYm _ (by omega) (by omega)
    unfold Sys.nd ndAt
    rw [hPW,hWv]
    by_cases e:j/8=i/8
    · rw [if_pos (by rw [e]),putNd_other _ _ _ _ _ 13 (by rw [hlen];omega) (by omega),←e,e0]
    · rw [if_neg (by omega),e0]
  have e1:W.nd i 1=S:=hWi 1 (by omega)
  have eb: ∀k,k<dat S→W.nd i (2+k)=f' (2+k):=fun k hk=>(hWi (2+k) (by omega)).trans (if_neg (by omega))
  have eo: ∀k,k<dat (X.nd i 1)→W.nd i (2+k)=X.nd i (2+k):=fun k hk=>(eb k (by have:=ht.ak;omega)).trans (ht.same _ (.inl (by omega)))
  have en: ∀k,dat (X.nd i 1)≤k→k<dat S→∃b,b<X.P.dc∧W.nd i (2+k)=X.P.da+b∧bitAt (X.v X.P.bm) b=false∧bitAt (W.v X.P.bm) b=true∧W.v (X.P.da+b)=zeros:=fun k q1 q2=>by
    obtain ⟨b,r1,r2,r3,r4,r5⟩:=ht.new k q1 q2
    rw [hPZ] at r1 r2 r3 r4 r5
    rw [hZb] at r3
    exact ⟨b,r1,(eb k q2).trans r2,r3,by rw [hWbm];exact r4,by rw [hWd _ (by omega)];exact r5⟩
  have hkeep: ∀b,bitAt (X.v X.P.bm) b=true→bitAt (W.v X.P.bm) b=true:=fun b hb=>by
    rw [hWbm]
    have:=ht.keep b
    rw [hPZ,hZb] at this
    exact this hb
  -- each block is an old one, or new
  have orig: ∀j k,X.live j→k<dat (W.nd j 1)→(k<dat (X.nd j 1)∧W.nd j (2+k)=X.nd j (2+k))∨(j=i∧dat (X.nd i 1)≤k∧k<dat S):=fun j k hj hk=>by
    by_cases e:j=i
    · subst e
      rw [e1] at hk
      by_cases hl:k<dat (X.nd j 1)
      · exact .inl ⟨hl,eo k hl⟩
      · exact .inr ⟨rfl,by omega,hk⟩
    · have hk2:=hk
      rw [hWj j hj e 1 (by omega)] at hk2
      have:=dat_le (ho.size j hj)
      exact .inl ⟨hk2,hWj j hj e (2+k) (by omega)⟩
  have hcl: ∀j k m,X.live j→k<dat (X.nd j 1)→dat (X.nd i 1)≤m→m<dat S→X.nd j (2+k)≠W.nd i (2+m):=fun j k m hj hk hm1 hm2 e=>by
    obtain ⟨b,_,r2,r3,_⟩:=en m hm1 hm2
    obtain ⟨c,_,s2,s3⟩:=ho.blk j k hj hk
    have:c=b:=by omega
    rw [this,r3] at s3
    cases s3
  have hdata: ∀j k,X.live j→k<dat (X.nd j 1)→j≠i→W.v (X.nd j (2+k))=X.v (X.nd j (2+k)):=fun j k hj hk hne=>by
    obtain ⟨c,s1,s2,s3⟩:=ho.blk j k hj hk
    rw [hWd _ (by omega),ht.wr.v _ fun hh=>by
      rw [hPZ] at hh
      rcases hh with e | ⟨b,_,q,e⟩
      · omega
      · have:b=c:=by omega
        rw [this,hZb,s3] at q
        cases q]
    exact hw.v _ fun ⟨m,hm,e⟩=>hne (ho.inj j i k m hj hi hk hm e).1
  refine ⟨⟨fun j hj=>?_,fun j k hj hk=>?_,fun j j' k m hj hj' hk hm e=>?_⟩,hlive,fun j hj hne=>⟨bytes_congr (hWj j hj hne) (ho.size j hj) fun k hk=>hdata j k hj hk hne,hWj j hj hne⟩,?_,e1,fun p hp=>?_,eb,?_⟩
  · have hj:=(hlive j).1 hj
    by_cases e:j=i
    · rw [e,e1];exact hS2
    · rw [hWj j hj e 1 (by omega)];exact ho.size j hj
  · have hj:=(hlive j).1 hj
    rw [hPW]
    rcases orig j k hj hk with ⟨q1,q2⟩ | ⟨rfl,q1,q2⟩
    · obtain ⟨b,r1,r2,r3⟩:=ho.blk j k hj q1
      exact ⟨b,r1,q2.trans r2,hkeep b r3⟩
    · obtain ⟨b,r1,r2,_,r4,_⟩:=en k q1 q2
      exact ⟨b,r1,r2,r4⟩
  · have gj:=(hlive j).1 hj
    have gj':=(hlive j').1 hj'
    clear hj hj'
    rcases orig j k gj hk with ⟨q1,q2⟩ | ⟨rfl,q1,q2⟩
    · rcases orig j' m gj' hm with ⟨s1,s2⟩ | ⟨rfl,s1,s2⟩
      · rw [q2,s2] at e;exact ho.inj j j' k m gj gj' q1 s1 e
      · rw [q2] at e;exact absurd e (hcl j k m gj q1 s1 s2)
    · rcases orig j' m gj' hm with ⟨s1,s2⟩ | ⟨rfl,s1,s2⟩
      · rw [s2] at e;exact absurd e.symm (hcl j' m k gj' s1 q1 q2)
      · rw [eb k q2,eb m s2] at e
        exact ⟨rfl,ht.inj k m q1 q2 s1 s2 e⟩
  · exact (hWi 0 (by omega)).trans ((if_neg (by omega)).trans (ht.same 0 (.inl (by omega))))
  · have hk:=dat_lt hp
    by_cases hl:p/512<dat (X.nd i 1)
    · have hpz:=hz p (by omega)
      unfold fb at hpz ⊢
      rw [eo _ hl]
      obtain ⟨c,s1,s2,s3⟩:=ho.blk i _ hi hl
      rw [hWd _ (by omega),ht.wr.v _ fun hh=>by
        rw [hPZ] at hh
        rcases hh with e | ⟨b,_,q,e⟩
        · omega
        · have:b=c:=by omega
          rw [this,hZb,s3] at q
          cases q]
      exact hpz
    · obtain ⟨b,r1,r2,_,_,r5⟩:=en (p/512) (by omega) hk
      rw [if_neg (fun h=>hl (dat_lt h))]
      unfold fb
      rw [r2,r5]
      unfold zeros
      rw [List.getD_eq_getElem?_getD,List.getElem?_replicate]
      split<;>rfl
  · have hf1:=ht.free
    have:W.fb=Y.fb:=by unfold Sys.fb;rw [hPW,hP,hWbm]
    have hzf:Z.fb=X.fb:=hw.fb fun ⟨k,hk,e⟩=>by obtain ⟨b,_,q,_⟩:=hbk k hi hk;omega
    omega
structure Wrote (X W:Sys) (i a:Nat) (b:List UInt8):Prop where
  ok:FsOk W
  live: ∀j,W.live j↔X.live j
  oth: ∀j,X.live j→j≠i→W.bytes j=X.bytes j∧∀m,m<13→W.nd j m=X.nd j m
  kind:W.nd i 0=X.nd i 0
  size:W.nd i 1=max (X.nd i 1) (a+b.length)
  byte: ∀p,p<W.nd i 1→fb W.v (W.nd i) p=if a≤p∧p<a+b.length then b.getD (p-a) 0 else fb X.v (X.nd i) p
  free:W.fb+(dat (W.nd i 1)-dat (X.nd i 1))=X.fb
  wr:Wr X W fun _=>True
theorem FsOk.laid {W V:Sys} {i a:Nat} {f:Nat→Nat} {b:List UInt8} (ho:FsOk W) (hW:SysOk W) (hi:W.live i) (hf: ∀k,k<dat (W.nd i 1)→f (2+k)=W.nd i (2+k)) (hw:Wr W V (fun t=> ∃k,k<dat (W.nd i 1)∧t=f (2+k))) (hab:a+b.length≤W.nd i 1) (hl:Laid W.v V.v f (dat (W.nd i 1)) a b.length b):Wrote W V i a b:=by
  have hda: ∀t,(∃k,k<dat (W.nd i 1)∧t=f (2+k))→W.P.da≤t:=fun t ⟨k,hk,e⟩=>by
    obtain ⟨c,_,q,_⟩:=ho.blk i k hi hk
    rw [hf k hk] at e
    omega
  obtain ⟨h1,h2,h3,h4⟩:=ho.data hW hw hda
  refine ⟨h1,h2,fun j hj hne=>⟨bytes_congr (fun m _=>by rw [h3 j hj]) (ho.size j hj) fun k hk=>hw.v _ fun ⟨m,hm,e⟩=>hne (ho.inj j i k m hj hi hk hm (by rw [←hf m hm];exact e)).1,fun m _=>by rw [h3 j hj]⟩,by rw [h3 i hi],by rw [h3 i hi];omega,fun p hp=>?_,by rw [h3 i hi,h4];omega,hw.mono fun _ _=>trivial⟩
  rw [h3 i hi] at hp ⊢
  have hk:=dat_lt hp
  have:=hl p (by omega)
  unfold fb at this ⊢
  rw [hf _ hk] at this
  exact this
theorem Wrote.after {X W V:Sys} {i a S:Nat} {b:List UInt8} (hi:X.live i) (g1: ∀j,W.live j↔X.live j) (g2: ∀j,X.live j→j≠i→W.bytes j=X.bytes j∧∀m,m<13→W.nd j m=X.nd j m) (g3:W.nd i 0=X.nd i 0) (g4:W.nd i 1=S) (g5: ∀p,p<S→fb W.v (W.nd i) p=if p<X.nd i 1 then fb X.v (X.nd i) p else 0) (g6:W.fb+(dat S-dat (X.nd i 1))=X.fb) (hwr:Wr X W fun _=>True) (hS:S=a+b.length) (hs:X.nd i 1≤S) (ha:a≤X.nd i 1) (h:Wrote W V i a b):Wrote X V i a b:=by
  have e1:V.nd i 1=S:=by rw [h.size,g4,hS];omega
  refine ⟨h.ok,fun j=>(h.live j).trans (g1 j),fun j hj hne=>?_,h.kind.trans g3,by rw [e1,hS];omega,fun p hp=>?_,?_,hwr.trans h.wr⟩
  · have q1:=h.oth j ((g1 j).2 hj) hne
    have q2:=g2 j hj hne
    exact ⟨q1.1.trans q2.1,fun m hm=>(q1.2 m hm).trans (q2.2 m hm)⟩
  · rw [h.byte p hp]
    rw [e1] at hp
    by_cases e:a≤p∧p<a+b.length
    · rw [if_pos e,if_pos e]
    · rw [if_neg e,if_neg e,g5 p hp,if_pos (by omega)]
  · have:=h.free
    rw [e1,g4] at this
    rw [e1]
    omega
theorem Took.lt {X Z Y:Sys} {i S:Nat} {f':Nat→Nat} (hX:SysOk X) (hi:i<X.P.ni) (hP:Z.P=X.P) (ht:Took Z Y (X.nd i) f' (dat (X.nd i 1)) (dat S)) (hS2:S≤5120): ∀j,j<13→setF f' 1 S j<4294967296:=fun j hj=>by
  show (if j=1 then S else f' j)<_
  by_cases e:j=1
  · rw [if_pos e];omega
  · rw [if_neg e]
    by_cases e2:j<2+dat (X.nd i 1)∨2+dat S≤j
    · rw [ht.same j e2];exact nd_lt hX hi hj
    · obtain ⟨b,q1,q2,_⟩:=ht.new (j-2) (by omega) (by omega)
      rw [show 2+(j-2)=j by omega] at q2
      have:=hX.pl.all;have:=hX.pl.n
      rw [hP] at q1 q2
      omega
end
section
open Go.ChangeMaps Go.MapKept Go.RowKit
variable {w0:Gnd} {w:World} {rs:List Res} {X:Sys}
set_option maxHeartbeats 1000000 in
set_option maxRecDepth 100000 in
theorem i_Write (h:At w0 w X rs) (hop:X.op=true) (ho:FsOk X) (i:Nat) (hi:X.live i) (a:Nat) (ha:a≤X.nd i 1) (ai:Nat) {bb bo vc:Nat} {b:List UInt8} (hv:rs[ai]?=some (byt (.slice (some ⟨bb,bo,none⟩) b.length vc) b)) (S:Nat) (hS:S=max (X.nd i 1) (a+b.length)) (h2:S≤5120) (hfr:dat S-dat (X.nd i 1)≤X.fb) {C:List Nat} (hC:Cov X C) (hbm:X.P.bm∈C) (htb:X.P.tb+i/8∈C) (hin: ∀k,k<dat (X.nd i 1)→X.nd i (2+k)∈C) (h60:C.length+(dat S-dat (X.nd i 1))≤60):
    Calls Tryz.prog 190 #[.pointer (some ⟨X.sb,0,none⟩),.int .i64 i,.int .i64 a,.slice (some ⟨bb,bo,none⟩) b.length vc] w fun e w'=>e= .returned (.int .i64 0)∧∃W N,At w0 w' W rs∧Wrote X W i a b∧N.length=dat S-dat (X.nd i 1)∧Cov W (C++N)∧∀k,k<dat S→W.nd i (2+k)∈C++N:=by
  obtain ⟨f,hf⟩: ∃f,X.nd i=f:=⟨_,rfl⟩
  obtain ⟨s,hs⟩: ∃s,f 1=s:=⟨_,rfl⟩
  have HO:=Lib.hid ho
  have HS:=Lib.hid h.ok
  have HI:=Lib.hid hi
  have HOP:=Lib.hid hop
  have HC:=Lib.hid (And.intro hC (And.intro hbm htb))
  have HCH:=Lib.hid (i_changing h hop i hi.1 hi.2)
  have HV:=Lib.hid hv
  have hs5:=ho.size i hi
  have HBI:Hid (∀k,k<dat s→X.P.da≤f (2+k)∧f (2+k)<X.n∧f (2+k)∈C):=Lib.hid fun k hk=>by
    rw [←hs,←hf] at hk
    obtain ⟨c,q1,q2,_⟩:=ho.blk i k hi hk
    have:=hin k hk
    have q3:=h.ok.data q1
    rw [hf] at q2 this
    exact ⟨by omega,by omega,this⟩
  have HBJ:Hid (∀k j,k<dat s→j<dat s→f (2+k)=f (2+j)→k=j):=Lib.hid fun k j hk hj e=>by
    rw [←hs,←hf] at hk hj
    rw [←hf] at e
    exact (ho.inj i i k j hi hi hk hj e).2
  have KSB:Hid (∀(P:Prop),P→P):=Lib.hid fun _ h=>h
  rw [hf] at ha hS hfr hin h60 HCH hs5 ⊢
  rw [hs] at ha hS hfr h60 hs5 ⊢
  have HF:=Lib.hid hf
  have HSS:=Lib.hid (And.intro hs (And.intro hS (And.intro h2 (And.intro ha (And.intro hfr h60)))))
  obtain ⟨n,hn⟩: ∃n,b.length=n:=⟨_,rfl⟩
  have HN:=Lib.hid hn
  rw [hn] at hS ⊢
  have s0:(0:Int)≤(s:Int):=Int.natCast_nonneg _
  have s1:(s:Int)≤5120:=by omega
  have a0:(0:Int)≤(a:Int):=Int.natCast_nonneg _
  have a1:(a:Int)≤(s:Int):=by omega
  have n0:(0:Int)≤(n:Int):=Int.natCast_nonneg _
  have n1:(a:Int)+(n:Int)≤5120:=by omega
  clear h hop ho hi hv hC hbm htb hin hs5 hfr h60 h2 hS ha hs hn
  go_enter Tryz.func190,Tryz.ntmps190
  go_wp2_with fail
  refine HCH.out.mono ?_
  clear HCH
  rintro e w2 ⟨rfl,h2⟩
  have HA:=Lib.hid (h2.newArr (stC 13 fun _=>0) 270 neNd)
  have HB0:=Lib.hid (show (w2.alloc (.cells (stC 13 fun _=>0) 270 (0,0))).heap[w2.heap.size]?=some (.cells (stC 13 fun _=>0) 270 (0,0)) from HA.out.1.get (i:=1) rfl)
  have HA2:=Lib.hid (HA.out.setRow 0 (c':=stC 13 (ndI f)) rfl)
  clear h2
  go_upto_region 2 with (first | (refine allocRow rfl _ _ zeroNd rfl ?_) | (refine storeNd rfl _ _ rfl w2.heap.size _ rfl rfl _ (stC_size _ _) HB0.out ?_))
  obtain ⟨y1,hy1,h1⟩:=HA2.out.name
  rw [hy1]
  have H1:Hid (At w0 y1 X (arr w2.heap.size (stC 13 (ndI f)) 270 neNd::rs)):=Lib.hid h1
  clear hy1 HA HA2 HB0 h1
  generalize w2.heap.size=g at*
  have d1:y1.cell? ⟨g,1,none⟩=some (.int .i64 s):=(H1.out.arrCell (i:=0) rfl 1).trans ((stC_get _ _ _ (by omega)).trans (by unfold ndI;rw [HSS.out.1]))
  by_cases hg:s<a+n
  · have g1:(s:Int)<(a:Int)+(n:Int):=by omega
    have eS:S=a+n:=by have:=HSS.out.2.1;have:=HN.out;omega
    have HG:=Lib.hid (i_grow H1.out HOP.out s S HSS.out.1 (by omega) HSS.out.2.2.1 HSS.out.2.2.2.2.1 HBI.out HBJ.out HC.out.1 HC.out.2.1 HSS.out.2.2.2.2.2)
    rw [show ((S:Nat):Int)=(a:Int)+(n:Int) by omega] at HG
    clear H1
    go_wp2_with fail
    refine HG.out.mono ?_
    clear HG d1
    rintro e w3 ⟨rfl,Z,Y,f',N,h3,hzw,hzz,htk,hnl,hcv,hnn⟩
    have e1:X.nd i 1=s:=by rw [HF.out];exact HSS.out.1
    have ePZ:=hzw.P
    have ePY:Y.P=X.P:=htk.wr.P.trans ePZ
    have esb:Y.sb=X.sb:=htk.wr.sb.trans hzw.sb
    have htk':Took Z Y (X.nd i) f' (dat (X.nd i 1)) (dat S):=by rw [e1,HF.out];exact htk
    have hzw':Wr X Z (fun t=> ∃k,k<dat (X.nd i 1)∧t=X.nd i (2+k)):=by rw [e1,HF.out];exact hzw
    have hG:=HO.out.grown HS.out h3.ok HI.out hzw' (by rw [e1,HF.out];exact hzz) htk' (by rw [e1];omega) HSS.out.2.2.1
    have hlt:=Took.lt HS.out HI.out.1 ePZ htk' HSS.out.2.2.1
    obtain ⟨f2,hf2⟩: ∃f2,setF f' 1 S=f2:=⟨_,rfl⟩
    have hf2k: ∀k,f2 (2+k)=f' (2+k):=fun k=>by rw [←hf2];exact if_neg (by omega)
    rw [hf2] at h3 hG hlt
    have hCN:(C++N).length≤60:=by rw [List.length_append,hnl];exact HSS.out.2.2.2.2.2
    have HSV:=Lib.hid (i_save h3 (by rw [htk.wr.op,hzw.op];exact HOP.out) i (by rw [ePY];exact HI.out.1) f2 hlt (hcv.room h3.ok (by rw [ePY];exact List.mem_append_left _ HC.out.2.2) hCN))
    rw [esb] at HSV
    have HB3:=Lib.hid (show w3.heap[g]?=some (.cells (stC 13 (ndI f2)) 270 (0,0)) from h3.1.get (i:=1) rfl)
    have hwX:Wr X (Y.saved i f2) fun _=>True:=((hzw.mono fun _ _=>trivial).trans (htk.wr.mono fun _ _=>trivial)).trans ((Wr.put Y _ _).mono fun _ _=>trivial)
    have hcW:Cov (Y.saved i f2) (C++N):=hcv.wr (Wr.put Y _ _) fun t e=>by rw [e,ePY];exact List.mem_append_left _ HC.out.2.2
    have eW:(show Sys from Y.put (Y.P.tb+i/8) (putNd (Y.v (Y.P.tb+i/8)) (i%8*64) f2 13))=Y.saved i f2:=rfl
    have hblk: ∀k,k<dat S→f2 (2+k)∈C++N:=fun k hk=>by
      rw [hf2k]
      by_cases q:k<dat s
      · rw [htk.same _ (.inl (by omega))];exact List.mem_append_left _ (HBI.out k q).2.2
      · exact List.mem_append_right _ (hnn k (by omega) hk)
    obtain ⟨W,hW⟩: ∃W,Y.saved i f2=W:=⟨_,rfl⟩
    have HSV2:Hid (Calls Tryz.prog 184 #[.pointer (some ⟨X.sb,0,none⟩),.int .i64 i,.agg (stC 13 (ndI f2))] w3 fun e w'=>e= .returned (.int .i64 0)∧At w0 w' W (arr g (stC 13 (ndI f2)) 270 neNd::rs)):=by rw [←hW];exact HSV
    simp only [hW] at hG
    rw [hW] at hwX hcW
    obtain ⟨k1,k2,k3,k4,k5,k6,k7,k8⟩:=hG
    have HW:=Lib.hid (And.intro k1 (And.intro k2 (And.intro k3 (And.intro k4 (And.intro k5 (And.intro k6 (And.intro k7 k8)))))))
    have HWW:=Lib.hid (And.intro hwX (And.intro hcW (And.intro hblk (And.intro hf2k (And.intro hCN hnl)))))
    have iW:W.live i:=(k2 i).2 HI.out
    have HLY:Hid (∀y,At w0 y W (arr g (stC 13 (ndI f2)) 270 neNd::rs)→Calls Tryz.prog 254 #[.pointer (some ⟨X.sb,0,none⟩),.agg (stC 13 (ndI f2)),.int .i64 a,.slice (some ⟨bb,bo,none⟩) n vc] y fun e w'=>e= .returned (.int .i64 0)∧∃V,At w0 w' V (arr g (stC 13 (ndI f2)) 270 neNd::rs)∧Wr W V (fun t=> ∃k,k<dat S∧t=f2 (2+k))∧Laid W.v V.v f2 (dat S) a n b):=Lib.hid fun y hy=>by
      have hwb: ∀k,k<dat S→∃c,c<W.P.dc∧f2 (2+k)=W.P.da+c:=fun k hk=>by
        obtain ⟨c,q1,q2,_⟩:=HW.out.1.blk i k iW (by rw [HW.out.2.2.2.2.1];exact hk)
        rw [HW.out.2.2.2.2.2.2.1 k hk,←HWW.out.2.2.2.1] at q2
        exact ⟨c,q1,q2⟩
      have:=i_lay hy (by rw [HWW.out.1.op];exact HOP.out) f2 a (dat S) (ai+1) HV.out (dat_le HSS.out.2.2.1) (by rw [HN.out];unfold dat;omega) (C:=C++N) (fun k hk=>by
          obtain ⟨c,q1,q2⟩:=hwb k hk
          have:=hy.ok.data q1
          exact ⟨by omega,by omega,HWW.out.2.2.1 k hk⟩) (fun k j hk hj e=>by
          refine (HW.out.1.inj i i k j iW iW (by rw [HW.out.2.2.2.2.1];exact hk) (by rw [HW.out.2.2.2.2.1];exact hj) ?_).2
          rw [HW.out.2.2.2.2.2.2.1 k hk,HW.out.2.2.2.2.2.2.1 j hj,←HWW.out.2.2.2.1,←HWW.out.2.2.2.1];exact e) HWW.out.2.1 HWW.out.2.2.2.2.1
      rw [HN.out,HWW.out.1.sb] at this
      exact this
    clear h3 hzw hzz htk hnl hcv hnn ePZ ePY esb htk' hzw' hlt hf2 hf2k hCN HSV hwX hcW eW hblk hW k1 k2 k3 k4 k5 k6 k7 k8
    go_upto_region 12 with (fail)
    go_wp2_with (refine loadNd rfl _ rfl g rfl _ HB3.out ?_)
    refine HSV2.out.mono ?_
    clear HSV2 HB3
    rintro e w4 ⟨rfl,h4⟩
    have HB4:=Lib.hid (show w4.heap[g]?=some (.cells (stC 13 (ndI f2)) 270 (0,0)) from h4.1.get (i:=1) rfl)
    have HL4:=Lib.hid (HLY.out w4 h4)
    have HS4:=Lib.hid h4.ok
    clear HLY h4
    go_upto_region 15 with (fail)
    go_wp2_with (refine loadNd rfl _ rfl g rfl _ HB4.out ?_)
    refine HL4.out.mono ?_
    clear HL4 HB4
    rintro e w5 ⟨rfl,V,h5,hvw,hvl⟩
    have H5:=Lib.hid (h5.drop 1)
    clear h5
    go_wp2
    go_ret
    have hfk: ∀k,k<dat S→f2 (2+k)=W.nd i (2+k):=fun k hk=>by rw [HW.out.2.2.2.2.2.2.1 k hk];exact HWW.out.2.2.2.1 k
    have eWS:=HW.out.2.2.2.2.1
    have hwr:Wrote W V i a b:=by
      refine HW.out.1.laid HS4.out iW (f:=f2) (by rw [eWS];exact hfk) (by rw [eWS];exact hvw) (by rw [eWS,HN.out];omega) (by rw [eWS,HN.out];exact hvl)
    have hX:Wrote X V i a b:=hwr.after HI.out HW.out.2.1 HW.out.2.2.1 HW.out.2.2.2.1 HW.out.2.2.2.2.1 HW.out.2.2.2.2.2.1 HW.out.2.2.2.2.2.2.2 HWW.out.1 (by rw [HN.out];exact eS) (by rw [e1];omega) (by rw [e1];omega)
    refine ⟨rfl,V,N,H5.out,hX,HWW.out.2.2.2.2.2,HWW.out.2.1.wr hvw (fun t ⟨k,hk,e⟩=>by rw [e];exact HWW.out.2.2.1 k hk),fun k hk=>?_⟩
    have hn2:=(HW.out.1.data HS4.out hvw fun t ⟨k,hk,e⟩=>by
      obtain ⟨c,_,q,_⟩:=HW.out.1.blk i k iW (by rw [eWS];exact hk)
      rw [←hfk k hk] at q
      omega).2.2.1 i iW
    rw [hn2,←hfk k hk]
    exact HWW.out.2.2.1 k hk
  · have g1: ¬(s:Int)<(a:Int)+(n:Int):=by omega
    have eS:S=s:=by have:=HSS.out.2.1;have:=HN.out;omega
    have HB1:=Lib.hid (show y1.heap[g]?=some (.cells (stC 13 (ndI f)) 270 (0,0)) from H1.out.1.get (i:=1) rfl)
    have HL:=Lib.hid (i_lay H1.out HOP.out f a (dat s) (ai+1) HV.out (by have:=HSS.out.2.2.1;unfold dat;omega) (by rw [HN.out];unfold dat;omega) HBI.out HBJ.out HC.out.1 (by have:=HSS.out.2.2.2.2.2;omega))
    rw [HN.out] at HL
    go_wp2_with (refine loadNd rfl _ rfl g rfl _ HB1.out ?_)
    refine HL.out.mono ?_
    clear HL
    rintro e w3 ⟨rfl,W,h3,hw,hl⟩
    have H3:=Lib.hid (h3.drop 1)
    clear h3
    go_wp2
    go_ret
    have e1:X.nd i 1=s:=by rw [HF.out];exact HSS.out.1
    have e2:dat S-dat s=0:=by rw [eS];omega
    have hwr:Wrote X W i a b:=by
      rw [←e1] at hw hl
      exact HO.out.laid HS.out HI.out (fun k _=>by rw [HF.out]) hw (by rw [e1,HN.out];omega) (by rw [HN.out];exact hl)
    refine ⟨rfl,W,[],H3.out,hwr,by rw [e2];rfl,?_,fun k hk=>?_⟩
    · rw [List.append_nil]
      exact HC.out.1.wr hw fun t ⟨k,hk,e⟩=>by rw [e];exact (HBI.out k hk).2.2
    · rw [eS] at hk
      have hn:=(HO.out.data HS.out hw fun t ⟨k,hk,e⟩=>by rw [e];exact (HBI.out k hk).1).2.2.1 i HI.out
      rw [hn,HF.out,List.append_nil]
      exact (HBI.out k hk).2.2
end
section
open Go.ChangeMaps Go.MapKept Go.RowKit
theorem own_frm {w w':World} {base:Nat} {e:TypeId} {size:Nat} {v:Value} {n:Nat} {xs:List Value} (h:w.ownsRow base e size v n xs) (hf:Frm NoB w w'):w'.ownsRow base e size v n xs:=by
  obtain ⟨h1,h | ⟨g,cap,cur,q1,q2,q3,q4⟩⟩:=h
  · exact ⟨h1,.inl h⟩
  · exact ⟨h1,.inr ⟨g,cap,cur,q1,q2,(hf.block g (lt_of_block q3) (fun x=>x.elim)).trans q3,q4⟩⟩
theorem own_app {w w' w'':World} {e:TypeId} {size:Nat} {v:Value} {n:Nat} {xs:List Value} (hf:Frm NoB w w') (h:w'.ownsRow w.heap.size e size v n xs) (hg:w'.grownBy w'' v.ownBlock):Frm NoB w w'':=
  hf.trans (Frm.ofGrown hg) fun x hx e=>by
    obtain ⟨_,h | ⟨g,cap,cur,q1,q2,_⟩⟩:=h
    · rw [h.1] at e;cases e
    · rw [q1] at e
      have e:g=x:=Option.some.inj e
      exact absurd hx (by omega)
theorem read_step {v:Nat→Blk} {f:Nat→Nat} {s en a d T:Nat} (hB:(v (f (2+(a+d)/512))).length=512) (hen:en≤s) (hd:a+d<en) (hT:T=min 512 ((a+d)%512+(en-(a+d)))):
    ((((List.range s).map (fb v f)).drop a).take (en-a)).take (d+(T-(a+d)%512))=((((List.range s).map (fb v f)).drop a).take (en-a)).take d++((v (f (2+(a+d)/512))).drop ((a+d)%512)).take (T-(a+d)%512):=by
  have hc: ∀j,j<en-a→((((List.range s).map (fb v f)).drop a).take (en-a))[j]?=some (fb v f (a+j)):=fun j hj=>by
    rw [List.getElem?_take,if_pos hj,List.getElem?_drop,List.getElem?_map,List.getElem?_range (by omega)]
    rfl
  have hl:((((List.range s).map (fb v f)).drop a).take (en-a)).length=en-a:=by simp;omega
  rw [List.take_add]
  congr 1
  apply List.ext_getElem?
  intro j
  rw [List.getElem?_take,List.getElem?_take]
  by_cases hj:j<T-(a+d)%512
  · rw [if_pos hj,if_pos hj,List.getElem?_drop,List.getElem?_drop,hc (d+j) (by omega)]
    unfold fb
    rw [show (a+(d+j))/512=(a+d)/512 by omega,show (a+(d+j))%512=(a+d)%512+j by omega,List.getD_eq_getElem?_getD,List.getElem?_eq_getElem (by rw [hB];omega)]
    rfl
  · rw [if_neg hj,if_neg hj]
end
section
open Go.ChangeMaps Go.MapKept Go.RowKit
variable {w0:Gnd} {w:World} {rs:List Res} {X:Sys}
set_option maxRecDepth 100000 in
theorem i_blockF (w:World) (sb:Nat) (f:Nat→Nat) (k:Nat) (hk:k<10):
    Calls Tryz.prog 213 #[.pointer (some ⟨sb,0,none⟩),.agg (stC 13 (ndI f)),.int .i64 k] w fun e w'=>e= .returned (.tuple #[.int .i64 (f (2+k)),.int .i64 0])∧Frm NoB w w':=by
  have HF:Hid (Frm NoB w (w.alloc (.cells (stC 13 (ndI f)) 270 (0,0)))):=Lib.hid ((Frm.refl NoB w).alloc _)
  have k0:(0:Int)≤(k:Int):=Int.natCast_nonneg _
  have k1:(k:Int)<10:=by omega
  have k2:(k:Int)<11:=by omega
  have d0:(w.alloc (.cells (stC 13 (ndI f)) 270 (0,0))).cell? ⟨w.heap.size,2+k,none⟩=some (.int .i64 (f (2+k))):=(cell_of_block (block_alloc_new w (.cells (stC 13 (ndI f)) 270 (0,0)))).trans (stC_get _ _ _ (by omega))
  obtain ⟨z,hz⟩: ∃z,f (2+k)=z:=⟨_,rfl⟩
  rw [hz] at d0
  have HZ:=Lib.hid hz
  clear hk hz
  go_enter Tryz.func213,Tryz.ntmps213
  go_wp2
  go_ret2
  exact ⟨by rw [HZ.out];rfl,HF.out⟩
set_option maxHeartbeats 1000000 in
set_option maxRecDepth 100000 in
theorem i_Read (h:At w0 w X rs) (ho:FsOk X) (i:Nat) (hi:X.live i) (a n en:Nat) (ha:a≤1000000) (hn:n≤1000000) (hen:en=if a<X.nd i 1∧n<X.nd i 1-a then a+n else X.nd i 1):
    Calls Tryz.prog 122 #[.pointer (some ⟨X.sb,0,none⟩),.int .i64 i,.int .i64 a,.int .i64 n] w fun e w'=> ∃v,e= .returned (.tuple #[v,.int .i64 0])∧((v= .slice none 0 0∧((X.bytes i).drop a).take (en-a)= []∧At w0 w' X rs)∨At w0 w' X (byt v (((X.bytes i).drop a).take (en-a))::rs)):=by
  obtain ⟨f,hf⟩: ∃f,X.nd i=f:=⟨_,rfl⟩
  obtain ⟨s,hs⟩: ∃s,f 1=s:=⟨_,rfl⟩
  have HCH:=Lib.hid (i_load h i hi.1 hi.2)
  have hs5:=ho.size i hi
  have HBI:Hid (∀k,k<dat s→245≤f (2+k)∧f (2+k)<X.n):=Lib.hid fun k hk=>by
    rw [←hs,←hf] at hk
    obtain ⟨c,q1,q2,_⟩:=ho.blk i k hi hk
    have q3:=h.ok.data q1
    rw [hf] at q2
    exact ⟨by omega,by omega⟩
  obtain ⟨cont,hcont⟩: ∃cont,((X.bytes i).drop a).take (en-a)=cont:=⟨_,rfl⟩
  have HCT:Hid (cont=(((List.range s).map (fb X.v f)).drop a).take (en-a)):=Lib.hid (by rw [←hcont];unfold Sys.bytes;rw [hf,hs])
  rw [hcont]
  rw [hf] at HCH hs5 hen
  rw [hs] at hs5 hen
  have HSS:=Lib.hid (And.intro hs hs5)
  have HEN:=Lib.hid hen
  have hens:en≤s:=by rw [hen];split<;>omega
  have s0:(0:Int)≤(s:Int):=Int.natCast_nonneg _
  have s1:(s:Int)≤5120:=by omega
  have a0:(0:Int)≤(a:Int):=Int.natCast_nonneg _
  have a1:(a:Int)≤1000000:=by omega
  have n0:(0:Int)≤(n:Int):=Int.natCast_nonneg _
  have n1:(n:Int)≤1000000:=by omega
  have m0:(0:Int)≤(en:Int):=Int.natCast_nonneg _
  have m1:(en:Int)≤(s:Int):=by omega
  clear h ho hi hs5 hen hs hf hcont
  go_enter Tryz.func122,Tryz.ntmps122
  go_wp2_with fail
  refine HCH.out.mono ?_
  clear HCH
  rintro e w2 ⟨rfl,h2⟩
  have HA:=Lib.hid (h2.newArr (stC 13 fun _=>0) 270 neNd)
  have HB0:=Lib.hid (show (w2.alloc (.cells (stC 13 fun _=>0) 270 (0,0))).heap[w2.heap.size]?=some (.cells (stC 13 fun _=>0) 270 (0,0)) from HA.out.1.get (i:=1) rfl)
  have HA2:=Lib.hid (HA.out.setRow 0 (c':=stC 13 (ndI f)) rfl)
  clear h2
  go_upto_region 2 with (first | (refine allocRow rfl _ _ zeroNd rfl ?_) | (refine storeNd rfl _ _ rfl w2.heap.size _ rfl rfl _ (stC_size _ _) HB0.out ?_))
  obtain ⟨y1,hy1,h1⟩:=HA2.out.name
  rw [hy1]
  have H1:Hid (At w0 y1 X (arr w2.heap.size (stC 13 (ndI f)) 270 neNd::rs)):=Lib.hid h1
  clear hy1 HA HA2 HB0 h1
  generalize w2.heap.size=g at*
  have d1:y1.cell? ⟨g,1,none⟩=some (.int .i64 s):=(H1.out.arrCell (i:=0) rfl 1).trans ((stC_get _ _ _ (by omega)).trans (by unfold ndI;rw [HSS.out.1]))
  by_cases c1:(a:Int)<(s:Int)
  · by_cases c2:(n:Int)<(s:Int)-(a:Int)
    · have een:(a:Int)+(n:Int)=(en:Int):=by have:=HEN.out;rw [if_pos (by omega)] at this;omega
      go_upto_region 9 with (fail)
      have HO:Hid (y1.ownsRow y1.heap.size 5 1 (.slice none 0 0) 0 ((cont.take 0).map B8)):=Lib.hid ⟨rfl,.inl ⟨rfl,rfl⟩⟩
      have HF0:=Lib.hid (Frm.refl NoB y1)
      clear d1 c1
      go_wp2_with fail
      go_loopw [2,13,14,15,16,17,18] (fun t2 t13 _ _ _ _ _ wr=> ∃(d:Nat) (v:Value),(a+d≤en∨d=0)∧t2= .int .i64 ((a+d:Nat):Int)∧v=t13∧Hid (Frm NoB y1 wr)∧Hid (wr.ownsRow y1.heap.size 5 1 v d ((cont.take d).map B8))) (fun t2 _ _ _ _ _ _ _=>en-(intOf t2).toNat)
      case atStart=>exact ⟨0,_,.inr rfl,rfl,rfl,HF0,HO⟩
      case round=>
        clear HO HF0
        obtain ⟨d,v,hd,rfl,rfl,HFR,HOW⟩:=hrel
        have d0:(0:Int)≤(d:Int):=Int.natCast_nonneg _
        by_cases hlt:a+d<en
        · have l1:(a:Int)+(d:Int)<(en:Int):=by omega
          have hst:=H1.out.frm HFR.out
          have HBG:=Lib.hid (show wr.heap[g]?=some (.cells (stC 13 (ndI f)) 270 (0,0)) from hst.1.get (i:=1) rfl)
          obtain ⟨k,hk⟩: ∃k,(a+d)/512=k:=⟨_,rfl⟩
          have ez:((a:Int)+d)/512=((k:Nat):Int):=by omega
          have hq:=HBI.out k (by rw [←hk];exact dat_lt (by omega))
          go_wp2_with (refine loadNd rfl _ rfl g rfl _ HBG.out ?_)
          rw [ez]
          refine (i_blockF wr X.sb f k (by omega)).mono ?_
          rintro e w3 ⟨rfl,hf3⟩
          obtain ⟨q,hqe⟩: ∃q,f (2+k)=q:=⟨_,rfl⟩
          rw [hqe] at hq ⊢
          have h3:=hst.frm hf3
          have c0:=h3.stCells.1
          have HRD:=Lib.hid (x_ReadF h3 q hq.1 hq.2)
          have hxl:=h3.ok.len q hq.1 hq.2
          have HF3:=Lib.hid (HFR.out.trans hf3 fun _ _ x=>x)
          have HO3:=Lib.hid (own_frm HOW.out hf3)
          clear h3 hst HBG HFR HOW hf3
          go_wp2_with fail
          refine HRD.out.mono ?_
          clear HRD c0
          rintro e w4 ⟨v4,rfl,hf4,hb4⟩
          obtain ⟨vb,vo,vcap,rfl,hcap,-,-⟩:=hb4.cells
          rw [hxl] at hcap hb4 ⊢
          have HF4:=Lib.hid (HF3.out.trans hf4 fun _ _ x=>x)
          have HO4:=Lib.hid (own_frm HO3.out hf4)
          obtain ⟨o,ho⟩: ∃o,(a+d)%512=o:=⟨_,rfl⟩
          obtain ⟨T,hT⟩: ∃T,min 512 ((a+d)%512+(en-(a+d)))=T:=⟨_,rfl⟩
          have ezo:((a:Int)+d)%512=((o:Nat):Int):=by omega
          go_upto_region 19 with (fail)
          have ho2:o<512:=by omega
          have ov:o<vcap:=by omega
          have eT:min (512:Int) ((o:Int)+(en:Int)-((a:Int)+(d:Int)))=(T:Int):=by omega
          rw [eT,ezo]
          obtain ⟨m,hm⟩: ∃m,T-o=m:=⟨_,rfl⟩
          have hbl:(((X.v q).drop o).take m).length=m:=by rw [List.length_take,List.length_drop,hxl];omega
          have HNW:=Lib.hid (hb4.part o m)
          have HST:=Lib.hid (read_step (v:=X.v) (f:=f) (s:=s) (en:=en) (a:=a) (d:=d) (T:=T) (by rw [hk,hqe];exact hxl) hens hlt hT.symm)
          rw [hk,hqe,ho,hm,←HCT.out] at HST
          have HM:=Lib.hid (And.intro ho (And.intro hT (And.intro hm (And.intro hlt hbl))))
          have t0:(o:Int)≤(T:Int):=by omega
          have t1:(T:Int)≤512:=by omega
          obtain ⟨i0,hi0,hz0,hz1,hz2⟩:=info_parts infoU8
          have hbase:y1.heap.size≤w4.heap.size:=HF4.out.size
          clear hb4 ho hT hbl hlt eT
          go_wp2_with (at_builtin;refine wpList_append_lies _ rfl _ _ 76 rfl y1.heap.size 5 i0 (.int .u8 0) 1 1 Tryz.underlying76 hi0 hz0 hz1 hz2 rfl (by decide) _ d _ rfl HO4.out _ _ _ ((((X.v q).drop o).take m).map B8) rfl ?a1 HNW.out ?a2 ?a3 ?a4 ?a5 hbase _ rfl ?_)
          case a1=>rw [List.length_map,HM.out.2.2.2.2,Nat.mul_one]
          case a2=>intro u hu;obtain ⟨x,_,rfl⟩:=List.mem_map.1 hu;rfl
          case a3=>have:=HM.out;omega
          case a4=>have:=HM.out;simp only [maxLen];omega
          case a5=>have:=HM.out;omega
          intro g5 cap5 w5 how hgr _ _
          have HF5:=Lib.hid (own_app HF4.out HO4.out hgr)
          have how:w5.ownsRow y1.heap.size 5 1 (.slice (some ⟨g5,0,none⟩) (d+m) cap5) (d+m) ((cont.take d).map B8++(((X.v q).drop o).take m).map B8):=by simpa using how
          rw [←List.map_append,←HST.out] at how
          have HO5:=Lib.hid how
          have HR:=Lib.hid (show (a+(d+m)≤en∨d+m=0)∧en-(a+(d+m))<en-(a+d) by have:=HM.out;omega)
          have hTm:(T:Int)-(o:Int)=(m:Int):=by omega
          clear how hgr HF4 HO4
          go_wp2
          exact ⟨⟨d+m,_,HR.out.1,by go_num,rfl,HF5,HO5⟩,by have:=HR.out;simp [intOf];omega⟩
        · have l1: ¬(a:Int)+(d:Int)<(en:Int):=by omega
          have hde:d=en-a:=by omega
          have hct:cont.take d=cont:=List.take_of_length_le (by rw [HCT.out,hde,List.length_take];omega)
          have hst:=H1.out.frm HFR.out
          have hfin:(v= .slice none 0 0∧cont= []∧At w0 wr X rs)∨At w0 wr X (byt v cont::rs):=by
            have ho:=HOW.out
            rw [hct] at ho
            have hlen:cont.length=d:=by have:=ho.1;rw [List.length_map] at this;omega
            rcases ho.2 with ⟨q1,q2⟩ | ⟨g',cap',cur',q1,_⟩
            · exact .inl ⟨q1,List.length_eq_zero_iff.1 (by omega),hst.drop 1⟩
            · rw [←hlen] at ho
              have hb:=BytesAt_of_owns ho (by rw [q1];intro x;cases x)
              exact .inr ((hst.mkByt (Frm.refl _ _) hb).sub (List.Sublist.cons_cons _ (List.Sublist.cons _ (List.Sublist.refl _))))
          have HFIN:=Lib.hid hfin
          clear hfin hst HOW HFR hct
          go_wp2
          go_ret2
          exact ⟨v,rfl,HFIN.out⟩
    · have een:s=en:=by have:=HEN.out;rw [if_neg (by omega)] at this;omega
      go_upto_region 9 with (fail)
      have HO:Hid (y1.ownsRow y1.heap.size 5 1 (.slice none 0 0) 0 ((cont.take 0).map B8)):=Lib.hid ⟨rfl,.inl ⟨rfl,rfl⟩⟩
      have HF0:=Lib.hid (Frm.refl NoB y1)
      clear d1 c1
      go_wp2_with fail
      go_loopw [2,13,14,15,16,17,18] (fun t2 t13 _ _ _ _ _ wr=> ∃(d:Nat) (v:Value),(a+d≤en∨d=0)∧t2= .int .i64 ((a+d:Nat):Int)∧v=t13∧Hid (Frm NoB y1 wr)∧Hid (wr.ownsRow y1.heap.size 5 1 v d ((cont.take d).map B8))) (fun t2 _ _ _ _ _ _ _=>en-(intOf t2).toNat)
      case atStart=>exact ⟨0,_,.inr rfl,rfl,rfl,HF0,HO⟩
      case round=>
        clear HO HF0
        obtain ⟨d,v,hd,rfl,rfl,HFR,HOW⟩:=hrel
        have d0:(0:Int)≤(d:Int):=Int.natCast_nonneg _
        by_cases hlt:a+d<en
        · have l1:(a:Int)+(d:Int)<(en:Int):=by omega
          have hst:=H1.out.frm HFR.out
          have HBG:=Lib.hid (show wr.heap[g]?=some (.cells (stC 13 (ndI f)) 270 (0,0)) from hst.1.get (i:=1) rfl)
          obtain ⟨k,hk⟩: ∃k,(a+d)/512=k:=⟨_,rfl⟩
          have ez:((a:Int)+d)/512=((k:Nat):Int):=by omega
          have hq:=HBI.out k (by rw [←hk];exact dat_lt (by omega))
          go_wp2_with (refine loadNd rfl _ rfl g rfl _ HBG.out ?_)
          rw [ez]
          refine (i_blockF wr X.sb f k (by omega)).mono ?_
          rintro e w3 ⟨rfl,hf3⟩
          obtain ⟨q,hqe⟩: ∃q,f (2+k)=q:=⟨_,rfl⟩
          rw [hqe] at hq ⊢
          have h3:=hst.frm hf3
          have c0:=h3.stCells.1
          have HRD:=Lib.hid (x_ReadF h3 q hq.1 hq.2)
          have hxl:=h3.ok.len q hq.1 hq.2
          have HF3:=Lib.hid (HFR.out.trans hf3 fun _ _ x=>x)
          have HO3:=Lib.hid (own_frm HOW.out hf3)
          clear h3 hst HBG HFR HOW hf3
          go_wp2_with fail
          refine HRD.out.mono ?_
          clear HRD c0
          rintro e w4 ⟨v4,rfl,hf4,hb4⟩
          obtain ⟨vb,vo,vcap,rfl,hcap,-,-⟩:=hb4.cells
          rw [hxl] at hcap hb4 ⊢
          have HF4:=Lib.hid (HF3.out.trans hf4 fun _ _ x=>x)
          have HO4:=Lib.hid (own_frm HO3.out hf4)
          obtain ⟨o,ho⟩: ∃o,(a+d)%512=o:=⟨_,rfl⟩
          obtain ⟨T,hT⟩: ∃T,min 512 ((a+d)%512+(en-(a+d)))=T:=⟨_,rfl⟩
          have ezo:((a:Int)+d)%512=((o:Nat):Int):=by omega
          go_upto_region 19 with (fail)
          have ho2:o<512:=by omega
          have ov:o<vcap:=by omega
          have eT:min (512:Int) ((o:Int)+(en:Int)-((a:Int)+(d:Int)))=(T:Int):=by omega
          rw [eT,ezo]
          obtain ⟨m,hm⟩: ∃m,T-o=m:=⟨_,rfl⟩
          have hbl:(((X.v q).drop o).take m).length=m:=by rw [List.length_take,List.length_drop,hxl];omega
          have HNW:=Lib.hid (hb4.part o m)
          have HST:=Lib.hid (read_step (v:=X.v) (f:=f) (s:=s) (en:=en) (a:=a) (d:=d) (T:=T) (by rw [hk,hqe];exact hxl) hens hlt hT.symm)
          rw [hk,hqe,ho,hm,←HCT.out] at HST
          have HM:=Lib.hid (And.intro ho (And.intro hT (And.intro hm (And.intro hlt hbl))))
          have t0:(o:Int)≤(T:Int):=by omega
          have t1:(T:Int)≤512:=by omega
          obtain ⟨i0,hi0,hz0,hz1,hz2⟩:=info_parts infoU8
          have hbase:y1.heap.size≤w4.heap.size:=HF4.out.size
          clear hb4 ho hT hbl hlt eT
          go_wp2_with (at_builtin;refine wpList_append_lies _ rfl _ _ 76 rfl y1.heap.size 5 i0 (.int .u8 0) 1 1 Tryz.underlying76 hi0 hz0 hz1 hz2 rfl (by decide) _ d _ rfl HO4.out _ _ _ ((((X.v q).drop o).take m).map B8) rfl ?a1 HNW.out ?a2 ?a3 ?a4 ?a5 hbase _ rfl ?_)
          case a1=>rw [List.length_map,HM.out.2.2.2.2,Nat.mul_one]
          case a2=>intro u hu;obtain ⟨x,_,rfl⟩:=List.mem_map.1 hu;rfl
          case a3=>have:=HM.out;omega
          case a4=>have:=HM.out;simp only [maxLen];omega
          case a5=>have:=HM.out;omega
          intro g5 cap5 w5 how hgr _ _
          have HF5:=Lib.hid (own_app HF4.out HO4.out hgr)
          have how:w5.ownsRow y1.heap.size 5 1 (.slice (some ⟨g5,0,none⟩) (d+m) cap5) (d+m) ((cont.take d).map B8++(((X.v q).drop o).take m).map B8):=by simpa using how
          rw [←List.map_append,←HST.out] at how
          have HO5:=Lib.hid how
          have HR:=Lib.hid (show (a+(d+m)≤en∨d+m=0)∧en-(a+(d+m))<en-(a+d) by have:=HM.out;omega)
          have hTm:(T:Int)-(o:Int)=(m:Int):=by omega
          clear how hgr HF4 HO4
          go_wp2
          exact ⟨⟨d+m,_,HR.out.1,by go_num,rfl,HF5,HO5⟩,by have:=HR.out;simp [intOf];omega⟩
        · have l1: ¬(a:Int)+(d:Int)<(en:Int):=by omega
          have hde:d=en-a:=by omega
          have hct:cont.take d=cont:=List.take_of_length_le (by rw [HCT.out,hde,List.length_take];omega)
          have hst:=H1.out.frm HFR.out
          have hfin:(v= .slice none 0 0∧cont= []∧At w0 wr X rs)∨At w0 wr X (byt v cont::rs):=by
            have ho:=HOW.out
            rw [hct] at ho
            have hlen:cont.length=d:=by have:=ho.1;rw [List.length_map] at this;omega
            rcases ho.2 with ⟨q1,q2⟩ | ⟨g',cap',cur',q1,_⟩
            · exact .inl ⟨q1,List.length_eq_zero_iff.1 (by omega),hst.drop 1⟩
            · rw [←hlen] at ho
              have hb:=BytesAt_of_owns ho (by rw [q1];intro x;cases x)
              exact .inr ((hst.mkByt (Frm.refl _ _) hb).sub (List.Sublist.cons_cons _ (List.Sublist.cons _ (List.Sublist.refl _))))
          have HFIN:=Lib.hid hfin
          clear hfin hst HOW HFR hct
          go_wp2
          go_ret2
          exact ⟨v,rfl,HFIN.out⟩
  · have een:s=en:=by have:=HEN.out;rw [if_neg (by omega)] at this;omega
    go_upto_region 9 with (fail)
    have HO:Hid (y1.ownsRow y1.heap.size 5 1 (.slice none 0 0) 0 ((cont.take 0).map B8)):=Lib.hid ⟨rfl,.inl ⟨rfl,rfl⟩⟩
    have HF0:=Lib.hid (Frm.refl NoB y1)
    have CE:Hid (¬a<en):=Lib.hid (by omega)
    clear d1 c1
    go_wp2_with fail
    go_loopw [2,13,14,15,16,17,18] (fun t2 t13 _ _ _ _ _ wr=> ∃(d:Nat) (v:Value),(a+d≤en∨d=0)∧t2= .int .i64 ((a+d:Nat):Int)∧v=t13∧Hid (Frm NoB y1 wr)∧Hid (wr.ownsRow y1.heap.size 5 1 v d ((cont.take d).map B8))) (fun t2 _ _ _ _ _ _ _=>en-(intOf t2).toNat)
    case atStart=>exact ⟨0,_,.inr rfl,rfl,rfl,HF0,HO⟩
    case round=>
      clear HO HF0
      obtain ⟨d,v,hd,rfl,rfl,HFR,HOW⟩:=hrel
      have d0:(0:Int)≤(d:Int):=Int.natCast_nonneg _
      by_cases hlt:a+d<en
      · exact absurd hlt (by have:=CE.out;omega)
      · have l1: ¬(a:Int)+(d:Int)<(en:Int):=by omega
        have hde:d=en-a:=by omega
        have hct:cont.take d=cont:=List.take_of_length_le (by rw [HCT.out,hde,List.length_take];omega)
        have hst:=H1.out.frm HFR.out
        have hfin:(v= .slice none 0 0∧cont= []∧At w0 wr X rs)∨At w0 wr X (byt v cont::rs):=by
          have ho:=HOW.out
          rw [hct] at ho
          have hlen:cont.length=d:=by have:=ho.1;rw [List.length_map] at this;omega
          rcases ho.2 with ⟨q1,q2⟩ | ⟨g',cap',cur',q1,_⟩
          · exact .inl ⟨q1,List.length_eq_zero_iff.1 (by omega),hst.drop 1⟩
          · rw [←hlen] at ho
            have hb:=BytesAt_of_owns ho (by rw [q1];intro x;cases x)
            exact .inr ((hst.mkByt (Frm.refl _ _) hb).sub (List.Sublist.cons_cons _ (List.Sublist.cons _ (List.Sublist.refl _))))
        have HFIN:=Lib.hid hfin
        clear hfin hst HOW HFR hct
        go_wp2
        go_ret2
        exact ⟨v,rfl,HFIN.out⟩
end
section
open Go.ChangeMaps Go.MapKept Go.RowKit
def newNd (kind:Nat):Nat→Nat:=fun j=>if j=0 then kind else 0
def Sys.made (X:Sys) (i kind:Nat):Sys:=(X.put X.P.im (setBit (X.v X.P.im) i true)).saved i (newNd kind)
theorem FsOk.made {X:Sys} (ho:FsOk X) (hX:SysOk X) {i kind:Nat} (hz:firstZ (X.v X.P.im) X.P.ni=some i) (hk:kind<4294967296):
    let W:=X.made i kind
    FsOk W∧(∀j,W.live j↔X.live j∨j=i)∧¬X.live i∧(∀j,X.live j→W.bytes j=X.bytes j∧∀m,m<13→W.nd j m=X.nd j m)∧W.nd i 0=kind∧W.nd i 1=0∧W.fb=X.fb∧Wr X W fun t=>t=X.P.im∨t=X.P.tb+i/8:=by
  intro W
  have h1:=hX.pl.im;have h2:=hX.pl.bm;have h3:=hX.pl.tb;have h4:=hX.pl.da
  obtain ⟨hi,hb⟩:=firstZ_some hz
  have hm:=hX.maps
  have hml:(X.v X.P.im).length=512:=hX.len _ hm.1 hm.2.1
  have hni:=hX.pl.ni.2
  have hPW:W.P=X.P:=rfl
  have hWv: ∀t,W.v t=if t=X.P.tb+i/8 then putNd (X.v (X.P.tb+i/8)) (i%8*64) (newNd kind) 13 else if t=X.P.im then setBit (X.v X.P.im) i true else X.v t:=fun t=>by
    have e0:(X.put X.P.im (setBit (X.v X.P.im) i true)).v (X.P.tb+i/8)=X.v (X.P.tb+i/8):=by rw [Sys.put_v,if_neg (by omega)]
    show (Sys.put (X.put X.P.im (setBit (X.v X.P.im) i true)) (X.P.tb+i/8) (putNd ((X.put X.P.im (setBit (X.v X.P.im) i true)).v (X.P.tb+i/8)) _ _ _)).v t=_
    rw [e0,Sys.put_v,Sys.put_v]
  have hWim:W.v X.P.im=setBit (X.v X.P.im) i true:=by rw [hWv,if_neg (by omega),if_pos rfl]
  have hWbm:W.v X.P.bm=X.v X.P.bm:=by rw [hWv,if_neg (by omega),if_neg (by omega)]
  have hWd: ∀t,X.P.da≤t→W.v t=X.v t:=fun t h=>by rw [hWv,if_neg (by omega),if_neg (by omega)]
  have hnl: ¬X.live i:=fun h=>by rw [h.2] at hb;cases hb
  have hlive: ∀j,W.live j↔X.live j∨j=i:=fun j=>by
    unfold Sys.live
    rw [hPW,hWim,bitAt_setBit _ _ _ (by rw [hml];omega)]
    by_cases e:j=i
    · rw [if_pos e,e];exact ⟨fun _=> .inr rfl,fun _=>⟨hi,rfl⟩⟩
    · rw [if_neg e];exact ⟨fun h=> .inl h,fun h=>h.elim id fun x=>absurd x e⟩
  have ht:=hX.tab hi
  have hlen:(X.v (X.P.tb+i/8)).length=512:=hX.len _ ht.1 ht.2.2
  have hWi: ∀m,m<13→W.nd i m=newNd kind m:=fun m hm=>by
    unfold Sys.nd ndAt
    rw [hPW,hWv,if_pos rfl]
    exact putNd_same _ _ _ 13 (by rw [hlen];omega) (fun j _=>by unfold newNd;split<;>omega) m hm
  have hWj: ∀j,X.live j→∀m,m<13→W.nd j m=X.nd j m:=fun j hj m hm=>by
    have hne:j≠i:=fun e=>hnl (e▸hj)
    have hj1:=hj.1
    unfold Sys.nd ndAt
    rw [hPW,hWv]
    by_cases e:j/8=i/8
    · rw [if_pos (by rw [e]),putNd_other _ _ _ _ _ 13 (by rw [hlen];omega) (by omega),←e]
    · rw [if_neg (by omega),if_neg (by omega)]
  have e1:W.nd i 1=0:=hWi 1 (by omega)
  have hd0:dat 0=0:=rfl
  have orig: ∀j k,W.live j→k<dat (W.nd j 1)→X.live j∧k<dat (X.nd j 1)∧W.nd j (2+k)=X.nd j (2+k):=fun j k hj hk=>by
    rcases (hlive j).1 hj with h | h
    · rw [hWj j h 1 (by omega)] at hk
      have:=dat_le (ho.size j h)
      exact ⟨h,hk,hWj j h (2+k) (by omega)⟩
    · rw [h,e1,hd0] at hk;omega
  refine ⟨⟨fun j hj=>?_,fun j k hj hk=>?_,fun j j' k m hj hj' hk hm e=>?_⟩,hlive,hnl,fun j hj=>⟨bytes_congr (hWj j hj) (ho.size j hj) fun k hk=>?_,hWj j hj⟩,hWi 0 (by omega),e1,?_,?_⟩
  · rcases (hlive j).1 hj with h | h
    · rw [hWj j h 1 (by omega)];exact ho.size j h
    · rw [h,e1];omega
  · obtain ⟨q1,q2,q3⟩:=orig j k hj hk
    rw [q3,hPW,hWbm]
    exact ho.blk j k q1 q2
  · obtain ⟨q1,q2,q3⟩:=orig j k hj hk
    obtain ⟨r1,r2,r3⟩:=orig j' m hj' hm
    rw [q3,r3] at e
    exact ho.inj j j' k m q1 r1 q2 r2 e
  · obtain ⟨b,_,q,_⟩:=ho.blk j k hj hk
    exact hWd _ (by omega)
  · unfold Sys.fb;rw [hPW,hWbm]
  · exact ((Wr.put X _ _).mono fun t e=> .inl e).trans ((Wr.put _ _ _).mono fun t e=> .inr e)
end
section
open Go.ChangeMaps Go.MapKept Go.RowKit
variable {w0:Gnd} {w:World} {rs:List Res} {X:Sys}
set_option maxRecDepth 100000 in
theorem i_Make (h:At w0 w X rs) (hop:X.op=true) (kind:Nat) (hk:kind=1∨kind=2) {i:Nat} (hz:firstZ (X.v X.P.im) X.P.ni=some i) {C:List Nat} (hC:Cov X C) (him:X.P.im∈C) (htb:X.P.tb+i/8∈C) (h60:C.length≤60):
    Calls Tryz.prog 119 #[.pointer (some ⟨X.sb,0,none⟩),.int .i64 kind] w fun e w'=>e= .returned (.tuple #[.int .i64 i,.int .i64 0])∧At w0 w' (X.made i kind) rs:=by
  have HR:=Lib.hid (i_Ready h)
  rw [hop] at HR
  have HT:=Lib.hid (a_TakeInode h hop hz (hC.room h.ok him h60))
  have c1:=h.stCells.2.1
  have HSV:Hid (∀y,At w0 y (X.put X.P.im (setBit (X.v X.P.im) i true)) rs→Calls Tryz.prog 184 #[.pointer (some ⟨X.sb,0,none⟩),.int .i64 i,.agg (stC 13 (ndI (newNd kind)))] y fun e w'=>e= .returned (.int .i64 0)∧At w0 w' (X.made i kind) rs):=Lib.hid fun y hy=>
    i_save hy hop i (firstZ_some hz).1 (newNd kind) (fun j _=>by unfold newNd;split<;>omega) ((hC.wr (Wr.put X _ _) (fun t e=>e▸him)).room hy.ok htb h60)
  clear h hop hz hC him htb h60
  rcases hk with rfl | rfl
  · have eA:(Value.agg (stC 13 (ndI (newNd 1))))= .agg #[.int .i64 1,.int .i64 0,.int .i64 0,.int .i64 0,.int .i64 0,.int .i64 0,.int .i64 0,.int .i64 0,.int .i64 0,.int .i64 0,.int .i64 0,.int .i64 0,.int .i64 0]:=rfl
    rw [eA] at HSV
    clear eA
    go_enter Tryz.func119,Tryz.ntmps119
    go_wp2_with fail
    refine HR.out.mono ?_
    rintro e w2 ⟨rfl,rfl⟩
    go_wp2_with fail
    refine HT.out.mono ?_
    rintro e w2 ⟨rfl,h2⟩
    have H2:=Lib.hid h2
    clear h2 HT c1 HR
    go_wp2_with fail
    refine (HSV.out _ H2.out).mono ?_
    rintro e w3 ⟨rfl,h3⟩
    have H3:=Lib.hid h3
    clear h3 H2
    go_wp2
    go_ret2
    exact ⟨rfl,H3.out⟩
  · have eA:(Value.agg (stC 13 (ndI (newNd 2))))= .agg #[.int .i64 2,.int .i64 0,.int .i64 0,.int .i64 0,.int .i64 0,.int .i64 0,.int .i64 0,.int .i64 0,.int .i64 0,.int .i64 0,.int .i64 0,.int .i64 0,.int .i64 0]:=rfl
    rw [eA] at HSV
    clear eA
    go_enter Tryz.func119,Tryz.ntmps119
    go_wp2_with fail
    refine HR.out.mono ?_
    rintro e w2 ⟨rfl,rfl⟩
    go_wp2_with fail
    refine HT.out.mono ?_
    rintro e w2 ⟨rfl,h2⟩
    have H2:=Lib.hid h2
    clear h2 HT c1 HR
    go_wp2_with fail
    refine (HSV.out _ H2.out).mono ?_
    rintro e w3 ⟨rfl,h3⟩
    have H3:=Lib.hid h3
    clear h3 H2
    go_wp2
    go_ret2
    exact ⟨rfl,H3.out⟩
end
section
open Go.ChangeMaps Go.MapKept Go.RowKit
structure Gave (X Y:Sys) (f f':Nat→Nat) (a k:Nat):Prop where
  ak:a≤k
  wr:Wr X Y (· =X.P.bm)
  same: ∀j,(j<2+a∨2+k≤j)→f' j=f j
  zero: ∀j,a≤j→j<k→f' (2+j)=0
  bits: ∀b,bitAt (Y.v X.P.bm) b=true↔(bitAt (X.v X.P.bm) b=true∧∀j,a≤j→j<k→f (2+j)≠X.P.da+b)
  free:Y.fb=X.fb+(k-a)
theorem Gave.refl (X:Sys) (f:Nat→Nat) (a:Nat):Gave X X f f a a:=
  ⟨Nat.le_refl _,Wr.refl _ _,fun _ _=>rfl,fun j h1 h2=>by omega,fun b=>⟨fun h=>⟨h,fun j h1 h2=>by omega⟩,fun h=>h.1⟩,by omega⟩
theorem Gave.step {X Y:Sys} {f f':Nat→Nat} {a k b:Nat} (h:Gave X Y f f' a k) (hY:SysOk Y) (hb:b<X.P.dc) (hf:f (2+k)=X.P.da+b) (hset:bitAt (Y.v X.P.bm) b=true):
    Gave X (Y.put Y.P.bm (setBit (Y.v Y.P.bm) b false)) f (setF f' (2+k) 0) a (k+1):=by
  have hP:Y.P=X.P:=h.wr.P
  have hm:=hY.maps
  have hl:(Y.v Y.P.bm).length=512:=hY.len _ hm.2.2.1 hm.2.2.2.1
  have hdc:Y.P.dc≤4096:=hY.pl.dc.2
  rw [hP] at hl hdc ⊢
  have hv:(Y.put X.P.bm (setBit (Y.v X.P.bm) b false)).v X.P.bm=setBit (Y.v X.P.bm) b false:=by rw [Sys.put_v,if_pos rfl]
  have hbit: ∀j,bitAt ((Y.put X.P.bm (setBit (Y.v X.P.bm) b false)).v X.P.bm) j=if j=b then false else bitAt (Y.v X.P.bm) j:=fun j=>by
    rw [hv];exact bitAt_setBit _ _ _ (by rw [hl];omega) j
  refine ⟨by have:=h.ak;omega,h.wr.trans (Wr.put Y _ _),fun j hj=>?_,fun j h1 h2=>?_,fun c=>?_,?_⟩
  · have e:setF f' (2+k) 0 j=f' j:=if_neg (by have:=h.ak;omega)
    rw [e]
    exact h.same j (by omega)
  · by_cases e:j=k
    · subst e;exact if_pos rfl
    · have e2:setF f' (2+k) 0 (2+j)=f' (2+j):=if_neg (by omega)
      rw [e2]
      exact h.zero j h1 (by omega)
  · rw [hbit]
    by_cases e:c=b
    · rw [if_pos e]
      exact ⟨fun x=>Bool.noConfusion x,fun x=>absurd (hf.trans (by rw [e])) (x.2 k h.ak (by omega))⟩
    · rw [if_neg e,h.bits c]
      refine ⟨fun x=>⟨x.1,fun j h1 h2=>?_⟩,fun x=>⟨x.1,fun j h1 h2=>x.2 j h1 (by omega)⟩⟩
      by_cases e2:j=k
      · rw [e2,hf];omega
      · exact x.2 j h1 (by omega)
  · have hf1:=h.free
    have e1:(Y.put X.P.bm (setBit (Y.v X.P.bm) b false)).P=X.P:=hP
    unfold Sys.fb at hf1 ⊢
    rw [e1,hv]
    rw [hP] at hf1
    have h2:=popc_set_off (b:=Y.v X.P.bm) hb (by rw [hl];omega) hset
    have h3:=popc_le (Y.v X.P.bm) X.P.dc
    have:=h.ak
    omega
end
end Go.Proofs.YtlemndledcmhiaaGreatDoor
