/-
  The catalog, from the device up, part 17.
-/
import Derived.Test.YtlemndledcmhiaaGreatDoorU16
namespace Go.Proofs.YtlemndledcmhiaaGreatDoor
set_option linter.unusedVariables false
set_option linter.unusedSimpArgs false
section
open Go.ChangeMaps Go.MapKept Go.RowKit
variable {w0:Gnd} {w:World} {rs:List Res} {X:Sys} {F:FH} {A:Path→Option Nd} {ι:Path→Nat}
set_option maxHeartbeats 1000000 in
set_option maxRecDepth 100000 in
theorem p_Settings (w:World) (c d e:Int) (f:Bool) (g:Int) (h1:512≤c∧c≤8192) (h2: -1≤d∧d≤1099511627776) (h3: -1≤e∧e≤1125899906842624) (h4:0≤g∧g≤1125899906842624):
    Calls Tryz.prog 41 #[.agg (stz c d e f g)] w fun r w'=>r= .returned (.bool true)∧Frm NoB w w':=by
  have hb0:=block_alloc_new w (.cells (stz c d e f g) 29 (0,0))
  have hf0:=(Frm.refl NoB w).alloc (.cells (stz c d e f g) 29 (0,0))
  obtain ⟨y,hy⟩: ∃y,w.alloc (.cells (stz c d e f g) 29 (0,0))=y:=⟨_,rfl⟩
  obtain ⟨k,hk⟩: ∃k,w.heap.size=k:=⟨_,rfl⟩
  rw [hy,hk] at hb0
  rw [hy] at hf0
  have c0:y.cell? ⟨k,0,none⟩=some (.int .i64 c):=(cell_of_block hb0).trans rfl
  have c1:y.cell? ⟨k,1,none⟩=some (.int .i64 d):=(cell_of_block hb0).trans rfl
  have c2:y.cell? ⟨k,2,none⟩=some (.int .i64 e):=(cell_of_block hb0).trans rfl
  have c4:y.cell? ⟨k,4,none⟩=some (.int .i64 g):=(cell_of_block hb0).trans rfl
  have HF:=Lib.hid hf0
  have HY:=Lib.hid (And.intro hy hk)
  obtain ⟨a1,a2⟩:=h1
  obtain ⟨b1,b2⟩:=h2
  obtain ⟨e1,e2⟩:=h3
  obtain ⟨g1,g2⟩:=h4
  clear hb0 hf0 hy hk
  go_enter Tryz.func41,Tryz.ntmps41
  go_upto_region 1 with fail
  rw [HY.out.1,HY.out.2]
  go_wp2_with fail
  go_ret
  exact ⟨rfl,HF.out⟩
end
section
open Go.ChangeMaps Go.MapKept Go.RowKit
structure Tx (F:FH) (X:Sys):Prop where
  b:F.begun=true
  o:F.over=false
  d:F.dead=false
  op:X.op=true
  ov:X.ov=false
theorem Tx.wr {F:FH} {X Y:Sys} (h:Tx F X) (e:Y=X.wr Y.l):Tx F Y:=⟨h.b,h.o,h.d,by rw [e];exact h.op,by rw [e];exact h.ov⟩
end
section
open Go.ChangeMaps Go.MapKept Go.RowKit
variable {w0:Gnd} {w:World} {rs:List Res} {X:Sys} {F:FH} {A:Path→Option Nd} {ι:Path→Nat}
set_option maxRecDepth 100000 in
theorem s_may0 (w:World):Calls Tryz.prog 155 #[.int .i64 0] w fun e w'=>w=w'∧e= .returned (.bool true):=by
  go_enter Tryz.func155,Tryz.ntmps155
  go_wp2_with fail
  go_ret
  exact ⟨rfl,rfl⟩
set_option maxRecDepth 100000 in
theorem s_Make (h:Fs w0 w F X A ι rs) (ht:Tx F X) {p:Path} {n:Nat} {s:ByteArray} {C:List Nat} (hm:MayMake X A ι C p s n):
    Calls Tryz.prog 85 #[.pointer (some ⟨F.fb,0,none⟩),.string (pathB (p++ [s])),.int .i64 0] w fun e w'=> ∃sb,e= .returned (.tuple #[.pointer (some ⟨sb,0,none⟩),.int .i64 0])∧∃X' A' ι' C',Fs w0 w' F X' A' ι' rs∧Mk X X' A ι A' ι' C C' p s (.file []) n:=by
  have HC:=Lib.hid (f_Create_in h ht.b ht.o ht.d ht.op ht.ov hm)
  clear h ht hm
  generalize pathB (p++ [s])=path at*
  go_enter Tryz.func85,Tryz.ntmps85
  go_wp2_with fail
  refine (s_may0 _).mono ?_
  rintro e w1 ⟨rfl,rfl⟩
  go_wp2_with fail
  refine HC.out.mono ?_
  clear HC
  rintro e w2 ⟨rfl,X',A',ι',C',h2,hk⟩
  have H2:=Lib.hid (And.intro h2 hk)
  clear h2 hk
  go_wp2
  go_ret2
  exact ⟨_,rfl,X',A',ι',C',H2.out.1.frm ((Frm.refl NoB w2).alloc _),H2.out.2⟩
set_option maxRecDepth 100000 in
theorem pr_Make (h:Fs w0 w F X A ι rs) (ht:Tx F X) {p:Path} {n:Nat} {s:ByteArray} {C:List Nat} (hm:MayMake X A ι C p s n):
    Calls Tryz.prog 106 #[.pointer (some ⟨F.fb,0,none⟩),.string (pathB (p++ [s]))] w fun e w'=>e= .returned (.int .i64 0)∧∃X' A' ι' C',Fs w0 w' F X' A' ι' rs∧Mk X X' A ι A' ι' C C' p s (.file []) n:=by
  have HC:=Lib.hid (f_Create_in h ht.b ht.o ht.d ht.op ht.ov hm)
  clear h ht hm
  generalize pathB (p++ [s])=path at*
  go_enter Tryz.func106,Tryz.ntmps106
  go_wp2_with fail
  refine HC.out.mono ?_
  clear HC
  rintro e w2 ⟨rfl,X',A',ι',C',h2,hk⟩
  have H2:=Lib.hid (And.intro h2 hk)
  clear h2 hk
  go_wp2
  go_ret
  exact ⟨rfl,X',A',ι',C',H2.out⟩
theorem segN_ok:NameOk segN:=nameOk_of _ (by decide) (by decide) (by decide)
structure PartA (X X':Sys) (A:Path→Option Nd) (ι:Path→Nat) (A':Path→Option Nd) (ι':Path→Nat) (C C':List Nat) (d:ByteArray) (n:Nat):Prop where
  tree: ∃S i1 i2,A'=addT (addT A [cN] d (.dir 0) S) [cN,d] segN (.file []) 64∧ι'=addI (addI ι [cN] d i1) [cN,d] segN i2∧(S=n∨S=n+64)∧HeldC X' C' i1∧X'.fb+(dat S-dat n)+1=X.fb∧C'.length≤C.length+3+(dat S-dat n)
  goes:Goes X X' C C'
  fi:X'.fi+2=X.fi
set_option maxHeartbeats 1000000 in
set_option maxRecDepth 100000 in
theorem p_Make1 (h:Fs w0 w F X A ι rs) (ht:Tx F X) {d:ByteArray} {i j bf bd n:Nat} {C:List Nat} (hf:rs[i]?=some (arr bf #[.pointer (some ⟨F.fb,0,none⟩)] 24 neFSp)) (hdr:rs[j]?=some (arr bd #[.string (pathB [cN,d])] 9 neStr)) (hds:(pathB [cN,d]).size≤60)
    (hm:MayMake X A ι C [cN] d n) (hno: ∀s,A [cN,d,s]=none) (hfi:2≤X.fi) (hfb:dat (n+64)-dat n+1≤X.fb) (hroom:C.length+4+(dat (n+64)-dat n)≤60):
    Calls Tryz.prog 195 #[.pointer (some ⟨bf,0,none⟩),.pointer (some ⟨bd,0,none⟩)] w fun e w'=>e= .returned (.int .i64 0)∧∃X' A' ι' C',Fs w0 w' F X' A' ι' rs∧PartA X X' A ι A' ι' C C' d n:=by
  have HM:=Lib.hid (f_Mkdir_in h ht.b ht.o ht.d ht.op ht.ov hm)
  have c0:w.cell? ⟨bf,0,none⟩=some (.pointer (some ⟨F.fb,0,none⟩)):=(h.arrCell hf 0).trans rfl
  have c1:w.cell? ⟨bd,0,none⟩=some (.string (pathB [cN,d])):=(h.arrCell hdr 0).trans rfl
  have HH:=Lib.hid (And.intro hf hdr)
  have HQ:=Lib.hid (And.intro ht (And.intro hm (And.intro hno (And.intro hfi (And.intro hfb hroom)))))
  have hp1:pathB ([cN]++ [d])=pathB [cN,d]:=rfl
  rw [hp1] at HM
  have KP:Hid (∀W,Calls Tryz.prog 76 #[.string (pathB [cN,d]),.int .i64 0] W fun e w'=>e= .returned (.string (pathB [cN,d,segN]))∧Frm NoB W w'):=Lib.hid fun W=>by
    have:=p_path W (pathB [cN,d]) (by omega)
    have e:pathB [cN,d]++⟨#[47]⟩++segN=pathB ([cN,d]++ [segN]):=by
      have e1:(pathB [cN,d]++⟨#[47]⟩++segN)=pathB [cN,d]++(⟨#[47]⟩++segN):=ByteArray.append_assoc
      rw [e1]
      exact path_add [cN,d] segN _ rfl
    rw [e] at this
    exact this
  obtain ⟨dir,hdir⟩: ∃dir,pathB [cN,d]=dir:=⟨_,rfl⟩
  rw [hdir] at HM c1 KP
  have HDIR:=Lib.hid hdir
  clear h ht hf hdr hds hm hno hfi hfb hroom hp1 hdir
  go_enter Tryz.func195,Tryz.ntmps195
  go_wp2_with fail
  refine HM.out.mono ?_
  clear HM c0 c1
  rintro e w1 ⟨rfl,X1,A1,ι1,C1,h1,hk1⟩
  obtain ⟨S1,i1,rfl,rfl,hS,hS0,hh1,hfb1,hC1⟩:=hk1.tree
  have hdm:dat S1-dat n≤dat (n+64)-dat n:=by rcases hS with rfl | rfl<;>omega
  have hX1:=hk1.goes.wr
  have hnd: ¬ [cN]= [cN]++ [d]:=by simp
  have hA1:addT A [cN] d (.dir 0) S1 [cN,d]=some (.dir 0):=if_pos (show [cN,d]= [cN]++ [d] from rfl)
  have hi1:addI ι [cN] d i1 [cN,d]=i1:=if_pos (show [cN,d]= [cN]++ [d] from rfl)
  have hlv:X1.live i1:=hi1▸(h1.2.live [cN,d] (.dir 0) hA1).1
  have hN1:addT A [cN] d (.dir 0) S1 [cN,d,segN]=none:=by unfold addT;rw [if_neg (by simp),if_neg (by simp)];exact HQ.out.2.2.1 segN
  have hm2:MayMake X1 (addT A [cN] d (.dir 0) S1) (addI ι [cN] d i1) C1 [cN,d] segN 0:=⟨hA1,fun x hx=>by
      rcases List.mem_append.1 hx with h | h
      · exact HQ.out.2.1.names x h
      · have:x=segN:=by simpa using h
        rw [this];exact segN_ok,by simp,hN1,by omega,by have:=hk1.fi;have:=HQ.out.2.2.2.1;omega,by rw [dat64];have:=HQ.out.2.2.2.2.1;omega,hk1.goes.cov,
    hk1.goes.sub _ (by rw [hX1];exact HQ.out.2.1.im),hk1.goes.sub _ (by rw [hX1];exact HQ.out.2.1.bm),by rw [hi1];exact hh1,by rw [dat64];have:=HQ.out.2.2.2.2.2;omega⟩
  have ht1:=HQ.out.1.wr hX1
  have KS:Hid (∀y,Fs w0 y F X1 (addT A [cN] d (.dir 0) S1) (addI ι [cN] d i1) rs→Calls Tryz.prog 85 #[.pointer (some ⟨F.fb,0,none⟩),.string (pathB [cN,d,segN]),.int .i64 0] y fun e w'=> ∃sb,e= .returned (.tuple #[.pointer (some ⟨sb,0,none⟩),.int .i64 0])∧∃X' A' ι' C',Fs w0 w' F X' A' ι' rs∧Mk X1 X' (addT A [cN] d (.dir 0) S1) (addI ι [cN] d i1) A' ι' C1 C' [cN,d] segN (.file []) 0):=Lib.hid fun y hy=>s_Make hy ht1 hm2
  have KC:Hid (∀y Y B κ,Fs w0 y F Y B κ rs→y.cell? ⟨bf,0,none⟩=some (.pointer (some ⟨F.fb,0,none⟩))∧y.cell? ⟨bd,0,none⟩=some (.string dir)):=Lib.hid fun y Y B κ hy=>
    ⟨(hy.arrCell HH.out.1 0).trans rfl,(hy.arrCell HH.out.2 0).trans (by rw [←HDIR.out];rfl)⟩
  have HK1:=Lib.hid (And.intro hk1 (And.intro hS (And.intro hh1 (And.intro hfb1 (And.intro hC1 hlv)))))
  have H1:=Lib.hid h1
  have H1d:=Lib.hid (h1.frm (Frm.refl NoB w1).drew)
  obtain ⟨k1,k2⟩:=KC.out _ _ _ _ h1
  clear h1 hk1 hS hS0 hh1 hfb1 hC1 hdm hX1 hnd hA1 hi1 hN1 hm2 ht1 hlv
  go_upto_region 4 with fail
  go_region_held3 (fun y=>y.cell? ⟨bf,0,none⟩=some (.pointer (some ⟨F.fb,0,none⟩))∧y.cell? ⟨bd,0,none⟩=some (.string dir))
    (first | exact KC.out _ _ _ _ H1.out | exact KC.out _ _ _ _ H1d.out | exact KC.out _ _ _ _ (H1d.out.frm hf4) | exact KC.out _ _ _ _ h5)
    (first
      | (go_at_call 76;(with_reducible refine (KP.out _).mono ?_);rintro e w4 ⟨rfl,hf4⟩)
      | (go_at_call 85;(with_reducible refine (KS.out _ (H1d.out.frm hf4)).mono ?_);rintro e w5 ⟨sb,rfl,X2,A2,ι2,C2,h5,hk2⟩))
  have H5:=Lib.hid (And.intro h5 hk2)
  clear h5 hk2 hf4 KS KP KC k1 k2
  go_wp2
  go_ret
  obtain ⟨S2,i2,e1,e2,-,hS2,hh2,hfb2,hC2⟩:=H5.out.2.tree
  obtain rfl:=hS2 rfl
  have d64:dat 64-dat 0=1:=by decide
  rw [d64] at hfb2 hC2
  have g2:=H5.out.2.goes
  refine ⟨rfl,X2,A2,ι2,C2,H5.out.1,⟨S1,i1,i2,e1,e2,HK1.out.2.1,?_,?_,?_⟩,HK1.out.1.goes.trans g2,?_⟩
  · exact g2.held i1 HK1.out.2.2.2.2.2 HK1.out.2.2.1
  · have:=HK1.out.2.2.2.1;omega
  · have:=HK1.out.2.2.2.2.1;omega
  · have a1:=HK1.out.1.fi;have a2:=H5.out.2.fi;omega
theorem entPMake1:EntersF Tryz.prog 195:=entersF_of Tryz.func195 (by kernel_rfl) rfl
set_option maxHeartbeats 1000000 in
set_option maxRecDepth 100000 in
theorem p_Make (h:Fs w0 w F X A ι rs) (ht:Tx F X) {d:ByteArray} {n:Nat} {C:List Nat} (hds:(pathB [cN,d]).size≤60)
    (hm:MayMake X A ι C [cN] d n) (hno: ∀s,A [cN,d,s]=none) (hfi:2≤X.fi) (hfb:dat (n+64)-dat n+1≤X.fb) (hroom:C.length+4+(dat (n+64)-dat n)≤60)
    (c e g:Int) (f:Bool) (k:Int) (h1:512≤c∧c≤8192) (h2: -1≤e∧e≤1099511627776) (h3: -1≤g∧g≤1125899906842624) (h4:0≤k∧k≤1125899906842624):
    Calls Tryz.prog 105 #[.pointer (some ⟨F.fb,0,none⟩),.string (pathB [cN,d]),.agg (stz c e g f k)] w fun r w'=>r= .returned (.int .i64 0)∧∃X' A' ι' C',Fs w0 w' F X' A' ι' rs∧PartA X X' A ι A' ι' C C' d n:=by
  have hh1:=((h.newArr #[.pointer (some ⟨F.fb,0,none⟩)] 24 neFSp).newArr #[.string (pathB [cN,d])] 9 neStr).newArr (stz c e g f k) 29 neSet
  have hmf: ∀(fn:Fn) (first cap:Array Value) (W:World),(Instr.makeFunc fn first cap).run Tryz.prog W= .ok (.func fn first cap) W:=fun _ _ _ _=>rfl
  have KT:Hid (∀y b1 b2 s,Fs w0 y F X A ι (s::arr b2 #[.string (pathB [cN,d])] 9 neStr::arr b1 #[.pointer (some ⟨F.fb,0,none⟩)] 24 neFSp::rs)→Calls Tryz.prog 80 #[.pointer (some ⟨F.fb,0,none⟩),.func (.func 195) #[] #[.pointer (some ⟨b1,0,none⟩),.pointer (some ⟨b2,0,none⟩)]] y fun e w'=>e= .returned (.int .i64 0)∧∃X' A' ι' C',Fs w0 w' F X' A' ι' (s::arr b2 #[.string (pathB [cN,d])] 9 neStr::arr b1 #[.pointer (some ⟨F.fb,0,none⟩)] 24 neFSp::rs)∧PartA X X' A ι A' ι' C C' d n):=Lib.hid fun y b1 b2 s hy=>
    f_Together_in hy ht.b ht.o ht.d 195 _ entPMake1 (fun z hz=>p_Make1 hz ht (i:=2) (j:=1) rfl rfl hds hm hno hfi hfb hroom)
  simp only [size_alloc] at hh1
  obtain ⟨y,hy⟩: ∃y,((w.alloc (.cells #[.pointer (some ⟨F.fb,0,none⟩)] 24 (0,0))).alloc (.cells #[.string (pathB [cN,d])] 9 (0,0))).alloc (.cells (stz c e g f k) 29 (0,0))=y:=⟨_,rfl⟩
  obtain ⟨b1,hb1⟩: ∃b1,w.heap.size=b1:=⟨_,rfl⟩
  rw [hy,hb1] at hh1
  obtain ⟨b2,hb2⟩: ∃b2,b1+1=b2:=⟨_,rfl⟩
  rw [hb2] at hh1
  obtain ⟨b3,hb3⟩: ∃b3,b2+1=b3:=⟨_,rfl⟩
  rw [hb3] at hh1
  have HS:=Lib.hid (p_Settings y c e g f k h1 h2 h3 h4)
  have c0:y.cell? ⟨b1,0,none⟩=some (.pointer (some ⟨F.fb,0,none⟩)):=(hh1.arrCell (i:=2) rfl 0).trans rfl
  have s0:y.cell? ⟨b3,0,none⟩=some (.int .i64 c):=(hh1.arrCell (i:=0) rfl 0).trans rfl
  have s1:y.cell? ⟨b3,1,none⟩=some (.int .i64 e):=(hh1.arrCell (i:=0) rfl 1).trans rfl
  have s2:y.cell? ⟨b3,2,none⟩=some (.int .i64 g):=(hh1.arrCell (i:=0) rfl 2).trans rfl
  have s3:y.cell? ⟨b3,3,none⟩=some (.bool f):=(hh1.arrCell (i:=0) rfl 3).trans rfl
  have s4:y.cell? ⟨b3,4,none⟩=some (.int .i64 k):=(hh1.arrCell (i:=0) rfl 4).trans rfl
  have HB:=Lib.hid hh1
  have HY:=Lib.hid (And.intro hy (And.intro hb1 (And.intro hb2 hb3)))
  clear h ht hds hm hno hfi hfb hroom h1 h2 h3 h4 hh1 hy hb1 hb2 hb3
  generalize pathB [cN,d]=dir at*
  go_enter Tryz.func105,Tryz.ntmps105
  go_upto_region 1 with fail
  rw [HY.out.1,HY.out.2.1,HY.out.2.2.1,HY.out.2.2.2]
  clear HY
  go_wp2_with fail
  refine HS.out.mono ?_
  clear HS s0 s1 s2 s3 s4
  rintro r w2 ⟨rfl,hf2⟩
  have hb2:=HB.out.frm hf2
  have c2:w2.cell? ⟨b1,0,none⟩=some (.pointer (some ⟨F.fb,0,none⟩)):=(hb2.arrCell (i:=2) rfl 0).trans rfl
  have HT:=Lib.hid (KT.out w2 b1 b2 _ hb2)
  clear hb2 hf2 c0 KT HB
  go_wp2_with fail
  refine HT.out.mono ?_
  clear HT c2
  rintro r w3 ⟨rfl,X',A',ι',C',h3,hp⟩
  have H3:=Lib.hid (And.intro (h3.drop 3) hp)
  clear h3 hp
  go_wp2
  go_ret
  exact ⟨rfl,X',A',ι',C',H3.out.1,H3.out.2⟩
end
section
open Go.ChangeMaps Go.MapKept Go.RowKit
def prodN:ByteArray:=⟨#[112,114,111,100,117,99,101,114,115]⟩
theorem prodN_ok:NameOk prodN:=nameOk_of _ (by decide) (by decide) (by decide)
theorem part_bytes: ∀id,id<100→∀p,p<10→(1≤(partN id p).size∧(partN id p).size≤50)∧(partN id p).data.toList.all (fun b=>decide (b.toNat<128) && decide (b≠47) && decide (b≠0))=true∧(partN id p).data.toList≠ [46]∧(partN id p).data.toList≠ [46,46]∧(partN id p).size≤5:=by decide+kernel
theorem partN_ok {id p:Nat} (hid:id<100) (hp:p<10):NameOk (partN id p):=
  have h:=part_bytes id hid p hp
  nameOk_of _ h.1 h.2.1 ⟨h.2.2.1,h.2.2.2.1⟩
theorem dec_inj: ∀p,p<10→∀q,q<10→Lib.decDigits p=Lib.decDigits q→p=q:=by decide+kernel
theorem partN_inj {id p q:Nat} (hp:p<10) (hq:q<10) (h:partN id p=partN id q):p=q:=by
  unfold partN at h
  have h1:=congrArg (fun b:ByteArray=>b.data.toList) h
  simp only [List.cons.injEq,true_and] at h1
  have h2:=List.append_cancel_left h1
  rw [List.cons.injEq] at h2
  exact dec_inj p hp q hq h2.2
structure NewD (A:Path→Option Nd) (d:ByteArray):Prop where
  dir: ∃m,A [cN,d]=some (.dir m)
  seg:A [cN,d,segN]=some (.file [])
  prod:A [cN,d,prodN]=some (.file [])
structure Fold (X X':Sys) (A:Path→Option Nd) (ι:Path→Nat) (A':Path→Option Nd) (ι':Path→Nat) (C C':List Nat) (id n n' q:Nat):Prop where
  goes:Goes X X' C C'
  c:A' [cN]=some (.dir n')
  ic:ι' [cN]=ι [cN]
  n1:n≤n'∧n'≤n+64*q
  keep: ∀p,A p≠none→p≠ [cN]→A' p=A p∧ι' p=ι p
  only: ∀p,A' p≠none→A p≠none∨∃j,j<q∧(p= [cN,partN id j]∨p= [cN,partN id j,segN]∨p= [cN,partN id j,prodN])
  new: ∀j,j<q→NewD A' (partN id j)
  fi:X'.fi+3*q=X.fi
  fb:X'.fb+dat n'+q=X.fb+dat n
  len:C'.length+dat n≤C.length+4*q+dat n'
theorem Fold.kids {X X':Sys} {A A':Path→Option Nd} {ι ι':Path→Nat} {C C':List Nat} {id n n' q:Nat} (h:Fold X X' A ι A' ι' C C' id n n' q) (s:ByteArray) (hs:A' [cN,s]≠none):A [cN,s]≠none∨∃j,j<q∧s=partN id j:=by
  rcases h.only _ hs with h1 | ⟨j,hj,h1 | h1 | h1⟩
  · exact .inl h1
  · exact .inr ⟨j,hj,by simpa using h1⟩
  · simp at h1
  · simp at h1
theorem Fold.refl {X:Sys} {A:Path→Option Nd} {ι:Path→Nat} {C:List Nat} (hC:Cov X C) (id:Nat) {n:Nat} (hc:A [cN]=some (.dir n)):Fold X X A ι A ι C C id n n 0:=
  ⟨Goes.refl hC,hc,rfl,⟨Nat.le_refl _,by omega⟩,fun p _ _=>⟨rfl,rfl⟩,fun p h=> .inl h,fun j hj=>absurd hj (Nat.not_lt_zero _),by omega,by omega,by omega⟩
theorem Fold.step {X X1 X2 X3:Sys} {A A1 A2 A3:Path→Option Nd} {ι ι1 ι2 ι3:Path→Nat} {C C1 C2 C3:List Nat} {id n n1 q:Nat} (h:Fold X X1 A ι A1 ι1 C C1 id n n1 q) (hno:A1 [cN,partN id q]=none) (hks: ∀s,A1 [cN,partN id q,s]=none)
    (hp:PartA X1 X2 A1 ι1 A2 ι2 C1 C2 (partN id q) n1) (hk:Mk X2 X3 A2 ι2 A3 ι3 C2 C3 [cN,partN id q] prodN (.file []) 64): ∃n',Fold X X3 A ι A3 ι3 C C3 id n n' (q+1):=by
  obtain ⟨S,i1,i2,rfl,rfl,hS,hh,hfb,hlen⟩:=hp.tree
  obtain ⟨S3,i3,rfl,rfl,hS3,-,-,hfb3,hlen3⟩:=hk.tree
  have hd:dat S3-dat 64=0:=by rcases hS3 with rfl | rfl<;>decide
  rw [hd] at hfb3 hlen3
  have hg3:=(h.goes.trans hp.goes).trans hk.goes
  have hnS:n1≤S:=by rcases hS with rfl | rfl<;>omega
  have hdn:dat n1≤dat S:=dat_mono hnS
  have hsp:segN≠prodN:=by decide
  have hq: ∀p,addT (addT (addT A1 [cN] (partN id q) (.dir 0) S) [cN,partN id q] segN (.file []) 64) [cN,partN id q] prodN (.file []) S3 p=if p= [cN,partN id q,prodN] then some (.file []) else if p= [cN,partN id q] then some (.dir S3) else if p= [cN,partN id q,segN] then some (.file []) else if p= [cN] then some (.dir S) else A1 p:=fun p=>by
    unfold addT
    show (if p= [cN,partN id q,prodN] then _ else if p= [cN,partN id q] then _ else if p= [cN,partN id q,segN] then _ else if p= [cN,partN id q] then _ else if p= [cN,partN id q] then _ else if p= [cN] then _ else _)=_
    by_cases e:p= [cN,partN id q]
    · rw [if_pos e,if_pos e]
    · rw [if_neg e,if_neg e,if_neg e,if_neg e]
  have hqi: ∀p,addI (addI (addI ι1 [cN] (partN id q) i1) [cN,partN id q] segN i2) [cN,partN id q] prodN i3 p=if p= [cN,partN id q,prodN] then i3 else if p= [cN,partN id q,segN] then i2 else if p= [cN,partN id q] then i1 else ι1 p:=fun p=>rfl
  refine ⟨S,hg3,?_,?_,⟨by have:=h.n1;omega,by have:=h.n1;rcases hS with rfl | rfl<;>omega⟩,fun p hs hc=>?_,fun p hs=>?_,fun j hj=>?_,?_,?_,?_⟩
  · rw [hq,if_neg (by simp),if_neg (by simp),if_neg (by simp),if_pos rfl]
  · rw [←h.ic,hqi,if_neg (by simp),if_neg (by simp),if_neg (by simp)]
  · obtain ⟨k1,k2⟩:=h.keep p hs hc
    have hA1:A1 p≠none:=by rw [k1];exact hs
    have n1:p≠ [cN,partN id q]:=fun e=>hA1 (by rw [e];exact hno)
    have n2:p≠ [cN,partN id q,prodN]:=fun e=>hA1 (by rw [e];exact hks _)
    have n3:p≠ [cN,partN id q,segN]:=fun e=>hA1 (by rw [e];exact hks _)
    rw [hq,hqi,if_neg n2,if_neg n1,if_neg n3,if_neg hc,if_neg n2,if_neg n3,if_neg n1]
    exact ⟨k1,k2⟩
  · rw [hq] at hs
    by_cases n2:p= [cN,partN id q,prodN]
    · exact .inr ⟨q,by omega,.inr (.inr n2)⟩
    · rw [if_neg n2] at hs
      by_cases n1:p= [cN,partN id q]
      · exact .inr ⟨q,by omega,.inl n1⟩
      · rw [if_neg n1] at hs
        by_cases n3:p= [cN,partN id q,segN]
        · exact .inr ⟨q,by omega,.inr (.inl n3)⟩
        · rw [if_neg n3] at hs
          have hA1:A1 p≠none:=by
            by_cases e:p= [cN]
            · rw [e,h.c];simp
            · rw [if_neg e] at hs;exact hs
          rcases h.only p hA1 with h1 | ⟨j,hj,h1⟩
          · exact .inl h1
          · exact .inr ⟨j,by omega,h1⟩
  · by_cases e:j=q
    · subst e
      refine ⟨⟨S3,?_⟩,?_,?_⟩
      · rw [hq,if_neg (by simp),if_pos rfl]
      · rw [hq,if_neg (by simp [hsp]),if_neg (by simp),if_pos rfl]
      · rw [hq,if_pos rfl]
    · obtain ⟨⟨m,a1⟩,a2,a3⟩:=h.new j (by omega)
      have hne:partN id j≠partN id q:=fun e=>by rw [e,hno] at a1;cases a1
      refine ⟨⟨m,?_⟩,?_,?_⟩
      · rw [hq,if_neg (by simp),if_neg (by simp [hne]),if_neg (by simp),if_neg (by simp)];exact a1
      · rw [hq,if_neg (by simp [hne]),if_neg (by simp),if_neg (by simp [hne]),if_neg (by simp)];exact a2
      · rw [hq,if_neg (by simp [hne]),if_neg (by simp),if_neg (by simp [hne]),if_neg (by simp)];exact a3
  · have a1:=h.fi;have a2:=hp.fi;have a3:=hk.fi;omega
  · have a1:=h.fb;omega
  · have a1:=h.len;omega
structure MayFold (X:Sys) (A:Path→Option Nd) (ι:Path→Nat) (C:List Nat) (id n P:Nat):Prop where
  c:A [cN]=some (.dir n)
  idl:id<100
  Pl:1≤P∧P≤8
  no: ∀q,q<P→A [cN,partN id q]=none
  size:n+64*P≤5120
  fi:3*P≤X.fi
  fb:P+(dat (n+64*P)-dat n)≤X.fb
  cov:Cov X C
  im:X.P.im∈C
  bm:X.P.bm∈C
  held:HeldC X C (ι [cN])
  room:C.length+4*P+(dat (n+64*P)-dat n)≤60
theorem MayFold.part {X X1:Sys} {A A1:Path→Option Nd} {ι ι1:Path→Nat} {C C1:List Nat} {id n n1 P q:Nat} (h:MayFold X A ι C id n P) (hr:Rep X A ι) (f:Fold X X1 A ι A1 ι1 C C1 id n n1 q) (hq:q<P) (hr1:Rep X1 A1 ι1):
    A1 [cN,partN id q]=none∧MayMake X1 A1 ι1 C1 [cN] (partN id q) n1∧(∀s,A1 [cN,partN id q,s]=none)∧2≤X1.fi∧dat (n1+64)-dat n1+1≤X1.fb∧C1.length+4+(dat (n1+64)-dat n1)≤60:=by
  have hP:=h.Pl
  have hn:=f.n1
  have d1:dat n≤dat n1:=dat_mono hn.1
  have d2:dat (n1+64)≤dat (n+64*P):=dat_mono (by omega)
  have d3:dat n1≤dat (n1+64):=dat_mono (by omega)
  have e1:=f.fi;have e2:=f.fb;have e3:=f.len
  have m1:=h.fi;have m2:=h.fb;have m3:=h.room;have m4:=h.size
  have hno:A1 [cN,partN id q]=none:=by
    cases hx:A1 [cN,partN id q] with
    | none=>rfl
    | some x=>
      rcases f.kids (partN id q) (by rw [hx];exact fun e=>by cases e) with h1 | ⟨j,hj,h1⟩
      · exact absurd (h.no q hq) h1
      · have:=partN_inj (by omega) (by omega) h1
        omega
  refine ⟨hno,⟨f.c,fun x hx=>?_,by simp,hno,by omega,by omega,by omega,f.goes.cov,f.goes.sub _ (by rw [f.goes.wr];exact h.im),f.goes.sub _ (by rw [f.goes.wr];exact h.bm),?_,by omega⟩,fun s=>?_,by omega,by omega,by omega⟩
  · rcases List.mem_append.1 hx with h1 | h1
    · have:x=cN:=by simpa using h1
      rw [this];exact cN_ok
    · have:x=partN id q:=by simpa using h1
      rw [this];exact partN_ok h.idl (by omega)
  · rw [f.ic]
    exact f.goes.held _ (hr.live [cN] _ h.c).1 h.held
  · cases hx:A1 [cN,partN id q,s] with
    | none=>rfl
    | some x=>
      obtain ⟨-,m,hm⟩:=hr1.up [cN,partN id q] s (by show A1 [cN,partN id q,s]≠none;rw [hx];exact fun e=>by cases e)
      rw [hno] at hm
      cases hm
theorem MayFold.prod {X X1 X2:Sys} {A A1 A2:Path→Option Nd} {ι ι1 ι2:Path→Nat} {C C1 C2:List Nat} {id n n1 P q:Nat} (h:MayFold X A ι C id n P) (f:Fold X X1 A ι A1 ι1 C C1 id n n1 q) (hq:q<P)
    (hk: ∀s,A1 [cN,partN id q,s]=none) (hfb:dat (n1+64)-dat n1+1≤X1.fb) (hp:PartA X1 X2 A1 ι1 A2 ι2 C1 C2 (partN id q) n1):MayMake X2 A2 ι2 C2 [cN,partN id q] prodN 64:=by
  obtain ⟨S,i1,i2,rfl,rfl,hS,hh,hfb2,hlen⟩:=hp.tree
  have hP:=h.Pl
  have hn:=f.n1
  have d1:dat n≤dat n1:=dat_mono hn.1
  have d2:dat (n1+64)≤dat (n+64*P):=dat_mono (by omega)
  have d3:dat n1≤dat (n1+64):=dat_mono (by omega)
  have d4:dat S≤dat (n1+64):=dat_mono (by rcases hS with rfl | rfl<;>omega)
  have d5:dat (64+64)-dat 64=0:=by decide
  have e1:=f.fi;have e3:=f.len;have e4:=hp.fi
  have m1:=h.fi;have m3:=h.room
  have hg:=f.goes.trans hp.goes
  refine ⟨?_,fun x hx=>?_,by simp,?_,by omega,by omega,by rw [d5];omega,hg.cov,hg.sub _ (by rw [hg.wr];exact h.im),hg.sub _ (by rw [hg.wr];exact h.bm),?_,by rw [d5];omega⟩
  · unfold addT
    rw [if_neg (by simp),if_pos rfl]
  · rcases List.mem_append.1 hx with h1 | h1
    · have:x=cN∨x=partN id q:=by simpa using h1
      rcases this with rfl | rfl
      · exact cN_ok
      · exact partN_ok h.idl (by omega)
    · have:x=prodN:=by simpa using h1
      rw [this];exact prodN_ok
  · unfold addT
    rw [if_neg (by simp;decide),if_neg (by simp),if_neg (by simp),if_neg (by simp)]
    exact hk prodN
  · have:addI (addI ι1 [cN] (partN id q) i1) [cN,partN id q] segN i2 [cN,partN id q]=i1:=by
      unfold addI
      rw [if_neg (by simp)]
      exact if_pos (show [cN,partN id q]= [cN]++ [partN id q] from rfl)
    rw [this];exact hh
theorem part_size {id p:Nat} (hid:id<100) (hp:p<10):(pathB [cN,partN id p]).size≤60:=by
  have h:=(part_bytes id hid p hp).2.2.2.2
  have h2:=pathB_snoc [cN] (partN id p)
  have h3:(pathB [cN,partN id p]).data.toList.length=2+1+(partN id p).size:=by
    show (pathB ([cN]++ [partN id p])).data.toList.length=_
    rw [h2,List.length_append,List.length_cons]
    show 2+((partN id p).data.toList.length+1)=_
    rw [Array.length_toList]
    show 2+((partN id p).size+1)=_
    omega
  rw [Array.length_toList] at h3
  show (pathB [cN,partN id p]).data.size≤60
  omega
end
section
open Go.ChangeMaps Go.MapKept Go.RowKit
variable {w0:Gnd} {w:World} {rs:List Res} {X:Sys} {F:FH} {A:Path→Option Nd} {ι:Path→Nat}
set_option maxHeartbeats 2000000 in
set_option maxRecDepth 100000 in
theorem c_folders (h:Fs w0 w F X A ι rs) (ht:Tx F X) {cb mb i0:Nat} {next:Int} (hr:rs[i0]?=some (catS cb F.fb next mb)) {C:List Nat} {id n P:Nat} (hm:MayFold X A ι C id n P) (nm:ByteArray) (p3 p4 p5:Int) (p6:Bool) (p7:Int)
    (h1:512≤p3∧p3≤8192) (h2: -1≤p4∧p4≤1099511627776) (h3: -1≤p5∧p5≤1125899906842624) (h4:0≤p7∧p7≤1125899906842624):
    Calls Tryz.prog 46 #[.pointer (some ⟨cb,0,none⟩),.agg (tpz nm id P p3 p4 p5 p6 p7)] w fun e w'=>e= .returned (.int .i64 0)∧∃X' A' ι' C' n',Fs w0 w' F X' A' ι' rs∧Fold X X' A ι A' ι' C C' id n n' P:=by
  have hb:=h.newArr (tpz nm id P p3 p4 p5 p6 p7) 31 neTp
  obtain ⟨y,hy⟩: ∃y,w.alloc (.cells (tpz nm id P p3 p4 p5 p6 p7) 31 (0,0))=y:=⟨_,rfl⟩
  obtain ⟨g,hg⟩: ∃g,w.heap.size=g:=⟨_,rfl⟩
  rw [hy,hg] at hb
  have KC:Hid (∀z Y B κ,Fs w0 z F Y B κ (arr g (tpz nm id P p3 p4 p5 p6 p7) 31 neTp::rs)→z.cell? ⟨cb,0,none⟩=some (.pointer (some ⟨F.fb,0,none⟩))∧(z.cell? ⟨g,2,none⟩=some (.int .i64 P)∧z.cell? ⟨g,3,none⟩=some (.int .i64 p3)∧z.cell? ⟨g,4,none⟩=some (.int .i64 p4)∧z.cell? ⟨g,5,none⟩=some (.int .i64 p5)∧z.cell? ⟨g,6,none⟩=some (.bool p6)∧z.cell? ⟨g,7,none⟩=some (.int .i64 p7))∧z.heap[g]?=some (.cells (tpz nm id P p3 p4 p5 p6 p7) 31 (0,0))):=Lib.hid fun z Y B κ hz=>
    ⟨(hz.arrCell (i:=i0+1) hr 0).trans rfl,⟨(hz.arrCell (i:=0) rfl 2).trans rfl,(hz.arrCell (i:=0) rfl 3).trans rfl,(hz.arrCell (i:=0) rfl 4).trans rfl,(hz.arrCell (i:=0) rfl 5).trans rfl,(hz.arrCell (i:=0) rfl 6).trans rfl,(hz.arrCell (i:=0) rfl 7).trans rfl⟩,hz.block (i:=0) rfl⟩
  have KDir:Hid (∀z Y B κ q,Fs w0 z F Y B κ (arr g (tpz nm id P p3 p4 p5 p6 p7) 31 neTp::rs)→q<10→Calls Tryz.prog 24 #[.pointer (some ⟨cb,0,none⟩),.agg (tpz nm id P p3 p4 p5 p6 p7),.int .i64 (q:Nat)] z fun e w'=>e= .returned (.string (pathB [cN,partN id q]))∧Fs w0 w' F Y B κ (arr g (tpz nm id P p3 p4 p5 p6 p7) 31 neTp::rs)):=Lib.hid fun z Y B κ q hz hq=>c_Dir hz (i:=i0+1) hr id q hm.idl hq nm P p3 p4 p5 p6 p7
  have KPart:Hid (∀z X1 A1 ι1 C1 n1 q,Fs w0 z F X1 A1 ι1 (arr g (tpz nm id P p3 p4 p5 p6 p7) 31 neTp::rs)→Fold X X1 A ι A1 ι1 C C1 id n n1 q→q<P→Calls Tryz.prog 105 #[.pointer (some ⟨F.fb,0,none⟩),.string (pathB [cN,partN id q]),.agg #[.int .i64 p3,.int .i64 p4,.int .i64 p5,.bool p6,.int .i64 p7]] z fun r w'=>r= .returned (.int .i64 0)∧∃X' A' ι' C',Fs w0 w' F X' A' ι' (arr g (tpz nm id P p3 p4 p5 p6 p7) 31 neTp::rs)∧PartA X1 X' A1 ι1 A' ι' C1 C' (partN id q) n1):=Lib.hid fun z X1 A1 ι1 C1 n1 q hz f hq=>by
    obtain ⟨q1,q2,q3,q4,q5,q6⟩:=hm.part h.2 f hq hz.2
    exact p_Make hz (ht.wr f.goes.wr) (part_size hm.idl (by have:=hm.Pl;omega)) q2 q3 q4 q5 q6 p3 p4 p5 p6 p7 h1 h2 h3 h4
  have KProd:Hid (∀z X1 A1 ι1 C1 n1 q X2 A2 ι2 C2,Rep X1 A1 ι1→Fold X X1 A ι A1 ι1 C C1 id n n1 q→q<P→PartA X1 X2 A1 ι1 A2 ι2 C1 C2 (partN id q) n1→Fs w0 z F X2 A2 ι2 (arr g (tpz nm id P p3 p4 p5 p6 p7) 31 neTp::rs)→Calls Tryz.prog 106 #[.pointer (some ⟨F.fb,0,none⟩),.string (pathB [cN,partN id q]++⟨#[47,112,114,111,100,117,99,101,114,115]⟩)] z fun r w'=>r= .returned (.int .i64 0)∧∃X' A' ι' C' n',Fs w0 w' F X' A' ι' (arr g (tpz nm id P p3 p4 p5 p6 p7) 31 neTp::rs)∧Fold X X' A ι A' ι' C C' id n n' (q+1)):=Lib.hid fun z X1 A1 ι1 C1 n1 q X2 A2 ι2 C2 hr1 f hq hp hz=>by
    obtain ⟨q1,q2,q3,q4,q5,q6⟩:=hm.part h.2 f hq hr1
    have:=pr_Make hz ((ht.wr f.goes.wr).wr hp.goes.wr) (hm.prod f hq q3 q5 hp)
    rw [path_add [cN,partN id q] prodN _ rfl]
    refine this.mono ?_
    rintro r w' ⟨he,X',A',ι',C',hz',hk⟩
    obtain ⟨n',hf⟩:=f.step q1 q3 hp hk
    exact ⟨he,X',A',ι',C',n',hz',hf⟩
  have KSz:Hid (∀q,q<10→(pathB [cN,partN id q]).size≤60):=Lib.hid fun q hq=>part_size hm.idl hq
  have H0:Hid (Fs w0 y F X A ι (arr g (tpz nm id P p3 p4 p5 p6 p7) 31 neTp::rs)∧Fold X X A ι A ι C C id n n 0):=Lib.hid ⟨hb,Fold.refl hm.cov id hm.c⟩
  have HY:=Lib.hid (And.intro hy hg)
  have P0:(0:Int)≤(P:Int):=Int.natCast_nonneg _
  have P1:(P:Int)≤8:=by have:=hm.Pl;omega
  have c2:=(KC.out _ _ _ _ hb).2.1.1
  clear h ht hr hm h1 h2 h3 h4 hb hy hg
  go_enter Tryz.func46,Tryz.ntmps46
  go_upto_region 1 with fail
  rw [HY.out.1,HY.out.2]
  clear HY
  go_wp2_with fail
  go_loopw [5,6,7,8,11] (fun _ _ _ _ t11 wr=> ∃q:Nat,q≤P∧t11= .int .i64 q∧∃X1 A1 ι1 C1 n1,Hid (Fs w0 wr F X1 A1 ι1 (arr g (tpz nm id P p3 p4 p5 p6 p7) 31 neTp::rs)∧Fold X X1 A ι A1 ι1 C C1 id n n1 q)) (fun _ _ _ _ t11 _=>P-(intOf t11).toNat)
  case atStart=>exact ⟨0,Nat.zero_le _,rfl,X,A,ι,C,n,H0⟩
  case round=>
    clear H0 c2
    obtain ⟨q,hq,rfl,X1,A1,ι1,C1,n1,HR⟩:=hrel
    have q0:(0:Int)≤(q:Int):=Int.natCast_nonneg _
    by_cases hlt:q<P
    · have q1:(q:Int)<(P:Int):=by omega
      have HD:=Lib.hid (KDir.out _ _ _ _ q HR.out.1 (by omega))
      have HBK:=Lib.hid (KC.out _ _ _ _ HR.out.1).2.2
      have HQ:=Lib.hid (And.intro HR.out.2 (And.intro hlt HR.out.1.2))
      clear KDir HR
      go_wp2_with (refine loadTp rfl _ rfl g rfl nm id P p3 p4 p5 p6 p7 HBK.out ?_)
      refine HD.out.mono ?_
      clear HD HBK
      rintro e w2 ⟨rfl,h2⟩
      obtain ⟨c0,⟨c2,c3,c4,c5,c6,c7⟩,-⟩:=KC.out _ _ _ _ h2
      have h2d:=h2.frm (Frm.refl NoB w2).drew
      have HP:=Lib.hid (KPart.out _ _ _ _ _ _ q h2d HQ.out.1 HQ.out.2.1)
      have H2:=Lib.hid h2
      have H2d:=Lib.hid h2d
      clear h2 h2d KPart
      go_upto_region 5 with fail
      go_region_held3 (fun z=>z.cell? ⟨cb,0,none⟩=some (.pointer (some ⟨F.fb,0,none⟩))∧(z.cell? ⟨g,2,none⟩=some (.int .i64 P)∧z.cell? ⟨g,3,none⟩=some (.int .i64 p3)∧z.cell? ⟨g,4,none⟩=some (.int .i64 p4)∧z.cell? ⟨g,5,none⟩=some (.int .i64 p5)∧z.cell? ⟨g,6,none⟩=some (.bool p6)∧z.cell? ⟨g,7,none⟩=some (.int .i64 p7)))
        (first | exact ⟨(KC.out _ _ _ _ H2.out).1,(KC.out _ _ _ _ H2.out).2.1⟩ | exact ⟨(KC.out _ _ _ _ H2d.out).1,(KC.out _ _ _ _ H2d.out).2.1⟩ | exact ⟨(KC.out _ _ _ _ h5).1,(KC.out _ _ _ _ h5).2.1⟩)
        (first
          | (go_at_call 105;(with_reducible refine HP.out.mono ?_);rintro e w5 ⟨rfl,X2,A2,ι2,C2,h5,hp5⟩))
      have HPR:=Lib.hid (KProd.out _ _ _ _ _ _ q _ _ _ _ HQ.out.2.2 HQ.out.1 HQ.out.2.1 hp5 h5)
      have d0:=(KC.out _ _ _ _ h5).1
      obtain ⟨sz,hsz⟩: ∃sz,(pathB [cN,partN id q]).size=sz:=⟨_,rfl⟩
      have z0:(0:Int)≤(sz:Int):=Int.natCast_nonneg _
      have z1:(sz:Int)≤60:=by have:=KSz.out q (by have:=HQ.out.2.1;omega);omega
      have hlp:(⟨#[47,112,114,111,100,117,99,101,114,115]⟩:ByteArray).size=10:=rfl
      clear h5 hp5 KProd HP H2 H2d c0 c2 c3 c4 c5 c6 c7 KC KSz
      generalize pathB [cN,partN id q]=dir at*
      go_wp2_with fail
      refine HPR.out.mono ?_
      clear HPR d0
      rintro e w6 ⟨rfl,X3,A3,ι3,C3,n3,h6,hf6⟩
      have H6:=Lib.hid (And.intro h6 hf6)
      have hlt2:=HQ.out.2.1
      clear h6 hf6 hsz
      go_wp2_with fail
      exact ⟨⟨q+1,hlt2,by go_num,X3,A3,ι3,C3,n3,H6⟩,by simp [intOf];omega⟩
    · obtain rfl:q=P:=by omega
      clear KDir KPart KProd KSz KC
      go_wp2_with fail
      go_ret
      exact ⟨rfl,X1,A1,ι1,C1,n1,HR.out.1.drop 1,HR.out.2⟩
end
section
open Go.ChangeMaps Go.MapKept Go.RowKit
theorem setT_setT (A:Path→Option Nd) (p:Path) (x y:Option Nd):setT (setT A p x) p y=setT A p y:=by
  funext q
  unfold setT
  by_cases e:q=p
  · rw [if_pos e,if_pos e]
  · rw [if_neg e,if_neg e,if_neg e]
theorem overB_take (b x:Blk):(overB b 0 x).take x.length=x:=by
  unfold overB
  simp
theorem overB_length0 (b x:Blk):(overB b 0 x).length=max b.length x.length:=by
  unfold overB
  simp
  omega
end
section
open Go.ChangeMaps Go.MapKept Go.RowKit
variable {w0:Gnd} {w:World} {rs:List Res} {X:Sys} {F:FH} {A:Path→Option Nd} {ι:Path→Nat}
set_option maxHeartbeats 1000000 in
set_option maxRecDepth 100000 in
theorem c_save (h:Fs w0 w F X A ι rs) (ht:Tx F X) {cb mb mb' i j:Nat} {next next':Int} {L':List Tp} {old:Blk} (hr:rs[i]?=some (catS cb F.fb next mb)) (hr2:rs[j]?=some (catM mb' L')) (hL:CatL L') (hlen:L'.length≤20) (hA:A [cN,lsN]=some (.file old)) (ho:old.length≤5120)
    {C:List Nat} (hC:Cov X C) (hbm:X.P.bm∈C) (hh:HeldC X C (ι [cN,lsN])) (hfb:dat (encC next' L').length-dat old.length≤X.fb) (hroom:C.length+(dat (encC next' L').length-dat old.length)≤60):
    Calls Tryz.prog 104 #[.pointer (some ⟨cb,0,none⟩),.int .i64 next',.map (some mb')] w fun e w'=>e= .returned (.int .i64 0)∧∃X' C',Fs w0 w' F X' (setT A [cN,lsN] (some (.file (encC next' L')))) ι rs∧Goes X X' C C'∧X'.fi=X.fi∧X'.fb+dat (encC next' L').length=X.fb+dat old.length∧C'.length≤C.length+(dat (encC next' L').length-dat old.length):=by
  have hel:=encC_length next' L' hL.nm
  obtain ⟨n,hn⟩: ∃n,(encC next' L').length=n:=⟨_,rfl⟩
  have hmx:dat (max old.length n)-dat old.length=dat n-dat old.length:=by
    rcases Nat.le_total old.length n with e | e
    · rw [Nat.max_eq_right e]
    · rw [Nat.max_eq_left e];have:=dat_mono e;omega
  have KE:Hid (∀W,Fs w0 W F X A ι rs→Calls Tryz.prog 100 #[.int .i64 next',.map (some mb')] W fun e w'=> ∃g o c,e= .returned (.slice (some ⟨g,o,none⟩) n c)∧Fs w0 w' F X A ι (byt (.slice (some ⟨g,o,none⟩) n c) (encC next' L')::rs)):=Lib.hid fun W hW=>by
    have hmap:MapAt KeyK okK W mb' L'.length (tpV (mapL L')):=by
      obtain ⟨⟨k,l,ha,-⟩,-⟩:=hW
      exact ha.mapAt (i:=j+2) hr2
    refine (c_encode W (.map (some mb')) next' (by omega) hL.nm (fun Z hZ=>c_sorted Z mb' hL (by omega) (hmap.frm hZ (fun e=>e)))).mono ?_
    rintro e w' ⟨v,he,hv,hf⟩
    have hb:=hv.bytes (fun e=>by rw [e] at hel;have:0=8+107*L'.length:=hel;omega)
    obtain ⟨g,o,c,rfl,-⟩:=hb.cells
    rw [hn] at he hb
    exact ⟨g,o,c,he,hW.mkByt hf hb⟩
  have KW:Hid (∀W g o c,Fs w0 W F X A ι (byt (.slice (some ⟨g,o,none⟩) n c) (encC next' L')::rs)→Calls Tryz.prog 194 #[.pointer (some ⟨F.fb,0,none⟩),.string (pathB [cN,lsN]),.int .i64 0,.slice (some ⟨g,o,none⟩) n c] W fun e w'=>e= .returned (.int .i64 0)∧∃X1 C1,Fs w0 w' F X1 (setT A [cN,lsN] (some (.file (overB old 0 (encC next' L'))))) ι (byt (.slice (some ⟨g,o,none⟩) n c) (encC next' L')::rs)∧Ed X X1 A (setT A [cN,lsN] (some (.file (overB old 0 (encC next' L'))))) C C1 [cN,lsN] old (overB old 0 (encC next' L'))):=Lib.hid fun W g o c hW=>by
    have:=f_Write_in hW ht.b ht.o ht.d ht.op ht.ov (ns:= [cN,lsN]) (by simp) (by simp [cN_ok,lsN_ok]) (by simp) (a:=0) (x:=encC next' L') (C:=C) ⟨hA,Nat.zero_le _,(by rw [Nat.zero_add,hel];omega),by rw [Nat.zero_add,hn,hmx];rw [hn] at hfb;exact hfb,hC,hbm,hh,by rw [Nat.zero_add,hn,hmx];rw [hn] at hroom;exact hroom⟩ (ai:=0) (bb:=g) (bo:=o) (vc:=c) (by rw [hn];rfl)
    rw [hn] at this
    refine this.mono ?_
    rintro e w' ⟨he,X1,A1,C1,h1,hed⟩
    obtain rfl:=hed.tree
    exact ⟨he,X1,C1,h1,hed⟩
  have KT:Hid (∀W X1 C1 rs',Ed X X1 A (setT A [cN,lsN] (some (.file (overB old 0 (encC next' L'))))) C C1 [cN,lsN] old (overB old 0 (encC next' L'))→Fs w0 W F X1 (setT A [cN,lsN] (some (.file (overB old 0 (encC next' L'))))) ι rs'→X.live (ι [cN,lsN])→Calls Tryz.prog 158 #[.pointer (some ⟨F.fb,0,none⟩),.string (pathB [cN,lsN]),.int .i64 n] W fun e w'=>e= .returned (.int .i64 0)∧∃X' C',Fs w0 w' F X' (setT A [cN,lsN] (some (.file (encC next' L')))) ι rs'∧Goes X X' C C'∧X'.fi=X.fi∧X'.fb+dat (encC next' L').length=X.fb+dat old.length∧C'.length≤C.length+(dat (encC next' L').length-dat old.length)):=Lib.hid fun W X1 C1 rs' hed hW hlv=>by
    have hol:=overB_length0 old (encC next' L')
    have h60:C1.length≤60:=by have:=hed.len;rw [hol,hn,hmx] at this;rw [hn] at hroom;omega
    have htx:=ht.wr hed.goes.wr
    have:=f_Truncate_in hW htx.b htx.o htx.d htx.op htx.ov (ns:= [cN,lsN]) (by simp) (by simp [cN_ok,lsN_ok]) (by simp) (b:=overB old 0 (encC next' L')) (S:=n) (by unfold setT;rw [if_pos rfl]) (by rw [hol];omega) hed.goes.cov (hed.goes.sub _ (by rw [hed.goes.wr];exact hbm)) (hed.goes.held _ hlv hh) h60
    refine this.mono ?_
    rintro e w' ⟨he,X2,A2,C2,h2,hed2⟩
    obtain rfl:=hed2.tree
    rw [←hn,overB_take] at hed2 h2
    rw [setT_setT] at h2
    have f1:=hed.fb;have f2:=hed2.fb;have l1:=hed.len;have l2:=hed2.len
    rw [hol,hn,hmx] at l1
    rw [hol,hn] at l2
    have hmx2:dat n-dat (max old.length n)=0:=by have:=dat_mono (Nat.le_max_right old.length n);omega
    rw [hmx2] at l2
    exact ⟨he,X2,C2,h2,hed.goes.trans hed2.goes,hed2.fi.trans hed.fi,by omega,by rw [hn];omega⟩
  have hlv:X.live (ι [cN,lsN]):=(h.2.live _ _ hA).1
  have KC:Hid (∀z Y B κ rs',Fs w0 z F Y B κ (rs'++rs)→z.cell? ⟨cb,0,none⟩=some (.pointer (some ⟨F.fb,0,none⟩))∧z.cell? ⟨cb,1,none⟩=some (.string (pathB [cN]))):=Lib.hid fun z Y B κ rs' hz=>by
    have hz:=hz.sub (List.sublist_append_right rs' rs)
    exact ⟨(hz.arrCell hr 0).trans rfl,(hz.arrCell hr 1).trans rfl⟩
  have HLV:=Lib.hid hlv
  have HE:=Lib.hid (KE.out _ h)
  have hp2:=path_add [cN] lsN ⟨#[47,99,97,116,97,108,111,103]⟩ rfl
  have hp3:pathB ([cN]++ [lsN])=pathB [cN,lsN]:=rfl
  rw [hp3] at hp2
  obtain ⟨dir,hdir⟩: ∃dir,pathB [cN]=dir:=⟨_,rfl⟩
  have hds:dir.size=2:=by rw [←hdir];rfl
  rw [hdir] at hp2 KC
  generalize pathB [cN,lsN]=path at*
  have n0:(0:Int)≤(n:Int):=Int.natCast_nonneg _
  have n1:(n:Int)≤2148:=by omega
  clear h ht hr hr2 hL hlen hA ho hC hbm hh hfb hroom hel hn hmx hlv KE hp3 hdir
  go_enter Tryz.func104,Tryz.ntmps104
  go_wp2_with fail
  refine HE.out.mono ?_
  clear HE
  rintro e w1 ⟨g,o,c,rfl,h1⟩
  obtain ⟨k1,k2⟩:=KC.out _ _ _ _ [_] h1
  have H1:=Lib.hid h1
  have H1d:=Lib.hid (h1.frm (Frm.refl NoB w1).drew)
  have HW:=Lib.hid (KW.out _ _ _ _ H1d.out)
  clear h1 KW
  go_upto_region 2 with fail
  go_region_held3 (fun z=>z.cell? ⟨cb,0,none⟩=some (.pointer (some ⟨F.fb,0,none⟩))∧z.cell? ⟨cb,1,none⟩=some (.string dir))
    (first | exact KC.out _ _ _ _ [_] H1.out | exact KC.out _ _ _ _ [_] H1d.out | exact KC.out _ _ _ _ [_] h2)
    (first
      | (go_at_call 194;(with_reducible refine HW.out.mono ?_);rintro e w2 ⟨rfl,X1,C1,h2,hed⟩))
  have h2:=h2.drop 1
  obtain ⟨k3,k4⟩:=KC.out _ _ _ _ [] h2
  have H2:=Lib.hid h2
  have H2d:=Lib.hid (h2.frm (Frm.refl NoB w2).drew)
  have HT:=Lib.hid (KT.out _ _ _ _ hed H2d.out HLV.out)
  clear h2 hed HW H1 H1d KT k1 k2
  go_upto_region 5 with fail
  go_region_held3 (fun z=>z.cell? ⟨cb,0,none⟩=some (.pointer (some ⟨F.fb,0,none⟩))∧z.cell? ⟨cb,1,none⟩=some (.string dir))
    (first | exact KC.out _ _ _ _ [] H2.out | exact KC.out _ _ _ _ [] H2d.out | exact KC.out _ _ _ _ [] h3)
    (first
      | (go_at_call 158;(with_reducible refine HT.out.mono ?_);rintro e w3 ⟨rfl,X2,C2,h3,hg3⟩))
  have H3:=Lib.hid (And.intro h3 hg3)
  clear h3 hg3 HT H2 H2d KC k3 k4
  go_wp2
  go_ret
  exact ⟨rfl,X2,C2,H3.out.1,H3.out.2⟩
end
section
open Go.ChangeMaps Go.MapKept Go.RowKit
theorem neCatp: ¬U8T (25:TypeId):=by decide
theorem neMapT: ¬U8T (91:TypeId):=by decide
structure MaySave (X:Sys) (A:Path→Option Nd) (ι:Path→Nat) (C:List Nat) (old new:Blk):Prop where
  ls:A [cN,lsN]=some (.file old)
  oldl:old.length≤5120
  cov:Cov X C
  bm:X.P.bm∈C
  held:HeldC X C (ι [cN,lsN])
  fb:dat new.length-dat old.length≤X.fb
  room:C.length+(dat new.length-dat old.length)≤60
structure Saved (X X':Sys) (C C':List Nat) (old new:Blk):Prop where
  goes:Goes X X' C C'
  fi:X'.fi=X.fi
  fb:X'.fb+dat new.length=X.fb+dat old.length
  len:C'.length≤C.length+(dat new.length-dat old.length)
end
section
open Go.ChangeMaps Go.MapKept Go.RowKit
variable {w0:Gnd} {w:World} {rs:List Res} {X:Sys} {F:FH} {A:Path→Option Nd} {ι:Path→Nat}
set_option maxHeartbeats 1000000 in
set_option maxRecDepth 100000 in
theorem c_change1 (h:Fs w0 w F X A ι rs) (ht:Tx F X) {cb mb mb' i j i1 i2 i3 i4 b1 b2 b3 b4:Nat} {next next':Int} {L':List Tp} {old:Blk} {fn:FuncId} {caps:Array Value} (hr:rs[i]?=some (catS cb F.fb next mb)) (hr2:rs[j]?=some (catM mb' L'))
    (q1:rs[i1]?=some (arr b1 #[.pointer (some ⟨cb,0,none⟩)] 25 neCatp)) (q2:rs[i2]?=some (arr b2 #[.int .i64 next'] 3 neI8)) (q3:rs[i3]?=some (arr b3 #[.map (some mb')] 91 neMapT)) (q4:rs[i4]?=some (arr b4 #[.func (.func fn) #[] caps] 100 neFn))
    (hL:CatL L') (hlen:L'.length≤20) {C:List Nat} (hs:MaySave X A ι C old (encC next' L')) (hE:EntersF Tryz.prog fn) {R:World→Prop}
    (HM: ∀y X1 C1,Fs w0 y F X1 (setT A [cN,lsN] (some (.file (encC next' L')))) ι rs→Saved X X1 C C1 old (encC next' L')→Calls Tryz.prog fn caps y fun e w'=>e= .returned (.int .i64 0)∧R w'):
    Calls Tryz.prog 103 #[.pointer (some ⟨b1,0,none⟩),.pointer (some ⟨b2,0,none⟩),.pointer (some ⟨b3,0,none⟩),.pointer (some ⟨b4,0,none⟩)] w fun e w'=>e= .returned (.int .i64 0)∧R w':=by
  have HS:=Lib.hid (c_save h ht hr hr2 hL hlen hs.ls hs.oldl hs.cov hs.bm hs.held hs.fb hs.room)
  have c1:w.cell? ⟨b1,0,none⟩=some (.pointer (some ⟨cb,0,none⟩)):=(h.arrCell q1 0).trans rfl
  have c2:w.cell? ⟨b2,0,none⟩=some (.int .i64 next'):=(h.arrCell q2 0).trans rfl
  have c3:w.cell? ⟨b3,0,none⟩=some (.map (some mb')):=(h.arrCell q3 0).trans rfl
  have HQ:=Lib.hid q4
  have HMM:=Lib.hid HM
  have HEN:=Lib.hid hE
  clear h ht hr hr2 q1 q2 q3 q4 hL hlen hs hE HM
  go_enter Tryz.func103,Tryz.ntmps103
  go_wp2_with fail
  refine HS.out.mono ?_
  clear HS c1 c2 c3
  rintro e w2 ⟨rfl,X1,C1,h2,g1,g2,g3,g4⟩
  have c4:w2.cell? ⟨b4,0,none⟩=some (.func (.func fn) #[] caps):=(h2.arrCell HQ.out 0).trans rfl
  have HC:=Lib.hid (HMM.out w2 X1 C1 h2 ⟨g1,g2,g3,g4⟩)
  clear h2 g1 g2 g3 g4 HMM
  go_wp2_with fail
  refine upon_callF HEN.out HC.out ?_
  rintro e w3 ⟨rfl,hR⟩
  refine ⟨_,rfl,?_⟩
  have HR:=Lib.hid hR
  clear hR HC c4
  go_wp2
  go_ret
  exact ⟨rfl,HR.out⟩
theorem entChange1:EntersF Tryz.prog 103:=entersF_of Tryz.func103 (by kernel_rfl) rfl
set_option maxHeartbeats 1000000 in
set_option maxRecDepth 100000 in
theorem c_change (h:Fs w0 w F X A ι rs) (hb:F.begun=false) (hd:F.dead=false) (hop:X.op=false) (hlim:X.D.lim=none) (hm:X.m<1000000) {cb mb mb' i j:Nat} {next next':Int} {L':List Tp} {old:Blk} {fn:FuncId} {caps:Array Value} (hr:rs[i]?=some (catS cb F.fb next mb)) (hr2:rs[j]?=some (catM mb' L'))
    (hL:CatL L') (hlen:L'.length≤20) {C:List Nat} (hs:MaySave X.open' A ι C old (encC next' L')) (hE:EntersF Tryz.prog fn) {K:Sys→(Path→Option Nd)→(Path→Nat)→Prop}
    (HM: ∀y X1 C1 rs',Fs w0 y { F with begun:=true,over:=false } X1 (setT A [cN,lsN] (some (.file (encC next' L')))) ι (rs'++rs)→Saved X.open' X1 C C1 old (encC next' L')→Calls Tryz.prog fn caps y fun e w'=>e= .returned (.int .i64 0)∧∃X' A' ι',Fs w0 w' { F with begun:=true,over:=false } X' A' ι' (rs'++rs)∧X'=X.open'.wr X'.l∧K X' A' ι'):
    Calls Tryz.prog 44 #[.pointer (some ⟨cb,0,none⟩),.int .i64 next',.map (some mb'),.func (.func fn) #[] caps] w fun e w'=>e= .returned (.int .i64 0)∧∃X' A' ι' Y,Fs w0 w' { F with begun:=false,over:=false } Y A' ι' (rs.set i (catS cb F.fb next' mb'))∧Comm X' Y∧X'=X.open'.wr X'.l∧K X' A' ι':=by
  have hh:=(((h.newArr #[.pointer (some ⟨cb,0,none⟩)] 25 neCatp).newArr #[.int .i64 next'] 3 neI8).newArr #[.map (some mb')] 91 neMapT).newArr #[.func (.func fn) #[] caps] 100 neFn
  have hmf: ∀(fn:Fn) (first cap:Array Value) (W:World),(Instr.makeFunc fn first cap).run Tryz.prog W= .ok (.func fn first cap) W:=fun _ _ _ _=>rfl
  simp only [size_alloc] at hh
  obtain ⟨y,hy⟩: ∃y,(((w.alloc (.cells #[.pointer (some ⟨cb,0,none⟩)] 25 (0,0))).alloc (.cells #[.int .i64 next'] 3 (0,0))).alloc (.cells #[.map (some mb')] 91 (0,0))).alloc (.cells #[.func (.func fn) #[] caps] 100 (0,0))=y:=⟨_,rfl⟩
  obtain ⟨b1,hb1⟩: ∃b1,w.heap.size=b1:=⟨_,rfl⟩
  rw [hy,hb1] at hh
  obtain ⟨b2,hb2⟩: ∃b2,b1+1=b2:=⟨_,rfl⟩
  rw [hb2] at hh
  obtain ⟨b3,hb3⟩: ∃b3,b2+1=b3:=⟨_,rfl⟩
  rw [hb3] at hh
  obtain ⟨b4,hb4⟩: ∃b4,b3+1=b4:=⟨_,rfl⟩
  rw [hb4] at hh
  have HT:=Lib.hid (f_Together_out hh hb hd hop hlim hm 103 #[.pointer (some ⟨b1,0,none⟩),.pointer (some ⟨b2,0,none⟩),.pointer (some ⟨b3,0,none⟩),.pointer (some ⟨b4,0,none⟩)] entChange1 (K:=K) (fun z hz=>
    c_change1 hz ⟨rfl,rfl,hd,rfl,rfl⟩ (i:=i+4) (j:=j+4) (i1:=3) (i2:=2) (i3:=1) (i4:=0) hr hr2 rfl rfl rfl rfl hL hlen hs hE (fun v X1 C1 hv hsv=>HM v X1 C1 [_,_,_,_] hv hsv)))
  have c0:y.cell? ⟨b1,0,none⟩=some (.pointer (some ⟨cb,0,none⟩)):=(hh.arrCell (i:=3) rfl 0).trans rfl
  have d0:y.cell? ⟨cb,0,none⟩=some (.pointer (some ⟨F.fb,0,none⟩)):=(hh.arrCell (i:=i+4) hr 0).trans rfl
  have HY:=Lib.hid (And.intro hy (And.intro hb1 (And.intro hb2 (And.intro hb3 hb4))))
  have HR:=Lib.hid hr
  clear h hb hd hop hlim hm hr hr2 hL hlen hs hE HM hh hy hb1 hb2 hb3 hb4
  go_enter Tryz.func44,Tryz.ntmps44
  go_upto_region 1 with fail
  rw [HY.out.1,HY.out.2.1,HY.out.2.2.1,HY.out.2.2.2.1,HY.out.2.2.2.2]
  clear HY
  go_wp2_with fail
  refine HT.out.mono ?_
  clear HT c0 d0
  rintro e w2 ⟨rfl,X',A',ι',Y,h2,hc,hx,hk⟩
  have hr:=HR.out
  have e1:w2.cell? ⟨b1,0,none⟩=some (.pointer (some ⟨cb,0,none⟩)):=(h2.arrCell (i:=3) rfl 0).trans rfl
  have e2:w2.cell? ⟨b2,0,none⟩=some (.int .i64 next'):=(h2.arrCell (i:=2) rfl 0).trans rfl
  have e3:w2.cell? ⟨b3,0,none⟩=some (.map (some mb')):=(h2.arrCell (i:=1) rfl 0).trans rfl
  have f2:w2.cell? ⟨cb,2,none⟩=some (.int .i64 next):=(h2.arrCell (i:=i+4) hr 2).trans rfl
  have f3:w2.cell? ⟨cb,3,none⟩=some (.map (some mb)):=(h2.arrCell (i:=i+4) hr 3).trans rfl
  have g2:w2.frozen? ⟨cb,2,none⟩=false:=(h2.weak.1.elim fun n hn=>hn.elim fun l ha=>ha.arrFree (i:=i+6) hr 2)
  have g3:w2.frozen? ⟨cb,3,none⟩=false:=(h2.weak.1.elim fun n hn=>hn.elim fun l ha=>ha.arrFree (i:=i+6) hr 3)
  have hil:i<rs.length:=(List.getElem?_eq_some_iff.1 hr).1
  have hA1:=(h2.setArr (i+4) hr 2 (.int .i64 next')).setArr (i+4) (c:=(catC F.fb (pathB [cN]) next mb).setIfInBounds 2 (.int .i64 next')) (by rw [List.getElem?_set_self (by show i+4<rs.length+4;omega)]) 3 (.map (some mb'))
  have hB1:=(h2.setArr (i+4) hr 3 (.map (some mb'))).setArr (i+4) (c:=(catC F.fb (pathB [cN]) next mb).setIfInBounds 3 (.map (some mb'))) (by rw [List.getElem?_set_self (by show i+4<rs.length+4;omega)]) 2 (.int .i64 next')
  rw [List.set_set] at hA1 hB1
  have HA:Hid (Fs w0 ((w2.setCell ⟨cb,2,none⟩ (.int .i64 next')).setCell ⟨cb,3,none⟩ (.map (some mb'))).drew { F with begun:=false,over:=false } Y A' ι' (rs.set i (catS cb F.fb next' mb'))):=Lib.hid ((hA1.frm (Frm.refl NoB _).drew).drop 4)
  have HB:Hid (Fs w0 ((w2.setCell ⟨cb,3,none⟩ (.map (some mb'))).setCell ⟨cb,2,none⟩ (.int .i64 next')).drew { F with begun:=false,over:=false } Y A' ι' (rs.set i (catS cb F.fb next' mb'))):=Lib.hid ((hB1.frm (Frm.refl NoB _).drew).drop 4)
  have HH:=Lib.hid (And.intro hc (And.intro hx hk))
  clear h2 hc hx hk hr hil hA1 hB1 HR
  go_upto_region 3 with fail
  go_region
  all_goals
    go_wp2
    go_ret
    first
      | exact ⟨rfl,X',A',ι',Y,HA.out,HH.out⟩
      | exact ⟨rfl,X',A',ι',Y,HB.out,HH.out⟩
end
section
open Go.ChangeMaps Go.MapKept Go.RowKit
def insT (t:Tp):List Tp→List Tp
  | []=> [t]
  | a::r=>if lessN t.nm a.nm then t::a::r else a::insT t r
theorem mem_insT (t x:Tp): ∀L:List Tp,x∈insT t L↔x=t∨x∈L
  | []=>by simp [insT]
  | a::r=>by
    unfold insT
    split
    · simp
    · rw [List.mem_cons,mem_insT t x r,List.mem_cons]
      constructor
      · rintro (h | h | h)
        · exact .inr (.inl h)
        · exact .inl h
        · exact .inr (.inr h)
      · rintro (h | h | h)
        · exact .inr (.inl h)
        · exact .inl h
        · exact .inr (.inr h)
theorem insT_length (t:Tp): ∀L:List Tp,(insT t L).length=L.length+1
  | []=>rfl
  | a::r=>by
    unfold insT
    split
    · rfl
    · rw [List.length_cons,insT_length t r,List.length_cons]
theorem lessN_trans {a b c:ByteArray} (h1:lessN a b=true) (h2:lessN b c=true):lessN a c=true:=by
  rw [lessN_eq] at h1 h2 ⊢
  exact decide_eq_true (List.lt_trans (of_decide_eq_true h1) (of_decide_eq_true h2))
theorem insT_asc (t:Tp): ∀L:List Tp,L.Pairwise (fun x y=>lessN x.nm y.nm=true)→(∀x∈L,x.nm≠t.nm)→(insT t L).Pairwise fun x y=>lessN x.nm y.nm=true
  | [],_,_=>by simp [insT]
  | a::r,h,hn=>by
    rw [List.pairwise_cons] at h
    unfold insT
    split
    · rename_i hlt
      rw [List.pairwise_cons]
      refine ⟨fun x hx=>?_,List.pairwise_cons.2 h⟩
      rcases List.mem_cons.1 hx with rfl | hx
      · exact hlt
      · exact lessN_trans hlt (h.1 x hx)
    · rename_i hlt
      rw [List.pairwise_cons]
      refine ⟨fun x hx=>?_,insT_asc t r h.2 fun x hx=>hn x (List.mem_cons_of_mem _ hx)⟩
      rcases (mem_insT t x r).1 hx with rfl | hx
      · cases hq:lessN a.nm x.nm with
        | true=>rfl
        | false=>exact absurd (lessN_tri hq (by simpa using hlt)) (hn a (List.mem_cons_self ..))
      · exact h.1 x hx
theorem CatL.ins {L:List Tp} (h:CatL L) (t:Tp) (ht:t.nm.size≤50) (hn: ∀x∈L,x.nm≠t.nm):CatL (insT t L):=
  ⟨insT_asc t L h.asc hn,fun x hx=>by
    rcases (mem_insT t x L).1 hx with rfl | hx
    · exact ht
    · exact h.nm x hx⟩
theorem CatL.map_iff {L:List Tp} (h:CatL L) (a:Blk) (t:Tp):mapL L a=some t↔t∈L∧a=keyB t.nm:=by
  constructor
  · intro e;exact CatL.sub e
  · rintro ⟨h1,rfl⟩
    exact (h.find (h.nm t h1)).2 ⟨h1,rfl⟩
theorem CatL.map_ins {L:List Tp} (h:CatL L) (t:Tp) (ht:t.nm.size≤50) (hn: ∀x∈L,x.nm≠t.nm) (a:Blk):mapL (insT t L) a=if a=keyB t.nm then some t else mapL L a:=by
  apply Option.ext
  intro x
  rw [(h.ins t ht hn).map_iff,mem_insT]
  by_cases e:a=keyB t.nm
  · rw [if_pos e]
    constructor
    · rintro ⟨rfl | hx,e2⟩
      · rfl
      · exact absurd (keyB_inj _ _ ht (h.nm x hx) (e.symm.trans e2)).symm (hn x hx)
    · intro e2
      injection e2 with e2
      subst e2
      exact ⟨.inl rfl,e⟩
  · rw [if_neg e,h.map_iff]
    constructor
    · rintro ⟨rfl | hx,e2⟩
      · exact absurd e2 e
      · exact ⟨hx,e2⟩
    · rintro ⟨hx,e2⟩
      exact ⟨.inr hx,e2⟩
end
section
open Go.ChangeMaps Go.MapKept Go.RowKit
variable {w0:Gnd} {w:World} {rs:List Res} {X:Sys} {F:FH} {A:Path→Option Nd} {ι:Path→Nat}
theorem c_clone (h:Fs w0 w F X A ι rs) {mb j:Nat} {L:List Tp} (hr:rs[j]?=some (catM mb L)):
    Calls Tryz.prog 43 #[.map (some mb)] w fun e w'=> ∃mb',e= .returned (.map (some mb'))∧Fs w0 w' F X A ι (catM mb' L::rs):=by
  have hmap:MapAt KeyK okK w mb L.length (tpV (mapL L)):=by
    obtain ⟨⟨k,l,ha,-⟩,-⟩:=h
    exact ha.mapAt (i:=j+2) hr
  obtain ⟨es,clock,hb,h2,h3,h4,h5⟩:=hmap
  refine (AnyW.maps_Clone Tryz.cloneT mb es clock w hb).mono ?_
  rintro e w' ⟨he,hw⟩
  refine ⟨w.heap.size,he,?_⟩
  rw [hw]
  exact h.mkMap ((Frm.refl NoB w).alloc _) ⟨es,clock,block_alloc_new _ _,h2,h3,h4,h5⟩ (Nat.le_refl _)
set_option maxHeartbeats 1000000 in
set_option maxRecDepth 100000 in
theorem c_Create1 (h:Fs w0 w F X A ι rs) (ht:Tx F X) {cb mb i0 i1 i2 b1 b2:Nat} {next:Int} (hr:rs[i0]?=some (catS cb F.fb next mb)) {C:List Nat} {id n P:Nat} (hm:MayFold X A ι C id n P) (nm:ByteArray) (p3 p4 p5:Int) (p6:Bool) (p7:Int)
    (q1:rs[i1]?=some (arr b1 #[.pointer (some ⟨cb,0,none⟩)] 25 neCatp)) (q2:rs[i2]?=some (arr b2 (tpz nm id P p3 p4 p5 p6 p7) 31 neTp))
    (h1:512≤p3∧p3≤8192) (h2: -1≤p4∧p4≤1099511627776) (h3: -1≤p5∧p5≤1125899906842624) (h4:0≤p7∧p7≤1125899906842624):
    Calls Tryz.prog 45 #[.pointer (some ⟨b1,0,none⟩),.pointer (some ⟨b2,0,none⟩)] w fun e w'=>e= .returned (.int .i64 0)∧∃X' A' ι' C' n',Fs w0 w' F X' A' ι' rs∧Fold X X' A ι A' ι' C C' id n n' P:=by
  have HF:=Lib.hid (c_folders h ht hr hm nm p3 p4 p5 p6 p7 h1 h2 h3 h4)
  have c1:w.cell? ⟨b1,0,none⟩=some (.pointer (some ⟨cb,0,none⟩)):=(h.arrCell q1 0).trans rfl
  have HB:=Lib.hid (h.block q2)
  clear h ht hr hm q1 q2 h1 h2 h3 h4
  go_enter Tryz.func45,Tryz.ntmps45
  go_wp2_with (refine loadTp rfl _ rfl b2 rfl nm id P p3 p4 p5 p6 p7 HB.out ?_)
  refine HF.out.mono ?_
  clear HF HB c1
  rintro e w2 ⟨rfl,X',A',ι',C',n',h2,hf⟩
  have H2:=Lib.hid (And.intro h2 hf)
  clear h2 hf
  go_wp2
  go_ret
  exact ⟨rfl,X',A',ι',C',n',H2.out.1,H2.out.2⟩
end
section
open Go.ChangeMaps Go.MapKept Go.RowKit
def partNs (id P:Nat):List ByteArray:=(List.range P).map (partN id)
theorem mem_partNs {id P:Nat} {s:ByteArray}:s∈partNs id P↔∃q,q<P∧s=partN id q:=by
  unfold partNs
  rw [List.mem_map]
  constructor
  · rintro ⟨q,h1,h2⟩;exact ⟨q,List.mem_range.1 h1,h2.symm⟩
  · rintro ⟨q,h1,h2⟩;exact ⟨q,List.mem_range.2 h1,h2.symm⟩
def OldD (next:Nat) (D:List ByteArray):Prop:= ∀s∈D,∃id p,id<next∧p<8∧s=partN id p
theorem id_inj: ∀id,id<100→∀id',id'<100→(Lib.decDigits id++ [45]:List UInt8)=Lib.decDigits id'++ [45]→id=id':=by decide+kernel
theorem digits_free: ∀id,id<100→(45:UInt8)∉Lib.decDigits id:=by decide+kernel
theorem split_first {a b:List UInt8} {x:UInt8} (ha:x∉a) (hb:x∉b): ∀ {r s:List UInt8},a++x::r=b++x::s→a=b:=by
  induction a generalizing b with
  | nil=>
    intro r s h
    cases b with
    | nil=>rfl
    | cons y b=>
      rw [List.nil_append,List.cons_append,List.cons.injEq] at h
      exact absurd (by rw [h.1];exact List.mem_cons_self ..) hb
  | cons y a ih=>
    intro r s h
    cases b with
    | nil=>
      rw [List.nil_append,List.cons_append,List.cons.injEq] at h
      exact absurd (by rw [←h.1];exact List.mem_cons_self ..) ha
    | cons z b=>
      rw [List.cons_append,List.cons_append,List.cons.injEq] at h
      rw [h.1,ih (fun hx=>ha (List.mem_cons_of_mem _ hx)) (fun hx=>hb (List.mem_cons_of_mem _ hx)) h.2]
theorem partN_id {id id' p p':Nat} (h1:id<100) (h2:id'<100) (h:partN id p=partN id' p'):id=id':=by
  unfold partN at h
  have h3:=congrArg (fun b:ByteArray=>b.data.toList) h
  simp only [List.cons.injEq,true_and] at h3
  have h4:=split_first (digits_free id h1) (digits_free id' h2) h3
  exact id_inj id h1 id' h2 (by rw [h4])
theorem partN_ne_ls: ∀id,id<100→∀p,p<10→partN id p≠lsN:=by
  intro id hid p hp e
  have h1:=congrArg (fun b:ByteArray=>b.data.toList[0]?) e
  simp [partN,lsN] at h1
structure MayCr (X:Sys) (A:Path→Option Nd) (next:Nat) (L:List Tp) (n:Nat) (D:List ByteArray) (P:Nat):Prop where
  tree:CatT A (encC next L) n D
  cat:CatL L
  few:L.length<20
  id:next<100
  Pl:1≤P∧P≤8
  old:OldD next D
  size:n+64*P≤5120
  fi:3*P≤X.fi
  fb:P+(dat (n+64*P)-dat n)+(dat (8+107*(L.length+1))-dat (8+107*L.length))≤X.fb
def heldM (X:Sys) (ι:Path→Nat):List Nat:=X.P.im::X.P.bm::(heldL X (ι [cN])++heldL X (ι [cN,lsN]))
end
section
open Go.ChangeMaps Go.MapKept Go.RowKit
variable {w0:Gnd} {w:World} {rs:List Res} {X:Sys} {F:FH} {A:Path→Option Nd} {ι:Path→Nat}
theorem MayCr.save (hA:Rep X A ι) (hl:X.l= []) {next n P:Nat} {L:List Tp} {D:List ByteArray} (h:MayCr X A next L n D P) (t:Tp) (ht:t.nm.size≤50) (next':Int):
    MaySave X.open' A ι (heldM X ι) (encC next L) (encC next' (insT t L))∧(heldM X ι).length=4+dat n+dat (8+107*L.length)∧HeldC X (heldM X ι) (ι [cN]):=by
  have e1:=encC_length (next:Int) L h.cat.nm
  have e2:(encC next' (insT t L)).length=8+107*(L.length+1):=by
    rw [encC_length next' (insT t L) (fun x hx=>by
      rcases (mem_insT t x L).1 hx with rfl | hx
      · exact ht
      · exact h.cat.nm x hx),insT_length]
  have s1:X.nd (ι [cN]) 1=n:=(hA.live _ _ h.tree.c).2.2
  have s2:X.nd (ι [cN,lsN]) 1=(encC next L).length:=(hA.live _ _ h.tree.ls).2.2
  have hlen:(heldM X ι).length=4+dat n+dat (8+107*L.length):=by
    unfold heldM
    rw [List.length_cons,List.length_cons,List.length_append,heldL_length,heldL_length,s1,s2,e1]
    omega
  have hf:=h.few
  have hs:=h.size
  have hb:=h.fb
  have d1:dat n≤10:=dat_le (by omega)
  have d2:dat (8+107*L.length)≤5:=by unfold dat;omega
  have d3:dat (8+107*(L.length+1))≤5:=by unfold dat;omega
  refine ⟨⟨h.tree.ls,by rw [e1];omega,?_,?_,?_,?_,?_⟩,hlen,?_⟩
  · intro k hk
    have:X.l= []:=hl
    simp [Sys.keys,Sys.open',this] at hk
  · exact List.mem_cons_of_mem _ (List.mem_cons_self ..)
  · exact heldL_held (X:=X) (fun c hc=>List.mem_cons_of_mem _ (List.mem_cons_of_mem _ (List.mem_append_right _ hc)))
  · rw [e1,e2];show _≤X.fb;omega
  · rw [e1,e2,hlen];omega
  · exact heldL_held (X:=X) (fun c hc=>List.mem_cons_of_mem _ (List.mem_cons_of_mem _ (List.mem_append_left _ hc)))
theorem MayCr.fold (hA:Rep X A ι) (hl:X.l= []) {next n P:Nat} {L:List Tp} {D:List ByteArray} (h:MayCr X A next L n D P) (t:Tp) (ht:t.nm.size≤50) (next':Int) {X1:Sys} {C1:List Nat} (hs:Saved X.open' X1 (heldM X ι) C1 (encC next L) (encC next' (insT t L))):
    MayFold X1 (setT A [cN,lsN] (some (.file (encC next' (insT t L))))) ι C1 next n P:=by
  have hsv:=h.save hA hl t ht next'
  have e1:=encC_length (next:Int) L h.cat.nm
  have e2:(encC next' (insT t L)).length=8+107*(L.length+1):=by
    rw [encC_length next' (insT t L) (fun x hx=>by
      rcases (mem_insT t x L).1 hx with rfl | hx
      · exact ht
      · exact h.cat.nm x hx),insT_length]
  have hfi:=hs.fi
  have hfb:=hs.fb
  have hln:=hs.len
  rw [e1,e2] at hfb hln
  rw [hsv.2.1] at hln
  have hf:=h.few
  have hz:=h.size
  have hp:=h.Pl
  have hb:=h.fb
  have hi:=h.fi
  have d1:dat n≤10:=dat_le (by omega)
  have d2:dat (8+107*L.length)≤5:=by unfold dat;omega
  have d3:dat (8+107*(L.length+1))≤5:=by unfold dat;omega
  have d4:dat (n+64*P)≤10:=dat_le (by omega)
  have f1:X.open'.fi=X.fi:=rfl
  have f2:X.open'.fb=X.fb:=rfl
  have eP:X1.P=X.P:=by rw [hs.goes.wr];rfl
  refine ⟨?_,h.id,h.Pl,?_,hz,by omega,by omega,hs.goes.cov,?_,?_,?_,by omega⟩
  · unfold setT;rw [if_neg (by simp)];exact h.tree.c
  · intro q hq
    unfold setT
    rw [if_neg (by intro e;simp at e;exact partN_ne_ls next h.id q (by omega) e)]
    cases hx:A [cN,partN next q] with
    | none=>rfl
    | some x=>
      rcases h.tree.kids (partN next q) (by rw [hx];simp) with e | e
      · exact absurd e (partN_ne_ls next h.id q (by omega))
      · obtain ⟨id,p,h1,h2,h3⟩:=h.old _ e
        have:=partN_id h.id (by have:=h.id;omega) h3
        omega
  · rw [eP];exact hs.goes.sub _ (List.mem_cons_self ..)
  · rw [eP];exact hs.goes.sub _ (List.mem_cons_of_mem _ (List.mem_cons_self ..))
  · exact hs.goes.held _ ((hA.live _ _ h.tree.c).1) hsv.2.2
end
section
open Go.ChangeMaps Go.MapKept Go.RowKit
structure CrMade (X Y:Sys) (A A':Path→Option Nd) (old new:Blk) (id n n' P:Nat):Prop where
  same:Same X Y
  op:Y.op=false
  l:Y.l= []
  m:Y.m=X.m+1
  c:A' [cN]=some (.dir n')
  n1:n≤n'∧n'≤n+64*P
  ls:A' [cN,lsN]=some (.file new)
  keep: ∀p,A p≠none→p≠ [cN]→p≠ [cN,lsN]→A' p=A p
  only: ∀p,A' p≠none→A p≠none∨∃j,j<P∧(p= [cN,partN id j]∨p= [cN,partN id j,segN]∨p= [cN,partN id j,prodN])
  born: ∀j,j<P→NewD A' (partN id j)
  fi:Y.fi+3*P=X.fi
  fb:Y.fb+dat n'+P+dat new.length=X.fb+dat n+dat old.length
theorem crMade {X X1 X' Y:Sys} {A A':Path→Option Nd} {ι ι':Path→Nat} {C C1 C':List Nat} {old new:Blk} {id n n' P:Nat} {D:List ByteArray} (ht:CatT A old n D) (hs:Saved X.open' X1 C C1 old new) (hf:Fold X1 X' (setT A [cN,lsN] (some (.file new))) ι A' ι' C1 C' id n n' P) (hx:X'=X.open'.wr X'.l) (hc:Comm X' Y):
    CrMade X Y A A' old new id n n' P:=by
  have hlsne: [cN,lsN]≠ [cN]:=by simp
  have hset:setT A [cN,lsN] (some (.file new)) [cN,lsN]=some (.file new):=if_pos rfl
  have hoth: ∀p,p≠ [cN,lsN]→setT A [cN,lsN] (some (.file new)) p=A p:=fun p e=>if_neg e
  have e1:Y.fi=X'.fi:=by unfold Sys.fi;rw [hc.v,hc.same.P]
  have e2:Y.fb=X'.fb:=by unfold Sys.fb;rw [hc.v,hc.same.P]
  have f1:X.open'.fi=X.fi:=rfl
  have f2:X.open'.fb=X.fb:=rfl
  refine ⟨Same.trans (by rw [hx];exact ⟨rfl,rfl,rfl,rfl,rfl,rfl,rfl⟩) hc.same,hc.op,hc.l,hc.m.trans (by rw [hx];rfl),hf.c,hf.n1,?_,fun p h1 h2 h3=>?_,fun p hp=>?_,hf.new,?_,?_⟩
  · rw [(hf.keep [cN,lsN] (by rw [hset];simp) hlsne).1,hset]
  · rw [(hf.keep p (by rw [hoth p h3];exact h1) h2).1,hoth p h3]
  · rcases hf.only p hp with h | h
    · by_cases e:p= [cN,lsN]
      · left;rw [e,ht.ls];simp
      · rw [hoth p e] at h;exact .inl h
    · exact .inr h
  · have a1:=hf.fi;have a2:=hs.fi;omega
  · have a1:=hf.fb;have a2:=hs.fb;omega
theorem partNs_length (id P:Nat):(partNs id P).length=P:=by simp [partNs]
theorem CrMade.tree {X Y:Sys} {A A':Path→Option Nd} {old new:Blk} {id n n' P:Nat} {D:List ByteArray} (h:CrMade X Y A A' old new id n n' P) (ht:CatT A old n D):CatT A' new n' (D++partNs id P):=by
  refine ⟨h.c,h.ls,fun s hs=>?_,?_⟩
  · rcases h.only _ hs with h1 | ⟨j,hj,h1 | h1 | h1⟩
    · rcases ht.kids s h1 with e | e
      · exact .inl e
      · exact .inr (List.mem_append_left _ e)
    · have e:s=partN id j:=by simpa using h1
      exact .inr (List.mem_append_right _ (mem_partNs.2 ⟨j,hj,e⟩))
    · simp at h1
    · simp at h1
  · have a1:=h.n1;have a2:=ht.size
    rw [List.length_append,partNs_length]
    omega
theorem OldD.more {next P:Nat} {D:List ByteArray} (h:OldD next D) (hP:P≤8):OldD (next+1) (D++partNs next P):=fun s hs=>by
  rcases List.mem_append.1 hs with hs | hs
  · obtain ⟨id,p,h1,h2,h3⟩:=h s hs
    exact ⟨id,p,by omega,h2,h3⟩
  · obtain ⟨q,hq,rfl⟩:=mem_partNs.1 hs
    exact ⟨next,q,by omega,by omega,rfl⟩
theorem NewD.keep {X Y:Sys} {A A':Path→Option Nd} {old new:Blk} {id n n' P:Nat} (h:CrMade X Y A A' old new id n n' P) {d:ByteArray} (e:d≠lsN) (hd:NewD A d):NewD A' d:=by
  obtain ⟨⟨m,h1⟩,h2,h3⟩:=hd
  refine ⟨⟨m,?_⟩,?_,?_⟩
  · rw [h.keep _ (by rw [h1];simp) (by simp) (by simp [e])];exact h1
  · rw [h.keep _ (by rw [h2];simp) (by simp) (by simp)];exact h2
  · rw [h.keep _ (by rw [h3];simp) (by simp) (by simp)];exact h3
theorem results_tmp4 {fn:Func} {t u v x:Tmp} (h:fn.results= #[.tmp t,.tmp u,.tmp v,.tmp x]) (tmps:Array Value) (P:Program) (w:World):
    (results fn tmps).run P w= .ok (.tuple #[tmps.getD t undef,tmps.getD u undef,tmps.getD v undef,tmps.getD x undef]) w:=by
  simp [results,h]
structure Calm (F:FH) (X:Sys):Prop where
  b:F.begun=false
  d:F.dead=false
  op:X.op=false
  l:X.l= []
  lim:X.D.lim=none
theorem fit12:PlanFit 1200 600:=⟨by decide,by decide,by decide⟩
theorem catR0:CatR 1 []:=⟨by constructor<;>omega,fun t ht=>by cases ht⟩
theorem catL0:CatL []:=⟨List.Pairwise.nil,fun t ht=>by cases ht⟩
theorem path_c:pathB [cN]=⟨#[47,99]⟩:=rfl
end
section
open Go.ChangeMaps Go.MapKept Go.RowKit
variable {w0:Gnd} {w:World} {rs:List Res}
set_option maxRecDepth 100000 in
theorem c_fresh (h:St w0 w rs):
    Calls Tryz.prog 10 #[] w fun e w'=> ∃hb F X A ι cb mb n,e= .returned (.tuple #[.pointer (some ⟨hb,0,none⟩),.pointer (some ⟨F.fb,0,none⟩),.pointer (some ⟨cb,0,none⟩),.bool true])∧Fs w0 w' F X A ι (catS cb F.fb 1 mb::catM mb []::rs)∧Calm F X∧CatT A (encC 1 []) n []∧RootT A∧X.m=3∧X.fi=597∧X.fb=874:=by
  have HN:=Lib.hid (S_New h 1200 (by omega) (by omega))
  clear h
  go_enter Tryz.func10,Tryz.ntmps10
  go_wp2_with fail
  refine HN.out.mono ?_
  clear HN
  rintro e w1 ⟨H,rfl,h1⟩
  have HM:=Lib.hid (f_Mkfs (ni:=600) (show St w0 w1 (dev H (DSt.new 1200)::rs) from h1) fit12 (by decide))
  clear h1
  go_wp2_with fail
  refine HM.out.mono ?_
  clear HM
  rintro e w2 ⟨rfl,jh,J,D,cb,wb,ab,sb,J2,D2,hlim,hops,hl,h2⟩
  have hk:=mkd_mk3 H jh J D cb wb ab sb 1200 600
  obtain ⟨s,hs⟩: ∃s,(sysOf H jh J D cb wb ab sb (fun _=>zeros) 1200 0 (planOf 1200 600)).mk3.v=s:=⟨_,rfl⟩
  rw [hs] at hl hk
  have HK:=Lib.hid hk
  have HO:=Lib.hid (f_Mount h2 hl hlim (by omega) fit12 (by decide) (by decide) hk.sup)
  clear hk hl hlim hops h2 hs
  go_wp2_with fail
  refine HO.out.mono ?_
  clear HO
  rintro e w3 ⟨fb,lb,cb,wb,ab,sb,jh,J3,D3,rfl,hlim,h3⟩
  have hf3:=fs_fresh fit12 HK.out h3
  obtain ⟨-,r1,r2⟩:=mkd_rep (X:=sysOf H jh J3 D3 cb wb ab sb s 1200 (1+1) (planOf 1200 600)) rfl HK.out fit12
  have hc:=c_Make hf3 rfl rfl rfl rfl hlim (by show 2<1000000;decide) (by omega) (by rw [r1];decide)
  have HX:Hid ((sysOf H jh J3 D3 cb wb ab sb s 1200 (1+1) (planOf 1200 600)).m=2∧(sysOf H jh J3 D3 cb wb ab sb s 1200 (1+1) (planOf 1200 600)).fb=877∧(sysOf H jh J3 D3 cb wb ab sb s 1200 (1+1) (planOf 1200 600)).fi+1=600):=Lib.hid ⟨rfl,r1,r2⟩
  obtain ⟨X,hX⟩: ∃X,sysOf H jh J3 D3 cb wb ab sb s 1200 (1+1) (planOf 1200 600)=X:=⟨_,rfl⟩
  rw [hX] at hc HX
  rw [path_c] at hc
  have HC:=Lib.hid hc
  clear h3 hf3 hlim r1 r2 hc hX HK
  go_wp2_with fail
  refine HC.out.mono ?_
  clear HC
  rintro e w4 ⟨rfl,A,ι,Y,n,h4,ht,hrt,q1,q2,q3,q4,q5,q6,q7,q8⟩
  have ho:=c_Open h4 ht h4.2.root catL0 (by decide) catR0
  rw [path_c] at ho
  have HO:=Lib.hid ho
  have HRT:=Lib.hid hrt
  have HT:=Lib.hid (And.intro ht (And.intro q1 (And.intro q2 (And.intro q3 (And.intro q4 (And.intro q7 q8))))))
  clear h4 ht hrt q1 q2 q3 q4 q5 q6 q7 q8 ho
  go_wp2_with fail
  refine HO.out.mono ?_
  clear HO
  rintro e w5 ⟨ob,mb,rfl,h5⟩
  have H5:=Lib.hid h5
  clear h5
  go_wp2
  (try simp only [Exit.inBlock,Exit.then])
  refine bodyPost_ret (results_tmp4 rfl _ _ _) rfl ?_
  refine ⟨H.b,⟨fb,lb,false,false,false⟩,Y,A,ι,ob,mb,n,rfl,H5.out,⟨rfl,rfl,HT.out.2.1,HT.out.2.2.1,HT.out.2.2.2.1⟩,HT.out.1,HRT.out,?_,?_,?_⟩
  · have a:=HT.out.2.2.2.2.1;have b:=HX.out.1;omega
  · have a:=HT.out.2.2.2.2.2.1;have b:=HX.out.2.2;omega
  · have a:=HT.out.2.2.2.2.2.2;have b:=HX.out.2.1;omega
end
section
open Go.ChangeMaps Go.MapKept Go.RowKit
variable {α:Type} {mk:α→Value} {ok:α→Prop} {P:Program} {k t e:TypeId} {w:World} {b n:Nat} {f:α→Option Value}
theorem MapAt.delete [DecidableEq α] (K:KeyKind P k mk ok) (ht:P.underlying t=some (.map k e)) (h:MapAt mk ok w b n f) {a:α} (ha:ok a) (hs:(f a).isSome=true):
    ∃o,(∀ty W,W.heap[b]?=w.heap[b]?→(Builtin.delete_ #[t,k] ty #[.map (some b),mk a]).run P W= .ok (.tuple #[]) (setBlock W b o))∧
      (∀W,b<W.heap.size→MapAt mk ok (setBlock W b o) b (n-1) (upd f a none)):=by
  obtain ⟨es,clock,h1,h2,h3,h4,h5,h6⟩:=h.find K ha
  obtain ⟨l,hl⟩:=K.lit a ha
  rcases h6 with ⟨e1,e2,e3⟩ | ⟨j,x,e1,e2,e3,e4⟩
  · rw [e1] at hs;cases hs
  · have hj:=(List.getElem?_eq_some_iff.1 e3).1
    have hjs:j<es.size:=by simpa using hj
    have hnd:es.toList.Pairwise (fun x y=>x.key≠y.key):=((stamped_iff es clock).1 h2).2.2
    have hto:(es.eraseIdxIfInBounds j).toList=es.toList.eraseIdx j:=by
      unfold Array.eraseIdxIfInBounds
      rw [dif_pos hjs]
      simp
    have hmem: ∀y,y∈(es.eraseIdxIfInBounds j).toList↔y∈es.toList∧y.key≠mk a:=by
      intro y
      rw [hto,List.mem_eraseIdx_iff_getElem?]
      constructor
      · rintro ⟨i,hij,hi⟩
        refine ⟨List.mem_of_getElem? hi,fun hk=>?_⟩
        obtain ⟨g1,g2⟩:=List.getElem?_eq_some_iff.1 hi
        obtain ⟨g3,g4⟩:=List.getElem?_eq_some_iff.1 e3
        have hp:=List.pairwise_iff_getElem.1 hnd
        rcases Nat.lt_or_gt_of_ne hij with hlt | hlt
        · exact hp i j g1 g3 hlt (by rw [g2,g4,hk,e4])
        · exact hp j i g3 g1 hlt (by rw [g2,g4,hk,e4])
      · rintro ⟨hy,hk⟩
        obtain ⟨i,hi⟩:=List.getElem?_of_mem hy
        refine ⟨i,fun hij=>?_,hi⟩
        subst hij
        rw [e3] at hi
        cases hi
        exact hk e4
    refine ⟨.map (es.eraseIdxIfInBounds j) clock,fun ty W hW=>?_,fun W hb=>?_⟩
    · rw [h1] at hW
      simp [Builtin.delete_,run_underlying ht,MapKept.run_getObj_map hW,K.keyed.check W _ hl,e2,MapKept.run_setObj_map _ hW,Result.andThen,ChangeMaps.setBlock]
    · refine ⟨_,_,block_setBlock_same _ hb,stamped_erase h2 j,?_,?_,?_⟩
      · intro y hy
        exact h3 y ((hmem y).1 hy).1
      · rw [←Array.length_toList,hto,List.length_eraseIdx_of_lt hj,Array.length_toList,h4]
      · intro a' v' ha'
        unfold upd
        by_cases hc:a'=a
        · subst hc
          rw [if_pos rfl]
          constructor
          · intro hv;cases hv
          · rintro ⟨y,hy,hy2,hy3⟩
            exact absurd hy2 ((hmem y).1 hy).2
        · rw [if_neg hc,h5 a' v' ha']
          constructor
          · rintro ⟨y,hy,hy2,hy3⟩
            exact ⟨y,(hmem y).2 ⟨hy,fun e'=>hc (K.inj _ _ (hy2.symm.trans e'))⟩,hy2,hy3⟩
          · rintro ⟨y,hy,hy2,hy3⟩
            exact ⟨y,((hmem y).1 hy).1,hy2,hy3⟩
end
section
open Go.ChangeMaps Go.MapKept Go.RowKit
def delT (nm:ByteArray) (L:List Tp):List Tp:=L.filter fun t=>!decide (t.nm=nm)
theorem mem_delT {nm:ByteArray} {L:List Tp} {t:Tp}:t∈delT nm L↔t∈L∧t.nm≠nm:=by
  simp [delT,List.mem_filter]
theorem CatL.del {L:List Tp} (h:CatL L) (nm:ByteArray):CatL (delT nm L):=
  ⟨h.asc.filter _,fun x hx=>h.nm x (mem_delT.1 hx).1⟩
theorem CatL.map_del {L:List Tp} (h:CatL L) {nm:ByteArray} (hn:nm.size≤50) (a:Blk):mapL (delT nm L) a=if a=keyB nm then none else mapL L a:=by
  apply Option.ext
  intro x
  rw [(h.del nm).map_iff,mem_delT]
  by_cases e:a=keyB nm
  · rw [if_pos e]
    constructor
    · rintro ⟨⟨h1,h2⟩,h3⟩
      exact absurd (keyB_inj _ _ hn (h.nm x h1) (e.symm.trans h3)).symm h2
    · intro h3;cases h3
  · rw [if_neg e,h.map_iff]
    constructor
    · rintro ⟨⟨h1,h2⟩,h3⟩;exact ⟨h1,h3⟩
    · rintro ⟨h1,h2⟩;exact ⟨⟨h1,fun e'=>e (by rw [h2,e'])⟩,h2⟩
theorem asc_ne {L:List Tp} (h:L.Pairwise fun x y=>lessN x.nm y.nm=true):L.Pairwise fun x y=>x.nm≠y.nm:=
  h.imp fun {x y} hxy e=>by rw [e,lessN_irr] at hxy;cases hxy
theorem CatL.del_length {L:List Tp} (h:CatL L) {t:Tp} (ht:t∈L):(delT t.nm L).length+1=L.length:=by
  have hnd:=asc_ne h.asc
  clear h
  induction L with
  | nil=>cases ht
  | cons x r ih=>
    rw [List.pairwise_cons] at hnd
    unfold delT
    by_cases e:x.nm=t.nm
    · have:r.filter (fun y=>!decide (y.nm=t.nm))=r:=by
        rw [List.filter_eq_self]
        intro y hy
        have:=hnd.1 y hy
        rw [e] at this
        simp [Ne.symm this]
      rw [List.filter_cons,if_neg (by simp [e]),this,List.length_cons]
    · have hr:t∈r:=by
        rcases List.mem_cons.1 ht with rfl | hr
        · exact absurd rfl e
        · exact hr
      have:=ih hr hnd.2
      unfold delT at this
      rw [List.filter_cons,if_pos (by simp [e]),List.length_cons,List.length_cons]
      omega
end
section
open Go.ChangeMaps Go.MapKept Go.RowKit
variable {w0:Gnd} {w:World} {rs:List Res} {X:Sys} {F:FH} {A:Path→Option Nd} {ι:Path→Nat}
theorem tpV_none {L:List Tp} (hL:CatL L) {nm:ByteArray} (hn:nm.size≤50) (hno: ∀x∈L,x.nm≠nm):tpV (mapL L) (keyB nm)=none:=by
  have:mapL L (keyB nm)=none:=by
    cases hq:mapL L (keyB nm) with
    | none=>rfl
    | some t=>
      have h1:=(hL.map_iff _ _).1 hq
      exact absurd (keyB_inj _ _ hn (hL.nm t h1.1) h1.2).symm (hno t h1.1)
  unfold tpV
  rw [this]
  rfl
end
end Go.Proofs.YtlemndledcmhiaaGreatDoor
