/-
  The catalog, from the device up, part 5.
-/
import Derived.Test.YtlemndledcmhiaaGreatDoorV4
import Derived.Deep.AppendLies
namespace Go.Proofs.YtlemndledcmhiaaGreatDoor
set_option linter.unusedVariables false
set_option linter.unusedSimpArgs false
set_option maxHeartbeats 8000000
set_option maxRecDepth 100000
open Tryz
open Lib (hid)
open Go.ChangeMaps Go.MapKept Go.RowKit
section
variable {w0:Gnd} {w:World} {rs:List Res}
theorem Qg9 {cb wb:Nat} {op ov:Bool} {l:WrL} {H:Hdl} {jh:K9} {J:JSt} (h:St w0 w (cst cb jh.jb op ov wb::wrt wb l::jrn H jh J::rs)) (a:Nat) {D:DSt} (hr:rs[a]?=some (dev H D)) (hJ:JOk D.n J) (ho:D.ops<1000000000) (k:Int) (hk0:245≤k) (hk1:k<(D.n:Int)) (hn:D.n≤65536) (h512: ∀p∈l,p.2.length=512):
 Calls prog 202 #[.pointer (some ⟨cb,0,none⟩),.int .i64 k] w fun e w'=> ∃v,e= .returned (.tuple #[v,.int .i64 0])∧Frm NoB w w'∧Qc w' v (VQ l (VZ J D) k) (QR w):=by
 have hok:okI k:=(Yx k).2 (by omega);have hB:((look l k).getD Qs).length=512:=by
  cases hl:look l k with
  | none=>exact Q6
  | some b=>exact h512 _ (VR hl)
 obtain ⟨B,hBe⟩: ∃B,(look l k).getD Qs=B:=⟨_,rfl⟩;have hlk:=h.wrtLook (i:=1) rfl hok w rfl;rw [hBe] at hB hlk;have c0:w.cell? ⟨cb,0,none⟩=some (.pointer (some ⟨jh.jb,0,none⟩)):=(h.arrCell (i:=0) rfl 0).trans rfl;have c3:w.cell? ⟨cb,3,none⟩=some (.map (some wb)):=(h.arrCell (i:=0) rfl 3).trans rfl;have HR:=hid (WM h);have HN:=hid (Qb w (.cells zc 257 (0,0)));have hf3:Frm NoB w (w.alloc (.cells (B.map B8).toArray 257 (0,0))):=(Frm.refl _ _).alloc _;have H3:=hid (h.frm0 hf3);have HY:=hid (And.intro hf3 (QdY w B hB));have HJR:=hid (Qkq (show St w0 _ (jrn H jh J::cst cb jh.jb op ov wb::wrt wb l::rs) from H3.out.perm (List.perm_append_comm (l₁:= [_,_]) (l₂:= [_]) |>.append_right _)) (a+2) hr hJ ho k hk0 hk1);have c0':(w.alloc (.cells (B.map B8).toArray 257 (0,0))).cell? ⟨cb,0,none⟩=some (.pointer (some ⟨jh.jb,0,none⟩)):=(H3.out.arrCell (i:=0) rfl 0).trans rfl;obtain ⟨s,hs⟩: ∃s,(look l k).isSome=s:=⟨_,rfl⟩;rw [hs] at hlk;have HS:=hid hs;have HBE:=hid hBe;have HBB:=hid hB;clear h hr hJ ho hk0 hk1 hn h512 hok hB hBe hf3 H3 hs;go_enter func202,ntmps202;go_wp2_with fail;refine HR.out.mono ?_;rintro e w2 ⟨rfl,rfl⟩;go_upto_region 4 with (first | refine EC rfl rfl ?_ | refine El rfl _ _ rfl w.heap.size B HBB.out rfl rfl zc Kv HN.out ?_)
 rw [Ky];clear hlk c0 c3 HR HN;obtain ⟨w3,hw3⟩: ∃w3,w3=w.alloc (.cells (B.map B8).toArray 257 (0,0)):=⟨_,rfl⟩;rw [←hw3] at HY HJR c0' ⊢;clear hw3;obtain ⟨nb,hnb⟩: ∃nb,w.heap.size=nb:=⟨_,rfl⟩;rw [hnb] at HY ⊢;clear hnb;cases s with
 | true=>
   go_wp2_with fail;go_ret2;refine ⟨_,rfl,HY.out.1,?_⟩;have e:VQ l (VZ J D) k=B:=by
    unfold VQ;rw [←HBE.out];cases hl:look l k with
    | none=>have:=HS.out;rw [hl] at this;cases this
    | some b=>rfl
   rw [e];exact HY.out.2
 | false=>
   have e:VQ l (VZ J D) k=VZ J D k.toNat:=by
    unfold VQ;cases hl:look l k with
    | none=>rfl
    | some b=>have:=HS.out;rw [hl] at this;cases this
   have HE:=hid e;clear e;go_wp2_with fail;refine HJR.out.mono ?_;clear HJR;rintro e w4 ⟨v,rfl,hf4,hb4⟩;have H4:=hid (And.intro (HY.out.1.trans hf4 (fun _ _ e=>e)) (hb4.mono (R':=QR w) fun x _ hx=>Nat.le_trans HY.out.1.size hx));clear hf4 hb4;go_wp2;go_ret2;refine ⟨_,rfl,H4.out.1,?_⟩;rw [HE.out];exact H4.out.2
theorem Qbh {X:Sys} (h:At w0 w X rs) (k:Nat) (hk:245≤k) (hn:k<X.n):
 Calls prog 202 #[.pointer (some ⟨X.cb,0,none⟩),.int .i64 k] w fun e w'=> ∃v,e= .returned (.tuple #[v,.int .i64 0])∧Frm NoB w w'∧Qc w' v (X.v k) (QR w):=by
 have ho:=h.ok;refine (Qg9 h.open 0 rfl (ho.live.ok (by have:=ho.g;omega) (by have:=ho.m;omega)) (by have:=ho.ops;have:=ho.m;omega) (k:Int) (by omega) (by rw [ho.live.dn];omega) (by rw [ho.live.dn];have:=ho.pl.n;have:=ho.pn;omega) ho.cok.b512).mono ?_;rintro e w' ⟨v,he,hf,hs⟩;refine ⟨v,he,hf,?_⟩;have e1:VQ X.l (VZ X.J X.D) (k:Int)=X.v k:=by
  unfold VQ Sys.v cvw;rw [Int.toNat_natCast,ho.live.view k hk hn]
 rw [e1] at hs;exact hs
theorem Frm.setRowNew {w w':World} (h:Frm NoB w w') {g:Nat} (hg:w.heap.size≤g) (cs:Array Value):Frm NoB w (w'.setRow g cs):=
 h.trans (N:=fun x=>w.heap.size≤x) ⟨rfl,rfl,rfl,by rw [size_setRow];exact Nat.le_refl _,fun k hk hne=>setRow_other w' g k cs (fun e=>hne (by rw [e];exact hg))⟩ (fun x hx hN=>absurd hN (by omega))
def lays (x:Blk) (o:Nat) (b:List UInt8):Blk:=x.take o++b++x.drop (o+b.length)
theorem Y6 (x:Blk) (o:Nat) (b:List UInt8) (h:o+b.length≤x.length):(lays x o b).length=x.length:=by
 unfold lays;rw [List.length_append,List.length_append,List.length_take,List.length_drop];omega
theorem QcY (x:Blk) (o:Nat) (b:List UInt8) (h:o+b.length≤x.length) (p:Nat):(lays x o b).getD p 0=if o≤p∧p<o+b.length then b.getD (p-o) 0 else x.getD p 0:=by
 unfold lays;simp only [List.getD_eq_getElem?_getD];by_cases h1:p<o
 ·rw [if_neg (by omega),List.append_assoc,List.getElem?_append_left (by rw [List.length_take];omega),List.getElem?_take,if_pos h1]
 ·by_cases h2:p<o+b.length
  ·rw [if_pos ⟨by omega,h2⟩,List.getElem?_append_left (by rw [List.length_append,List.length_take];omega),List.getElem?_append_right (by rw [List.length_take];omega),List.length_take,Nat.min_eq_left (by omega)]
  ·rw [if_neg (by omega),List.getElem?_append_right (by rw [List.length_append,List.length_take];omega),List.length_append,List.length_take,Nat.min_eq_left (by omega),List.getElem?_drop]
   congr 2
   omega
theorem Qej {w w1:World} {blk off n cap:Nat} {x:Blk} (h:Qc w1 (.slice (some ⟨blk,off,none⟩) n cap) x (QR w)) (hf:Frm NoB w w1) (hx:0<x.length) (o:Nat) {sa:Addr} {sl sc:Nat} (b:List UInt8) (ho:o+b.length≤x.length) (hb:b.length=Nat.min sl (x.length-o)) (hs: ∀j u,(b.map B8)[j]?=some u→w1.cell? (sa.add j)=some u):
 ∃cs,(∀ty d,(Builtin.copy_ #[76,76] ty #[.slice (some ⟨blk,off+o,none⟩) (x.length-o) d,.slice (some sa) sl sc]).run prog w1= .ok (goInt b.length) (w1.setRow blk cs))∧Frm NoB w (w1.setRow blk cs)∧Qc (w1.setRow blk cs) (.slice (some ⟨blk,off,none⟩) n cap) (lays x o b) (QR w):=by
 obtain ⟨blk',off',cap',c,e,hcap,⟨t,ht,hg⟩,hcell,hR⟩:=h;cases e;have hsz:off+x.length≤c.size:=by
  have h2:=(Array.getElem?_eq_some_iff.1 (hcell (x.length-1) (by omega))).1;omega
 refine ⟨(c.toList.take (off+o)++b.map B8++c.toList.drop (off+o+(b.map B8).length)).toArray,fun ty d=>?_,hf.setRowNew hR _,?_⟩
 ·have:=run_copy_row (P:=prog) w1 76 76 ty 5 blk (off+o) (x.length-o) d sa sl sc c t (b.map B8) underlying76 (by kernel_rfl) hg (by rw [List.length_map];exact hb) hs (by rw [List.length_map];omega) (by intro u hu;obtain ⟨y,_,rfl⟩:=List.mem_map.1 hu;rfl);rw [List.length_map] at this ⊢;exact this
 ·refine ⟨blk,off,cap,_,by rw [Y6 _ _ _ ho],by rw [Y6 _ _ _ ho];exact hcap,⟨t,ht,setRow_heap _ _ _ _ _ _ hg⟩,fun i hi=>?_,hR⟩;rw [Y6 _ _ _ ho] at hi;rw [QcY _ _ _ ho,List.getElem?_toArray,List.length_map];have hc:=hcell i hi;rw [←Array.getElem?_toList] at hc;by_cases h1:i<o
  ·rw [if_neg (by omega),List.append_assoc,List.getElem?_append_left (by rw [List.length_take,Array.length_toList];omega),List.getElem?_take,if_pos (by omega)];exact hc
  ·by_cases h2:i<o+b.length
   ·rw [if_pos ⟨by omega,h2⟩,List.getElem?_append_left (by rw [List.length_append,List.length_take,List.length_map,Array.length_toList];omega),List.getElem?_append_right (by rw [List.length_take];omega),List.length_take,Array.length_toList,Nat.min_eq_left (by omega),List.getElem?_map,show off+i-(off+o)=i-o by omega,List.getD_eq_getElem?_getD];rw [List.getElem?_eq_getElem (show i-o<b.length by omega)];rfl
   ·rw [if_neg (by omega),List.getElem?_append_right (by rw [List.length_append,List.length_take,List.length_map];omega),List.length_append,List.length_take,List.length_map,Array.length_toList (xs:=c),Nat.min_eq_left (by omega),List.getElem?_drop,show off+o+b.length+(off+i-(off+o+b.length))=off+i by omega];exact hc
def fb (v:Nat→Blk) (f:Nat→Nat) (p:Nat):UInt8:=(v (f (2+p/512))).getD (p%512) 0
def Laid (v u:Nat→Blk) (f:Nat→Nat) (nb s d:Nat) (b:List UInt8):Prop:= ∀p,p<nb*512→fb u f p=if s≤p∧p<s+d then b.getD (p-s) 0 else fb v f p
theorem Laid.zero (v:Nat→Blk) (f:Nat→Nat) (nb s:Nat) (b:List UInt8):Laid v v f nb s 0 b:=fun p hp=>by rw [if_neg (by omega)]
theorem Laid.step {v u:Nat→Blk} {f:Nat→Nat} {nb s d m:Nat} {b:List UInt8} (h:Laid v u f nb s d b) (hinj: ∀k j,k<nb→j<nb→f (2+k)=f (2+j)→k=j) (hk:(s+d)/512<nb) (hl:(u (f (2+(s+d)/512))).length=512) (hm:(s+d)%512+m≤512) (hd:d+m≤b.length) {u':Nat→Blk} (hu: ∀j,u' j=if j=f (2+(s+d)/512) then lays (u (f (2+(s+d)/512))) ((s+d)%512) ((b.drop d).take m) else u j):Laid v u' f nb s (d+m) b:=fun p hp=>by
 have hbl:((b.drop d).take m).length=m:=by rw [List.length_take,List.length_drop];omega
 have h1:=h p hp;have hpk:p/512<nb:=by omega
 unfold fb at h1 ⊢;rw [hu];by_cases e:p/512=(s+d)/512
 ·rw [if_pos (by rw [e]),QcY _ _ _ (by rw [hbl,hl];exact hm),hbl];rw [e] at h1;by_cases hin:(s+d)%512≤p%512∧p%512<(s+d)%512+m
  ·rw [if_pos hin,if_pos (by omega),List.getD_eq_getElem?_getD,List.getElem?_take,if_pos (by omega),List.getElem?_drop,List.getD_eq_getElem?_getD,show d+(p%512-(s+d)%512)=p-s by omega]
  ·rw [if_neg hin,h1,e];by_cases hs:s≤p∧p<s+d
   ·rw [if_pos hs,if_pos (by omega)]
   ·rw [if_neg hs,if_neg (by omega)]
 ·rw [if_neg (fun x=>e (hinj _ _ hpk hk x)),h1];by_cases hs:s≤p∧p<s+d
  ·rw [if_pos hs,if_pos (by omega)]
  ·rw [if_neg hs,if_neg (by omega)]
theorem Qc.part {w:World} {bb bo n vc:Nat} {b:List UInt8} {R:Nat→Prop} (h:Qc w (.slice (some ⟨bb,bo,none⟩) n vc) b R) (d m:Nat): ∀j u,(((b.drop d).take m).map B8)[j]?=some u→w.cell? ((⟨bb,bo+d,none⟩:Addr).add j)=some u:=fun j u hj=>by
 obtain ⟨_,_,_,e,_,hc,_⟩:=h.cells;cases e;have:=hc (d+j) u (by
  rw [List.getElem?_map] at hj ⊢;rw [List.getElem?_take] at hj;by_cases hm:j<m
  ·rw [if_pos hm,List.getElem?_drop] at hj;exact hj
  ·rw [if_neg hm] at hj;cases hj)
 have e3:((⟨bb,bo,none⟩:Addr).add (d+j))=(⟨bb,bo+d,none⟩:Addr).add j:=by
  unfold Addr.add;by_cases h1:d+j=0
  ·have h2:j=0:=by omega
   have h3:d=0:=by omega
   subst h2;subst h3;rfl
  ·rw [if_neg h1];by_cases h2:j=0
   ·subst h2;rfl
   ·rw [if_neg h2,Nat.add_assoc]
 rw [←e3];exact this
variable {X:Sys}
theorem Qf2 (h:At w0 w X rs) (hop:X.op=true) (f:Nat→Nat) (s nb ai:Nat) {bb bo vc:Nat} {b:List UInt8} (hv:rs[ai]?=some (byt (.slice (some ⟨bb,bo,none⟩) b.length vc) b)) (hnb:nb≤10) (hlen:s+b.length≤nb*512) {C:List Nat} (hin: ∀k,k<nb→X.P.da≤f (2+k)∧f (2+k)<X.n∧f (2+k)∈C) (hinj: ∀k j,k<nb→j<nb→f (2+k)=f (2+j)→k=j) (hC:Cov X C) (h60:C.length≤60):
 Calls prog 254 #[.pointer (some ⟨X.sb,0,none⟩),.agg (stC 13 (ndI f)),.int .i64 s,.slice (some ⟨bb,bo,none⟩) b.length vc] w fun e w'=>e= .returned (.int .i64 0)∧∃Y,At w0 w' Y rs∧Wr X Y (fun t=> ∃k,k<nb∧t=f (2+k))∧Laid X.v Y.v f nb s b.length b:=by
 have HA:=hid (h.newArr (stC 13 (ndI f)) 270 Jg);obtain ⟨_,_,_,evc,hvc,_⟩:=(h.byt hv).cells;cases evc;obtain ⟨n,hn⟩: ∃n,b.length=n:=⟨_,rfl⟩;have HW:=hid (Wr.refl X (fun t=> ∃k,k<nb∧t=f (2+k)));have HL0:=hid (Laid.zero X.v f nb s b);have HV:=hid hv;have HN:=hid hn;have HB:=hid (And.intro hnb hlen);have HIN:=hid hin;have HINJ:=hid hinj;have HC:=hid (And.intro hC h60);have HOP:=hid hop;have HDA:Hid (245≤X.P.da):=hid (by have:=h.ok.pl.tb;have:=h.ok.pl.da;omega);rw [hn] at hvc hlen ⊢;have s0:(0:Int)≤(s:Int):=Qk _;have n0:(0:Int)≤(n:Int):=Qk _;have n1:(n:Int)≤5120:=by omega
 have s1:(s:Int)≤5120:=by omega
 clear h hop hv hin hinj hC h60 hnb hlen hn;go_enter func254,ntmps254;go_upto_region 1 with (fail)
 obtain ⟨y1,hy1,h1⟩:=HA.out.name;rw [hy1];have H1:=hid h1;clear hy1 HA h1;generalize w.heap.size=g at*
 go_loopw [2,3,9,10,11,12,13] (fun t2 t3 _ _ _ _ _ wr=> ∃(d r c:Nat) (a:Option Addr) (Y:Sys),Hid (d+r=n)∧t2= .int .i64 ((s+d:Nat):Int)∧t3= .slice a r c∧Hid (0<r→a=some ⟨bb,bo+d,none⟩∧c=vc-d)∧Hid (At w0 wr Y (arr g (stC 13 (ndI f)) 270 Jg::rs))∧Hid (Wr X Y (fun t=> ∃k,k<nb∧t=f (2+k)))∧Hid (Laid X.v Y.v f nb s d b)) (fun t2 _ _ _ _ _ _ _=>s+n-(intOf t2).toNat)
 case atStart=>exact ⟨0,n,vc,_,X,hid (by omega),rfl,rfl,hid fun _=>⟨rfl,rfl⟩,H1,HW,HL0⟩
 case round=>
  clear H1 HW HL0;obtain ⟨d,r,c,a,Y,HDR,rfl,rfl,HAC,HST,HWR,HLD⟩:=hrel;have hdr:=HDR.out;have r0:(0:Int)≤(r:Int):=Qk _;have d0:(0:Int)≤(d:Int):=Qk _;by_cases hr:0<r
  ·have r1:(0:Int)<(r:Int):=by omega
   obtain ⟨rfl,rfl⟩:=HAC.out hr;have hq:(s+d)/512<nb:=by have:=HB.out;have:=HN.out;omega
   have hb:=HST.out.1.get (i:=1) rfl;have HBG:=hid (show wr.heap[g]?=some (.cells (stC 13 (ndI f)) 270 (0,0)) from hb);clear hb;go_wp2_with (first | (refine VI rfl _ rfl g rfl _ HBG.out ?_));obtain ⟨k,hk⟩: ∃k,(s+d)/512=k:=⟨_,rfl⟩;have ez:((s:Int)+d)/512=((k:Nat):Int):=by omega
   rw [ez];rw [hk] at hq;have hqi:=HIN.out k hq;have HBK:=hid (QeI HST.out f k (by have:=HB.out;omega));rw [HWR.out.sb] at HBK;refine HBK.out.mono ?_;rintro e w3 ⟨rfl,h3⟩;have H3:=hid h3;have c0:=h3.stCells.1;rw [HWR.out.sb,HWR.out.cb] at c0;obtain ⟨q,hqe⟩: ∃q,f (2+k)=q:=⟨_,rfl⟩;have HQE:=hid hqe;rw [hqe] at hqi ⊢;have hy:=HWR.out.n;have hq0:245≤q:=by have:=HDA.out;omega
   have hq1:q<Y.n:=by omega
   have HRD:=hid (Qbh h3 q hq0 hq1);rw [HWR.out.cb] at HRD;have hxl:=h3.ok.len q hq0 hq1;have HK:=hid hk;have HQ:=hid (And.intro hq (And.intro hq0 (And.intro hq1 hqi)));clear h3 hqe hy hk HST HBK HBG hq hq0 hq1 hqi;go_wp2_with fail;refine HRD.out.mono ?_;clear HRD c0;rintro e w4 ⟨v,rfl,hf4,hb4⟩;obtain ⟨vb,vo,vcap,rfl,hcap,-,-⟩:=hb4.cells;rw [hxl] at hcap hb4 ⊢;obtain ⟨o,ho⟩: ∃o,(s+d)%512=o:=⟨_,rfl⟩;obtain ⟨m,hm⟩: ∃m,min r (512-o)=m:=⟨_,rfl⟩;have hbl:((b.drop d).take m).length=m:=by rw [List.length_take,List.length_drop,HN.out];omega
   have h4:=H3.out.frm hf4;obtain ⟨cs,hcp,hf5,hb5⟩:=Qej hb4 hf4 (by rw [hxl];omega) o (sa:=⟨bb,bo+d,none⟩) (sl:=r) (sc:=vc-d) ((b.drop d).take m) (by rw [hbl,hxl];omega) (by rw [hbl,hxl];exact hm.symm) ((h4.byt (i:=ai+1) HV.out).part d m);rw [hbl,hxl] at hcp;have H5:=hid (H3.out.mkByt hf5 hb5);have ho2:o<512:=by omega
   have ezo:((s:Int)+d)%512=((o:Nat):Int):=by omega
   have HO:=hid (And.intro ho (And.intro hm hxl));have m0:(0:Int)<(m:Int):=by omega
   have m1:(m:Int)≤512:=by omega
   have m2:m≤r:=by omega
   clear hf4 hb4 h4 hf5 hb5 ho hm hbl hxl H3;go_upto_region 9 with (fail)
   obtain ⟨y5,hy5,h5⟩:=H5.out.name;rw [hy5];clear hy5 hcp H5;have c0:=h5.stCells.1;rw [HWR.out.sb,HWR.out.cb] at c0;have HXW:=hid (KX h5 (by rw [HWR.out.op];exact HOP.out) q 0 HQ.out.2.1 HQ.out.2.2.1 rfl (by rw [Y6 _ _ _ (by have:=HO.out.2.1;rw [HO.out.2.2,List.length_take,List.length_drop,HN.out];omega)];exact HO.out.2.2) ((HC.out.1.wr HWR.out (fun t ht=>by obtain ⟨j,hj,rfl⟩:=ht;exact (HIN.out j hj).2.2)).room h5.ok HQ.out.2.2.2.2.2 HC.out.2));rw [HWR.out.cb] at HXW;clear h5;go_wp2_with fail;refine HXW.out.mono ?_;clear HXW c0;rintro e w6 ⟨rfl,h6⟩;have H6:=hid (h6.drop 1);have HW6:=hid (HWR.out.trans ((Wr.put Y q (lays (Y.v q) o ((b.drop d).take m))).mono (U:=fun t=> ∃k,k<nb∧t=f (2+k)) fun t ht=>⟨k,HQ.out.1,by rw [ht,HQE.out]⟩));have HL6:Hid (Laid X.v (Y.put q (lays (Y.v q) o ((b.drop d).take m))).v f nb s (d+m) b):=hid (HLD.out.step HINJ.out (by rw [HK.out];exact HQ.out.1) (by rw [HK.out,HQE.out];exact HO.out.2.2) (by have:=HO.out.1;have:=HO.out.2.1;omega) (by rw [HN.out];omega) (fun j=>by rw [HK.out,HQE.out,HO.out.1,Sys.put_v]));clear h6;generalize Y.put q (lays (Y.v q) o ((b.drop d).take m))=Z at*
   have HM:=hid (And.intro m0 (And.intro m2 hdr));go_upto_region 12 with (fail)
   have m3:(m:Int)≤(r:Int):=by omega
   have d1:(s:Int)+d≤10240:=by omega
   have RW:Hid (d+m+(r-m)=n):=hid (by omega);have RM:Hid ((s+n-(s+d+m):Nat)<s+n-(s+d)):=hid (by omega);have H7:Hid (At w0 w6.drew Z (arr g (stC 13 (ndI f)) 270 Jg::rs)):=hid (H6.out.frm (Frm.refl NoB w6).drew);by_cases hmc:m=vc-d
   ·have RA: ∀x,Hid (0<r-m→x=some (⟨bb,bo+(d+m),none⟩:Addr)∧0=vc-(d+m)):=fun x=>hid fun hh=>absurd hh (by omega)
    have RE:=hid hmc;go_region;refine ⟨?_,?_⟩
    ·(repeat apply Exists.intro)
     refine ⟨⟨d+m,r-m,0,some ⟨bb,bo+d,none⟩,Z,RW,?_,?_,RA _,H7,HW6,HL6⟩,rfl⟩
     ·rw [RE.out];go_num
     ·rw [RE.out]
    ·have:=RM.out;have:=RE.out;simp [intOf];omega
   ·have RA:Hid (0<r-m→some (⟨bb,bo+d+m,none⟩:Addr)=some (⟨bb,bo+(d+m),none⟩:Addr)∧vc-d-m=vc-(d+m)):=hid fun hh=>⟨by rw [Nat.add_assoc],by omega⟩
    go_region;refine ⟨?_,?_⟩
    ·(repeat apply Exists.intro)
     exact ⟨⟨d+m,r-m,vc-d-m,_,Z,RW,by go_num,rfl,RA,H7,HW6,HL6⟩,rfl⟩
    ·have:=RM.out;simp [intOf];omega
  ·have r1: ¬(0:Int)<(r:Int):=by omega
   have HE:Hid (Laid X.v Y.v f nb s n b):=hid (by rw [show n=d by omega];exact HLD.out);have H8:Hid (At w0 wr Y rs):=hid (HST.out.drop 1);clear HST HLD;go_wp2;go_ret;exact ⟨rfl,Y,H8.out,HWR.out,HE.out⟩
theorem Et (f:Nat→Nat) (j z:Nat):JB (ndI f) j (z:Int)=ndI (JB f j z):=by
 funext i
 show (if i=j then (z:Int) else (f i:Int))=((if i=j then z else f i:Nat):Int);by_cases e:i=j
 ·rw [if_pos e,if_pos e]
 ·rw [if_neg e,if_neg e]
theorem WL (w:World) (s:Nat) (hs:s≤100000):Calls prog 278 #[.int .i64 s] w fun e w'=>w=w'∧e= .returned (.int .i64 ((s+511)/512:Nat)):=by
 have s0:(0:Int)≤(s:Int):=Qk _;have s1:(s:Int)≤100000:=by omega
 have es:((s:Int)+512-1)/512=(((s+511)/512:Nat):Int):=by omega
 have ES:=hid es;clear es;go_enter func278,ntmps278;go_wp2;go_ret;exact ⟨rfl,by rw [ES.out];rfl⟩
theorem Qjl (w:World) (s:Nat) (hs:s≤5120):Calls prog 303 #[.int .i64 s] w fun e w'=>w=w'∧e= .returned (.int .i64 ((s+511)/512:Nat)):=by
 have HD:Hid (Calls prog 278 #[.int .i64 s] w fun e w'=>w=w'∧e= .returned (.int .i64 ((s+511)/512:Nat))):=hid (WL w s (by omega));obtain ⟨q,hq⟩: ∃q,(s+511)/512=q:=⟨_,rfl⟩;have q0:(0:Int)≤(q:Int):=Qk _;have q1:(q:Int)≤10:=by omega
 rw [hq] at HD ⊢;clear hq hs;go_enter func303,ntmps303;go_wp2_with fail;refine HD.out.mono ?_;rintro e w2 ⟨rfl,rfl⟩;go_wp2;go_ret;exact ⟨rfl,rfl⟩
theorem OS (h:At w0 w X rs):Calls prog 183 #[.pointer (some ⟨X.sb,0,none⟩)] w fun e w'=>w=w'∧e= .returned (.bool X.op):=by
 have c0:=h.stCells.1;have HO:=hid (QgU h);clear h;go_enter func183,ntmps183;go_wp2_with fail;refine HO.out.mono ?_;rintro e w2 ⟨rfl,rfl⟩;go_wp2;go_ret;exact ⟨rfl,rfl⟩
theorem Qhj {g:Nat} {f:Nat→Nat} (h:At w0 w X (arr g (stC 13 (ndI f)) 270 Jg::rs)) (hop:X.op=true) (j:Nat) (hj:j<10) {k:Nat} (hk:Jn (X.v X.P.bm) X.P.dc=some k) {C:List Nat} (hC:Cov X C) (hb:X.P.bm∈C) (h60:C.length<60):
 Calls prog 304 #[.pointer (some ⟨X.sb,0,none⟩),.pointer (some ⟨g,0,none⟩),.int .i64 j] w fun e w'=>e= .returned (.int .i64 0)∧At w0 w' (X.fresh k) (arr g (stC 13 (ndI (JB f (2+j) (X.P.da+k)))) 270 Jg::rs):=by
 have HF:=hid (Qij h hop hk hC hb h60);have HJ:=hid hj;have j0:(0:Int)≤(j:Int):=Qk _;have j1:(j:Int)<10:=by omega
 have j2:(j:Int)<11:=by omega
 have j3: ¬(j:Int)=10:=by omega
 obtain ⟨q,hq⟩: ∃q,X.P.da+k=q:=⟨_,rfl⟩;rw [hq] at HF ⊢;clear h hop hj hk hC hb h60 hq;go_enter func304,ntmps304;go_wp2_with fail;refine HF.out.mono ?_;clear HF;rintro e w2 ⟨rfl,h2⟩;have h3:=h2.setArr 0 rfl (2+j) (.int .i64 q);rw [Y7 _ _ _ _ (by have:=HJ.out;omega),Et] at h3;have H3:=hid h3;have d0: ∃u,w2.cell? ⟨g,2+j,none⟩=some u:=⟨_,(h2.arrCell (i:=0) rfl (2+j)).trans (QP _ _ _ (by have:=HJ.out;omega))⟩;obtain ⟨u0,d0⟩:=d0;have f0:w2.frozen? ⟨g,2+j,none⟩=false:=h2.arrFree (i:=0) rfl (2+j);clear h2 h3;go_wp2;go_ret;exact ⟨rfl,H3.out⟩
theorem U8 (h:At w0 w X rs) (hop:X.op=true) (i:Nat) (hi:i<X.P.ni) (hb:Qt (X.v X.P.im) i=true):
 Calls prog 221 #[.pointer (some ⟨X.sb,0,none⟩),.int .i64 i] w fun e w'=>e= .returned (.tuple #[.agg (stC 13 (ndI (X.nd i))),.int .i64 0])∧At w0 w' X rs:=by
 have HA:=hid (h.newArr (stC 13 fun _=>0) 270 Jg);have KR:Hid (∀y rs',At w0 y X rs'→Calls prog 183 #[.pointer (some ⟨X.sb,0,none⟩)] y fun e w'=>y=w'∧e= .returned (.bool true)):=hid fun y rs' hy=>by have:=OS hy;rw [hop] at this;exact this
 have KL:Hid (∀y rs',At w0 y X rs'→Calls prog 212 #[.pointer (some ⟨X.sb,0,none⟩),.int .i64 i] y fun e w'=>e= .returned (.tuple #[.agg (stC 13 (ndI (X.nd i))),.int .i64 0])∧At w0 w' X rs'):=hid fun y rs' hy=>Qds hy i hi hb
 clear h hop hi hb;go_enter func221,ntmps221;go_upto_region 1 with (refine Qg rfl _ _ Ej rfl ?_)
 obtain ⟨y1,hy1,h1⟩:=HA.out.name;rw [hy1];clear hy1 HA;have H1:=hid h1;generalize w.heap.size=nb at*
 clear h1;go_wp2_with fail;refine (KR.out _ _ H1.out).mono ?_;rintro e w2 ⟨rfl,rfl⟩;go_wp2_with fail;refine (KL.out _ _ H1.out).mono ?_;rintro e w2 ⟨rfl,h2⟩;have HB2:=hid (show w2.heap[nb]?=some (.cells (stC 13 fun _=>0) 270 (0,0)) from h2.1.get (i:=1) rfl);have h3:=h2.setRow 0 (c':=stC 13 (ndI (X.nd i))) rfl;have H3:=hid h3;have HB3:=hid (show (w2.setRow nb (stC 13 (ndI (X.nd i)))).heap[nb]?=some (.cells (stC 13 (ndI (X.nd i))) 270 (0,0)) from h3.1.get (i:=1) rfl);clear h2 h3;go_wp2_with (refine K8 rfl _ _ rfl nb _ rfl rfl _ (YS _ _) HB2.out ?_);have hld:=run_loadVar_row (P:=prog) (w2.setRow nb (stC 13 (ndI (X.nd i)))) nb 270 270 (stC 13 (ndI (X.nd i))) (0,0) _ HB3.out underlying270 rfl (Qa8 _);exact bodyPost_ret (v:= .tuple #[.agg (stC 13 (ndI (X.nd i))),.int .i64 0]) (Qx results221 _ _ ⟨nb,0,none⟩ rfl _ hld) rfl ⟨rfl,H3.out.drop 1⟩
structure Ee (X Y:Sys) (f f':Nat→Nat) (a k:Nat):Prop where
 ak:a≤k
 wr:Wr X Y fun t=>t=X.P.bm∨∃b,b<X.P.dc∧Qt (X.v X.P.bm) b=false∧t=X.P.da+b
 same: ∀j,(j<2+a∨2+k≤j)→f' j=f j
 new: ∀j,a≤j→j<k→∃b,b<X.P.dc∧f' (2+j)=X.P.da+b∧Qt (X.v X.P.bm) b=false∧Qt (Y.v X.P.bm) b=true∧Y.v (X.P.da+b)=Qs
 inj: ∀i j,a≤i→i<k→a≤j→j<k→f' (2+i)=f' (2+j)→i=j
 bits: ∀b,b<X.P.dc→Qt (Y.v X.P.bm) b=true→Qt (X.v X.P.bm) b=true∨∃j,a≤j∧j<k∧f' (2+j)=X.P.da+b
 keep: ∀b,Qt (X.v X.P.bm) b=true→Qt (Y.v X.P.bm) b=true
 free:Y.fb+(k-a)=X.fb
theorem Ee.refl (X:Sys) (f:Nat→Nat) (a:Nat):Ee X X f f a a:=
 ⟨Nat.le_refl _,Wr.refl _ _,fun _ _=>rfl,fun j h1 h2=>by omega,fun i j h1 h2=>by omega,fun b _ h=> .inl h,fun b h=>h,by omega⟩
theorem Ee.step {X Y:Sys} {f f':Nat→Nat} {a k b:Nat} (h:Ee X Y f f' a k) (hY:Jl Y) (hb:Jn (Y.v Y.P.bm) Y.P.dc=some b):Ee X (Y.fresh b) f (JB f' (2+k) (Y.P.da+b)) a (k+1):=by
 have hP:Y.P=X.P:=h.wr.P;have hd:=hY.data (Jf hb).1;have hm:=hY.maps;have hl:(Y.v Y.P.bm).length=512:=hY.len _ hm.2.2.1 hm.2.2.2.1;have hdc:Y.P.dc≤4096:=hY.pl.dc.2;rw [hP] at hb hd hl hdc ⊢;obtain ⟨hb1,hb2⟩:=Jf hb;have hb0:Qt (X.v X.P.bm) b=false:=by
  cases hx:Qt (X.v X.P.bm) b with
  | false=>rfl
  | true=>rw [h.keep b hx] at hb2;cases hb2
 have hvm:(Y.fresh b).v X.P.bm=Qw (Y.v X.P.bm) b true:=by
  unfold Sys.fresh;rw [hP,Sys.put_v,if_neg (by omega),Sys.put_v,if_pos rfl]
 have hvd: ∀c,(Y.fresh b).v (X.P.da+c)=if c=b then Qs else Y.v (X.P.da+c):=fun c=>by
  unfold Sys.fresh;have hmd:X.P.da+c≠X.P.bm:=by have:=hY.pl.bm;have:=hY.pl.tb;have:=hY.pl.da;rw [hP] at*;omega
  rw [hP,Sys.put_v];by_cases e:c=b
  ·rw [if_pos (by omega),if_pos e]
  ·rw [if_neg (by omega),if_neg e,Sys.put_v,if_neg hmd]
 have hbit: ∀j,Qt ((Y.fresh b).v X.P.bm) j=if j=b then true else Qt (Y.v X.P.bm) j:=fun j=>by
  rw [hvm];exact JD _ _ _ (by rw [hl];omega) j
 have hold: ∀j,a≤j→j<k→f' (2+j)≠X.P.da+b:=fun j h1 h2 e=>by
  obtain ⟨c,_,q2,_,q4,_⟩:=h.new j h1 h2;have:c=b:=by omega
  rw [this,hb2] at q4;cases q4
 have hs: ∀j,j≠k→JB f' (2+k) (X.P.da+b) (2+j)=f' (2+j):=fun j hj=>if_neg (by omega)
 have hk:JB f' (2+k) (X.P.da+b) (2+k)=X.P.da+b:=if_pos rfl;refine ⟨by have:=h.ak;omega,h.wr.trans ((Wr.fresh Y b).mono fun t ht=>?_),fun j hj=>?_,fun j h1 h2=>?_,fun i j i1 i2 j1 j2 e=>?_,fun c hc hx=>?_,fun c hc=>?_,?_⟩
 ·rw [hP] at ht;rcases ht with e | e
  ·exact .inl e
  ·exact .inr ⟨b,hb1,hb0,e⟩
 ·have e:JB f' (2+k) (X.P.da+b) j=f' j:=if_neg (by have:=h.ak;omega);rw [e];exact h.same j (by omega)
 ·by_cases e:j=k
  ·subst e;exact ⟨b,hb1,hk,hb0,by rw [hbit,if_pos rfl],by rw [hvd,if_pos rfl]⟩
  ·obtain ⟨c,q1,q2,q3,q4,q5⟩:=h.new j h1 (by omega);have hcb:c≠b:=fun e=>hold j h1 (by omega) (by rw [q2,e])
   exact ⟨c,q1,by rw [hs j e];exact q2,q3,by rw [hbit,if_neg hcb];exact q4,by rw [hvd,if_neg hcb];exact q5⟩
 ·by_cases e1:i=k
  ·by_cases e2:j=k
   ·omega
   ·rw [e1,hk,hs j e2] at e;exact absurd e.symm (hold j j1 (by omega))
  ·by_cases e2:j=k
   ·rw [e2,hk,hs i e1] at e;exact absurd e (hold i i1 (by omega))
   ·rw [hs i e1,hs j e2] at e;exact h.inj i j i1 (by omega) j1 (by omega) e
 ·rw [hbit] at hx;by_cases e:c=b
  ·exact .inr ⟨k,h.ak,by omega,by rw [hk,e]⟩
  ·rw [if_neg e] at hx;rcases h.bits c hc hx with q | ⟨j,q1,q2,q3⟩
   ·exact .inl q
   ·exact .inr ⟨j,q1,by omega,by rw [hs j (by omega)];exact q3⟩
 ·rw [hbit];by_cases e:c=b
  ·rw [if_pos e]
  ·rw [if_neg e];exact h.keep c hc
 ·have hf:=h.free;have e1:(Y.fresh b).P=X.P:=hP;unfold Sys.fb at hf ⊢;rw [e1,hvm,Us hb1 (by rw [hl];omega) hb2];rw [hP] at hf;have:=Us (b:=Y.v X.P.bm) hb1 (by rw [hl];omega) hb2;have hle:=Eu (Qw (Y.v X.P.bm) b true) X.P.dc;have:=h.ak;omega
theorem Sys.room (X:Sys) (h:0<X.fb): ∃k,Jn (X.v X.P.bm) X.P.dc=some k:=OC (by unfold Sys.fb at h;omega)
def dat (s:Nat):Nat:=(s+511)/512
def UD (v u:Nat→Blk) (f:Nat→Nat) (s:Nat):Prop:= ∀p,p<dat s*512→fb u f p=if p<s then fb v f p else 0
def QQ (y:Nat):List UInt8:=List.replicate y 0
theorem QA (y:Nat):(QQ y).length=y:=by simp [QQ]
theorem QdE (y p:Nat):(QQ y).getD p 0=0:=by
 unfold QQ;rw [List.getD_eq_getElem?_getD,List.getElem?_replicate];split<;>rfl
theorem Vq (w:World) (y:Nat):Qc (w.alloc (.cells (madeCells #[.int .u8 0] y) 5 (0,0))) (.slice (some ⟨w.heap.size,0,none⟩) y y) (QQ y) (QR w):=by
 refine ⟨w.heap.size,0,y,madeCells #[.int .u8 0] y,by rw [QA],by rw [QA];exact Nat.le_refl _,IsC.of8 (Qb _ _),fun i hi=>?_,Nat.le_refl _⟩;rw [QA] at hi;rw [Nat.zero_add,←Array.getElem?_toList,Y0,List.getElem?_replicate,if_pos hi];unfold QQ;rw [List.getD_eq_getElem?_getD,List.getElem?_replicate,if_pos hi];rfl
theorem Kc (y:Nat) (hy:y≤600) (W:World):(Instr.makeSlice 76 (.int .i64 (y:Int)) (.int .i64 (y:Int))).run prog W= .ok (.slice (some ⟨W.heap.size,0,none⟩) y y) (W.alloc (.cells (madeCells #[.int .u8 0] y) 5 (0,0))):=by
 obtain ⟨i0,hi0,hz0,hz1,hz2⟩:=info_parts V7;have:=run_make (P:=prog) W 76 5 i0 _ underlying76 hi0 hz0 .i64 .i64 y y (by omega) (by omega) (by rw [hz2];omega) (by omega);rw [hz1,Nat.mul_one,Int.toNat_natCast] at this;exact this
theorem Laid.zeroed {v u:Nat→Blk} {f:Nat→Nat} {s:Nat} (h:Laid v u f (dat s) s (512-s%512) (QQ (512-s%512))) (hs:0<s%512):UD v u f s:=fun p hp=>by
 rw [h p hp];unfold dat at hp;by_cases e:p<s
 ·rw [if_neg (by omega),if_pos e]
 ·rw [if_pos (by omega),if_neg e,QdE]
theorem UD.refl (v:Nat→Blk) (f:Nat→Nat) (s:Nat) (hs: ¬0<s%512):UD v v f s:=fun p hp=>by
 unfold dat at hp;rw [if_pos (by omega)]
theorem Wr.fb {X Z:Sys} {T:Nat→Prop} (h:Wr X Z T) (hT: ¬T X.P.bm):Z.fb=X.fb:=by
 unfold Sys.fb;rw [h.P,h.v _ hT]
theorem QjR {g:Nat} {f:Nat→Nat} (h:At w0 w X (arr g (stC 13 (ndI f)) 270 Jg::rs)) (hop:X.op=true) (s S:Nat) (hs:f 1=s) (h1:s≤S) (h2:S≤5120) (hfr:dat S-dat s≤X.fb) {C:List Nat} (hin: ∀k,k<dat s→X.P.da≤f (2+k)∧f (2+k)<X.n∧f (2+k)∈C) (hinj: ∀k j,k<dat s→j<dat s→f (2+k)=f (2+j)→k=j) (hC:Cov X C) (hbm:X.P.bm∈C) (h60:C.length+(dat S-dat s)≤60):
 Calls prog 253 #[.pointer (some ⟨X.sb,0,none⟩),.pointer (some ⟨g,0,none⟩),.int .i64 S] w fun e w'=>e= .returned (.int .i64 0)∧∃Z Y f' N,At w0 w' Y (arr g (stC 13 (ndI (JB f' 1 S))) 270 Jg::rs)∧Wr X Z (fun t=> ∃k,k<dat s∧t=f (2+k))∧UD X.v Z.v f s∧Ee Z Y f f' (dat s) (dat S)∧N.length=dat S-dat s∧Cov Y (C++N)∧∀j,dat s≤j→j<dat S→f' (2+j)∈N:=by
 have HD1:Hid (∀y,Calls prog 278 #[.int .i64 s] y fun e w'=>y=w'∧e= .returned (.int .i64 (dat s:Nat))):=hid fun y=>WL y s (by omega)
 have HD2:Hid (∀y,Calls prog 278 #[.int .i64 S] y fun e w'=>y=w'∧e= .returned (.int .i64 (dat S:Nat))):=hid fun y=>WL y S (by omega)
 have HH1:Hid (∀y,Calls prog 303 #[.int .i64 s] y fun e w'=>y=w'∧e= .returned (.int .i64 (dat s:Nat))):=hid fun y=>Qjl y s (by omega)
 have HH2:Hid (∀y,Calls prog 303 #[.int .i64 S] y fun e w'=>y=w'∧e= .returned (.int .i64 (dat S:Nat))):=hid fun y=>Qjl y S h2
 have hds:dat s≤dat S:=by unfold dat;omega
 have hdS:dat S≤10:=by unfold dat;omega
 have HF:=hid (Qkd h);have hfb:X.fb≤4096:=by have:=h.ok.pl.dc;unfold Sys.fb;omega
 have HX:=hid h;have HFB:Hid (∀Z,Wr X Z (fun t=> ∃k,k<dat s∧t=f (2+k))→Z.fb=X.fb):=hid fun Z hz=>hz.fb fun ⟨k,hk,e⟩=>by have:=(hin k hk).1;have:=h.ok.pl.bm;have:=h.ok.pl.tb;have:=h.ok.pl.da;omega
 have HOP:=hid hop;have HIN:=hid hin;have HINJ:=hid hinj;have HC:=hid (And.intro hC (And.intro hbm h60));have HSZ:=hid (And.intro hs (And.intro h1 h2));have c1:=h.stCells.2.1;have d1:w.cell? ⟨g,1,none⟩=some (.int .i64 s):=(h.arrCell (i:=0) rfl 1).trans ((QP _ _ _ (by omega)).trans (by unfold ndI;rw [hs]));obtain ⟨a,ha⟩: ∃a,dat s=a:=⟨_,rfl⟩;obtain ⟨b,hb⟩: ∃b,dat S=b:=⟨_,rfl⟩;have HAB:=hid (And.intro ha hb);rw [ha] at hin hinj hfr h60 hds HD1 HH1 ⊢;rw [hb] at hfr h60 hds HD2 HH2 hdS ⊢;have HFR:=hid hfr;have a0:(0:Int)≤(a:Int):=Qk _;have a1:(a:Int)≤10:=by omega
 have b0:(0:Int)≤(b:Int):=Qk _;have b1:(b:Int)≤10:=by omega
 have hw1:IntKind.i64.wrap ((b:Int)-(a:Int))=(b:Int)-(a:Int):=IntWalk.i64_in _ (by omega);have hgt: ¬(X.fb:Int)<(b:Int)-(a:Int):=by omega
 have s0:(0:Int)≤(s:Int):=Qk _;have s1:(s:Int)≤5120:=by omega
 have S0:(0:Int)≤(S:Int):=Qk _;have S1:(S:Int)≤5120:=by omega
 clear h hop hin hinj hC hbm h60 hs h1 h2 hfr ha hb hds hdS;go_enter func253,ntmps253;go_wp2_with fail;refine HF.out.mono ?_;clear HF c1 d1;rintro e w2 ⟨rfl,h2⟩;have d1:w2.cell? ⟨g,1,none⟩=some (.int .i64 s):=(h2.arrCell (i:=0) rfl 1).trans ((QP _ _ _ (by omega)).trans (by unfold ndI;rw [HSZ.out.1]));have H2:=hid h2;clear h2 HX;generalize X.fb=fbx at*
 go_upto_region 2 with (fail)
 go_region_held3 (fun y=>y.cell? ⟨g,1,none⟩=some (.int .i64 s)) (go_keep)
  (first
   | (go_at_call 303;(with_reducible refine (HH1.out _).mono ?_);rintro e w6 ⟨rfl,rfl⟩)
   | (go_at_call 303;(with_reducible refine (HH2.out _).mono ?_);rintro e w6 ⟨rfl,rfl⟩))
 have h3:=H2.out.frm (Frm.refl NoB w2).drew;have H3:=hid h3;have d1:w2.drew.cell? ⟨g,1,none⟩=some (.int .i64 s):=(h3.arrCell (i:=0) rfl 1).trans ((QP _ _ _ (by omega)).trans (by unfold ndI;rw [HSZ.out.1]));clear h3 H2;generalize w2.drew=w3 at*
 obtain ⟨o,ho⟩: ∃o,s%512=o:=⟨_,rfl⟩;have ezo:(s:Int)%512=((o:Nat):Int):=by omega
 have HO:=hid ho;have o0:(0:Int)≤(o:Int):=Qk _;have o1:(o:Int)<512:=by omega
 clear hw1 ho;go_upto_region 5 with (fail)
 rw [ezo];have HLAY:0<o→Hid (∀y v c,At w0 y X (byt (.slice (some ⟨v,0,none⟩) (512-o) c) (QQ (512-o))::arr g (stC 13 (ndI f)) 270 Jg::rs)→Calls prog 254 #[.pointer (some ⟨X.sb,0,none⟩),.agg #[.int .i64 ((f 0:Nat):Int),.int .i64 ((s:Nat):Int),.int .i64 ((f 2:Nat):Int),.int .i64 ((f 3:Nat):Int),.int .i64 ((f 4:Nat):Int),.int .i64 ((f 5:Nat):Int),.int .i64 ((f 6:Nat):Int),.int .i64 ((f 7:Nat):Int),.int .i64 ((f 8:Nat):Int),.int .i64 ((f 9:Nat):Int),.int .i64 ((f 10:Nat):Int),.int .i64 ((f 11:Nat):Int),.int .i64 ((f 12:Nat):Int)],.int .i64 s,.slice (some ⟨v,0,none⟩) (512-o) c] y fun e w'=>e= .returned (.int .i64 0)∧∃Z,At w0 w' Z (arr g (stC 13 (ndI f)) 270 Jg::rs)∧Wr X Z (fun t=> ∃k,k<dat s∧t=f (2+k))∧UD X.v Z.v f s):=fun hp=>hid fun y v c hy=>by
  have hb:=HSZ.out;have hO:=HO.out;have:=Qf2 hy HOP.out f s (dat s) 0 (b:=QQ (512-o)) (bb:=v) (bo:=0) (vc:=c) (by rw [QA];rfl) (by unfold dat;omega) (by rw [QA];unfold dat;omega) HIN.out HINJ.out HC.out.1 (by have:=HC.out.2.2;omega);rw [QA,show (Value.agg (stC 13 (ndI f)))= .agg #[.int .i64 ((f 0:Nat):Int),.int .i64 ((s:Nat):Int),.int .i64 ((f 2:Nat):Int),.int .i64 ((f 3:Nat):Int),.int .i64 ((f 4:Nat):Int),.int .i64 ((f 5:Nat):Int),.int .i64 ((f 6:Nat):Int),.int .i64 ((f 7:Nat):Int),.int .i64 ((f 8:Nat):Int),.int .i64 ((f 9:Nat):Int),.int .i64 ((f 10:Nat):Int),.int .i64 ((f 11:Nat):Int),.int .i64 ((f 12:Nat):Int)] by rw [←HSZ.out.1];rfl] at this;refine this.mono ?_;rintro e w' ⟨he,Z,q1,q2,q3⟩;refine ⟨he,Z,q1.drop 1,q2,?_⟩;rw [←hO] at q3 hp;exact q3.zeroed hp
 have HZO:=hid HLAY;clear HLAY;by_cases hop:0<o
 ·have o2:(0:Int)<(o:Int):=by omega
  have HL:=HZO.out hop;obtain ⟨m,hm⟩: ∃m,512-o=m:=⟨_,rfl⟩;rw [hm] at HL;have hw2:IntKind.i64.wrap (512-(o:Int))=(m:Int):=by rw [show (512-(o:Int))=(m:Int) by omega];exact IntWalk.i64_in _ (by omega)
  have hmk:=Kc m (by omega);have KC:Hid (∀y Y rs' j,At w0 y Y rs'→rs'[j]?=some (arr g (stC 13 (ndI f)) 270 Jg)→y.cell? ⟨g,0,none⟩=some (.int .i64 ((f 0:Nat):Int))∧y.cell? ⟨g,1,none⟩=some (.int .i64 ((s:Nat):Int))∧y.cell? ⟨g,2,none⟩=some (.int .i64 ((f 2:Nat):Int))∧y.cell? ⟨g,3,none⟩=some (.int .i64 ((f 3:Nat):Int))∧y.cell? ⟨g,4,none⟩=some (.int .i64 ((f 4:Nat):Int))∧y.cell? ⟨g,5,none⟩=some (.int .i64 ((f 5:Nat):Int))∧y.cell? ⟨g,6,none⟩=some (.int .i64 ((f 6:Nat):Int))∧y.cell? ⟨g,7,none⟩=some (.int .i64 ((f 7:Nat):Int))∧y.cell? ⟨g,8,none⟩=some (.int .i64 ((f 8:Nat):Int))∧y.cell? ⟨g,9,none⟩=some (.int .i64 ((f 9:Nat):Int))∧y.cell? ⟨g,10,none⟩=some (.int .i64 ((f 10:Nat):Int))∧y.cell? ⟨g,11,none⟩=some (.int .i64 ((f 11:Nat):Int))∧y.cell? ⟨g,12,none⟩=some (.int .i64 ((f 12:Nat):Int))):=hid fun y Y rs' j hy hj=>by
   have hc:=fun i (hi:i<13)=>(hy.arrCell hj i).trans (QP 13 (ndI f) i hi)
   refine ⟨hc 0 (by omega),(hc 1 (by omega)).trans (by unfold ndI;rw [HSZ.out.1]),hc 2 (by omega),hc 3 (by omega),hc 4 (by omega),hc 5 (by omega),hc 6 (by omega),hc 7 (by omega),hc 8 (by omega),hc 9 (by omega),hc 10 (by omega),hc 11 (by omega),hc 12 (by omega)⟩
  obtain ⟨e0,e1,e2,e3,e4,e5,e6,e7,e8,e9,e10,e11,e12⟩:=KC.out w3 _ _ 0 H3.out rfl;have H4:Hid (At w0 (w3.alloc (.cells (madeCells #[.int .u8 0] m) 5 (0,0))).drew X (byt (.slice (some ⟨w3.heap.size,0,none⟩) m m) (QQ m)::arr g (stC 13 (ndI f)) 270 Jg::rs)):=hid ((H3.out.mkByt ((Frm.refl _ _).alloc _) (Vq w3 m)).frm (Frm.refl NoB _).drew);have H5:Hid (At w0 (w3.alloc (.cells (madeCells #[.int .u8 0] m) 5 (0,0))) X (byt (.slice (some ⟨w3.heap.size,0,none⟩) m m) (QQ m)::arr g (stC 13 (ndI f)) 270 Jg::rs)):=hid (H3.out.mkByt ((Frm.refl _ _).alloc _) (Vq w3 m));have H6:Hid (At w0 w3.drew X (arr g (stC 13 (ndI f)) 270 Jg::rs)):=hid (H3.out.frm (Frm.refl NoB _).drew);go_upto_region 6 with (fail)
  go_region_held3 (fun y=>y.cell? ⟨g,0,none⟩=some (.int .i64 ((f 0:Nat):Int))∧y.cell? ⟨g,1,none⟩=some (.int .i64 ((s:Nat):Int))∧y.cell? ⟨g,2,none⟩=some (.int .i64 ((f 2:Nat):Int))∧y.cell? ⟨g,3,none⟩=some (.int .i64 ((f 3:Nat):Int))∧y.cell? ⟨g,4,none⟩=some (.int .i64 ((f 4:Nat):Int))∧y.cell? ⟨g,5,none⟩=some (.int .i64 ((f 5:Nat):Int))∧y.cell? ⟨g,6,none⟩=some (.int .i64 ((f 6:Nat):Int))∧y.cell? ⟨g,7,none⟩=some (.int .i64 ((f 7:Nat):Int))∧y.cell? ⟨g,8,none⟩=some (.int .i64 ((f 8:Nat):Int))∧y.cell? ⟨g,9,none⟩=some (.int .i64 ((f 9:Nat):Int))∧y.cell? ⟨g,10,none⟩=some (.int .i64 ((f 10:Nat):Int))∧y.cell? ⟨g,11,none⟩=some (.int .i64 ((f 11:Nat):Int))∧y.cell? ⟨g,12,none⟩=some (.int .i64 ((f 12:Nat):Int)))
   (first | exact KC.out _ _ _ 0 H3.out rfl | exact KC.out _ _ _ 0 H6.out rfl | exact KC.out _ _ _ 1 H4.out rfl | exact KC.out _ _ _ 1 H5.out rfl | exact KC.out _ _ _ 0 h6 rfl)
   (first
    | (go_at_call 254;(with_reducible refine (HL.out _ _ _ H4.out).mono ?_);rintro e w6 ⟨rfl,Z,h6,hwz,hz⟩))
  have G:=hid h6;have GW:=hid hwz;have GZ:=hid hz;clear h6 hwz hz hw2 hmk KC e0 e1 e2 e3 e4 e5 e6 e7 e8 e9 e10 e11 e12 H4 H5 H6 HL H3 d1 HZO;go_upto_region 9 with (fail)
  have HA:=HAB.out;clear HAB o2;have d1:w6.cell? ⟨g,1,none⟩=some (.int .i64 s):=(G.out.arrCell (i:=0) rfl 1).trans ((QP _ _ _ (by omega)).trans (by unfold ndI;rw [HSZ.out.1]));have HCZ:Hid (Cov Z C):=hid (HC.out.1.wr GW.out fun t ⟨k,hk,e⟩=>by rw [e];exact (HIN.out k hk).2.2);have HZF:=hid (HFB.out Z GW.out);have HAB:=hid HA;have hab:a≤b:=by have:=HSZ.out;have:=HA;unfold dat at this;omega
  clear HA hop;go_wp2_with fail;refine (HD1.out _).mono ?_;rintro e w7 ⟨rfl,rfl⟩;clear d1;go_wp2_with fail;go_loopw [11,12] (fun t _ wr=> ∃(k:Nat) (Y:Sys) (f':Nat→Nat) (N:List Nat),a≤k∧k≤b∧t= .int .i64 k∧Hid (At w0 wr Y (arr g (stC 13 (ndI f')) 270 Jg::rs))∧Hid (Ee Z Y f f' a k)∧Hid (N.length=k-a∧Cov Y (C++N)∧∀j,a≤j→j<k→f' (2+j)∈N)) (fun t _ _=>b-(intOf t).toNat)
  case atStart=>exact ⟨a,Z,f,[],Nat.le_refl _,hab,rfl,G,hid (Ee.refl Z f a),hid ⟨by simp,by rw [List.append_nil];exact HCZ.out,fun j h1 h2=>by omega⟩⟩
  case round=>
   clear G;obtain ⟨k,Y,f',N,hk1,hk2,rfl,HST,HT,HN⟩:=hrel;have k0:(0:Int)≤(k:Int):=Qk _;have esb:Y.sb=X.sb:=HT.out.wr.sb.trans GW.out.sb;have eP:Y.P=X.P:=HT.out.wr.P.trans GW.out.P;have ESB:=hid esb;by_cases hlt:k<b
   ·have k1:(k:Int)<b:=by omega
    obtain ⟨q,hq⟩:=Y.room (by have h1:=HT.out.free;have h2:=HZF.out;have h3:=HFR.out;omega);have HTK:=hid (Qhj HST.out (by rw [HT.out.wr.op,GW.out.op];exact HOP.out) k (by omega) hq HN.out.2.1 (by rw [eP];exact List.mem_append_left _ HC.out.2.1) (by have h1:=HC.out.2.2;have h2:=HN.out.1;have h3:=HAB.out;rw [h3.1,h3.2] at h1;rw [List.length_append];omega));rw [esb] at HTK;have HT':=hid (HT.out.step HST.out.ok hq);have HN':Hid ((N++ [Y.P.da+q]).length=k+1-a∧Cov (Y.fresh q) (C++(N++ [Y.P.da+q]))∧∀j,a≤j→j<k+1→JB f' (2+k) (Y.P.da+q) (2+j)∈N++ [Y.P.da+q]):=hid (by
     refine ⟨by rw [List.length_append,HN.out.1];simp;omega,(HN.out.2.1.mono fun c hc=>?_).wr (Wr.fresh Y q) fun t ht=>?_,fun j h1 h2=>?_⟩
     ·rw [←List.append_assoc];exact List.mem_append_left _ hc
     ·rcases ht with e | e
      ·rw [e,eP];exact List.mem_append_left _ HC.out.2.1
      ·rw [e];exact List.mem_append_right _ (List.mem_append_right _ (List.mem_singleton.2 rfl))
     ·by_cases e:j=k
      ·subst e;exact List.mem_append_right _ (List.mem_singleton.2 (if_pos rfl))
      ·have:JB f' (2+k) (Y.P.da+q) (2+j)=f' (2+j):=if_neg (by omega);rw [this];exact List.mem_append_left _ (HN.out.2.2 j h1 (by omega)))
    have HLT:=hid (And.intro hlt hk1);clear HST HT HN hq hlt esb eP;generalize Y.P.da+q=qq at*
    generalize Y.fresh q=V at*
    go_wp2_with fail;refine (HD2.out _).mono ?_;rintro e w8 ⟨rfl,rfl⟩;go_wp2_with fail;refine HTK.out.mono ?_;rintro e w8 ⟨rfl,h8⟩;have H8:=hid h8;clear h8 HTK;have HR:=hid (show a≤k+1∧k+1≤b from ⟨by have:=HLT.out;omega,HLT.out.1⟩);go_wp2
    first | exact ⟨⟨k+1,V,_,N++ [qq],HR.out.1,HR.out.2,by go_num,H8,HT',HN'⟩,by have:=HLT.out;simp [intOf];omega⟩ | (go_roundw;case rel=>first | exact ⟨k+1,V,_,N++ [qq],HR.out.1,HR.out.2,by go_num,H8,HT',HN'⟩ | ((repeat apply Exists.intro);exact ⟨⟨k+1,V,_,N++ [qq],HR.out.1,HR.out.2,by go_num,H8,HT',HN'⟩,rfl⟩);case measure=>have:=HLT.out;simp [intOf];omega)
   ·have k1: ¬(k:Int)<b:=by omega
    obtain rfl:k=b:=by omega
    go_wp2_with fail;refine (HD2.out _).mono ?_;rintro e w8 ⟨rfl,rfl⟩;have d0:wr.cell? ⟨g,1,none⟩=some (.int .i64 (f' 1:Nat)):=(HST.out.arrCell (i:=0) rfl 1).trans (QP _ _ _ (by omega));have f0:wr.frozen? ⟨g,1,none⟩=false:=HST.out.arrFree (i:=0) rfl 1;have h9:=HST.out.setArr 0 rfl 1 (.int .i64 S);rw [Y7 _ _ _ _ (by omega),Et] at h9;have H9:=hid h9;clear h9 HST;go_wp2;go_ret;exact ⟨rfl,Z,Y,f',N,H9.out,HAB.out.1▸GW.out,GZ.out,HT.out,HN.out.1,HN.out.2.1,HN.out.2.2⟩
 ·obtain ⟨Z,hZ⟩: ∃Z,Z=X:=⟨X,rfl⟩;have G:Hid (At w0 w3 Z (arr g (stC 13 (ndI f)) 270 Jg::rs)):=by rw [hZ];exact H3
  have GW:Hid (Wr X Z (fun t=> ∃k,k<dat s∧t=f (2+k))):=by rw [hZ];exact hid (Wr.refl _ _)
  have GZ:Hid (UD X.v Z.v f s):=by rw [hZ];exact hid (UD.refl _ _ _ (by rw [HO.out];exact hop))
  have o2: ¬(0:Int)<(o:Int):=by omega
  clear hZ H3 d1 HZO;obtain ⟨w6,hw6⟩: ∃w6,w3=w6:=⟨_,rfl⟩;rw [hw6] at G ⊢;clear hw6;go_upto_region 9 with (fail)
  have HA:=HAB.out;clear HAB o2;have d1:w6.cell? ⟨g,1,none⟩=some (.int .i64 s):=(G.out.arrCell (i:=0) rfl 1).trans ((QP _ _ _ (by omega)).trans (by unfold ndI;rw [HSZ.out.1]));have HCZ:Hid (Cov Z C):=hid (HC.out.1.wr GW.out fun t ⟨k,hk,e⟩=>by rw [e];exact (HIN.out k hk).2.2);have HZF:=hid (HFB.out Z GW.out);have HAB:=hid HA;have hab:a≤b:=by have:=HSZ.out;have:=HA;unfold dat at this;omega
  clear HA hop;go_wp2_with fail;refine (HD1.out _).mono ?_;rintro e w7 ⟨rfl,rfl⟩;clear d1;go_wp2_with fail;go_loopw [11,12] (fun t _ wr=> ∃(k:Nat) (Y:Sys) (f':Nat→Nat) (N:List Nat),a≤k∧k≤b∧t= .int .i64 k∧Hid (At w0 wr Y (arr g (stC 13 (ndI f')) 270 Jg::rs))∧Hid (Ee Z Y f f' a k)∧Hid (N.length=k-a∧Cov Y (C++N)∧∀j,a≤j→j<k→f' (2+j)∈N)) (fun t _ _=>b-(intOf t).toNat)
  case atStart=>exact ⟨a,Z,f,[],Nat.le_refl _,hab,rfl,G,hid (Ee.refl Z f a),hid ⟨by simp,by rw [List.append_nil];exact HCZ.out,fun j h1 h2=>by omega⟩⟩
  case round=>
   clear G;obtain ⟨k,Y,f',N,hk1,hk2,rfl,HST,HT,HN⟩:=hrel;have k0:(0:Int)≤(k:Int):=Qk _;have esb:Y.sb=X.sb:=HT.out.wr.sb.trans GW.out.sb;have eP:Y.P=X.P:=HT.out.wr.P.trans GW.out.P;have ESB:=hid esb;by_cases hlt:k<b
   ·have k1:(k:Int)<b:=by omega
    obtain ⟨q,hq⟩:=Y.room (by have h1:=HT.out.free;have h2:=HZF.out;have h3:=HFR.out;omega);have HTK:=hid (Qhj HST.out (by rw [HT.out.wr.op,GW.out.op];exact HOP.out) k (by omega) hq HN.out.2.1 (by rw [eP];exact List.mem_append_left _ HC.out.2.1) (by have h1:=HC.out.2.2;have h2:=HN.out.1;have h3:=HAB.out;rw [h3.1,h3.2] at h1;rw [List.length_append];omega));rw [esb] at HTK;have HT':=hid (HT.out.step HST.out.ok hq);have HN':Hid ((N++ [Y.P.da+q]).length=k+1-a∧Cov (Y.fresh q) (C++(N++ [Y.P.da+q]))∧∀j,a≤j→j<k+1→JB f' (2+k) (Y.P.da+q) (2+j)∈N++ [Y.P.da+q]):=hid (by
     refine ⟨by rw [List.length_append,HN.out.1];simp;omega,(HN.out.2.1.mono fun c hc=>?_).wr (Wr.fresh Y q) fun t ht=>?_,fun j h1 h2=>?_⟩
     ·rw [←List.append_assoc];exact List.mem_append_left _ hc
     ·rcases ht with e | e
      ·rw [e,eP];exact List.mem_append_left _ HC.out.2.1
      ·rw [e];exact List.mem_append_right _ (List.mem_append_right _ (List.mem_singleton.2 rfl))
     ·by_cases e:j=k
      ·subst e;exact List.mem_append_right _ (List.mem_singleton.2 (if_pos rfl))
      ·have:JB f' (2+k) (Y.P.da+q) (2+j)=f' (2+j):=if_neg (by omega);rw [this];exact List.mem_append_left _ (HN.out.2.2 j h1 (by omega)))
    have HLT:=hid (And.intro hlt hk1);clear HST HT HN hq hlt esb eP;generalize Y.P.da+q=qq at*
    generalize Y.fresh q=V at*
    go_wp2_with fail;refine (HD2.out _).mono ?_;rintro e w8 ⟨rfl,rfl⟩;go_wp2_with fail;refine HTK.out.mono ?_;rintro e w8 ⟨rfl,h8⟩;have H8:=hid h8;clear h8 HTK;have HR:=hid (show a≤k+1∧k+1≤b from ⟨by have:=HLT.out;omega,HLT.out.1⟩);go_wp2
    first | exact ⟨⟨k+1,V,_,N++ [qq],HR.out.1,HR.out.2,by go_num,H8,HT',HN'⟩,by have:=HLT.out;simp [intOf];omega⟩ | (go_roundw;case rel=>first | exact ⟨k+1,V,_,N++ [qq],HR.out.1,HR.out.2,by go_num,H8,HT',HN'⟩ | ((repeat apply Exists.intro);exact ⟨⟨k+1,V,_,N++ [qq],HR.out.1,HR.out.2,by go_num,H8,HT',HN'⟩,rfl⟩);case measure=>have:=HLT.out;simp [intOf];omega)
   ·have k1: ¬(k:Int)<b:=by omega
    obtain rfl:k=b:=by omega
    go_wp2_with fail;refine (HD2.out _).mono ?_;rintro e w8 ⟨rfl,rfl⟩;have d0:wr.cell? ⟨g,1,none⟩=some (.int .i64 (f' 1:Nat)):=(HST.out.arrCell (i:=0) rfl 1).trans (QP _ _ _ (by omega));have f0:wr.frozen? ⟨g,1,none⟩=false:=HST.out.arrFree (i:=0) rfl 1;have h9:=HST.out.setArr 0 rfl 1 (.int .i64 S);rw [Y7 _ _ _ _ (by omega),Et] at h9;have H9:=hid h9;clear h9 HST;go_wp2;go_ret;exact ⟨rfl,Z,Y,f',N,H9.out,HAB.out.1▸GW.out,GZ.out,HT.out,HN.out.1,HN.out.2.1,HN.out.2.2⟩
def Sys.live (X:Sys) (i:Nat):Prop:=i<X.P.ni∧Qt (X.v X.P.im) i=true
def Sys.bytes (X:Sys) (i:Nat):List UInt8:=(List.range (X.nd i 1)).map (_root_.Go.Proofs.YtlemndledcmhiaaGreatDoor.fb X.v (X.nd i))
structure J5 (X:Sys):Prop where
 size: ∀i,X.live i→X.nd i 1≤5120
 blk: ∀i k,X.live i→k<dat (X.nd i 1)→∃b,b<X.P.dc∧X.nd i (2+k)=X.P.da+b∧Qt (X.v X.P.bm) b=true
 inj: ∀i j k m,X.live i→X.live j→k<dat (X.nd i 1)→m<dat (X.nd j 1)→X.nd i (2+k)=X.nd j (2+m)→i=j∧k=m
theorem Yq {s:Nat} (h:s≤5120):dat s≤10:=by unfold dat;omega
theorem Eh {p s:Nat} (h:p<s):p/512<dat s:=by unfold dat;omega
theorem Jr (X:Sys) (i:Nat):(X.bytes i).length=X.nd i 1:=by simp [Sys.bytes]
theorem UN (X:Sys) (i p:Nat) (h:p<X.nd i 1):(X.bytes i)[p]?=some (fb X.v (X.nd i) p):=by simp [Sys.bytes,h]
theorem Y3 {X W:Sys} {j:Nat} (h1: ∀m,m<13→W.nd j m=X.nd j m) (hs:X.nd j 1≤5120) (hv: ∀k,k<dat (X.nd j 1)→W.v (X.nd j (2+k))=X.v (X.nd j (2+k))):W.bytes j=X.bytes j:=by
 unfold Sys.bytes;rw [h1 1 (by omega)];apply List.map_congr_left;intro p hp;have hp:=List.mem_range.1 hp;unfold fb;rw [h1 (2+p/512) (by omega),hv (p/512) (Eh hp)]
theorem QeP {X:Sys} (h:Jl X) {i j:Nat} (hi:i<X.P.ni) (hj:j<13):X.nd i j<4294967296:=
 have:=h.tab hi
 EA _ _ 4 (by rw [h.len _ this.1 this.2.2];omega)
theorem J5.data {X Y:Sys} {T:Nat→Prop} (h:J5 X) (hX:Jl X) (hw:Wr X Y T) (hT: ∀t,T t→X.P.da≤t):J5 Y∧(∀i,Y.live i↔X.live i)∧(∀i,X.live i→Y.nd i=X.nd i)∧Y.fb=X.fb:=by
 have h1:=hX.pl.im;have h2:=hX.pl.bm;have h3:=hX.pl.tb;have h4:=hX.pl.da;have hP:=hw.P;have him:Y.v X.P.im=X.v X.P.im:=hw.v _ fun ht=>by have:=hT _ ht;omega
 have hbm:Y.v X.P.bm=X.v X.P.bm:=hw.v _ fun ht=>by have:=hT _ ht;omega
 have hl: ∀i,Y.live i↔X.live i:=fun i=>by unfold Sys.live;rw [hP,him]
 have hn: ∀i,X.live i→Y.nd i=X.nd i:=fun i hi=>by
  unfold Sys.nd;rw [hP,hw.v _ fun ht=>by have:=hT _ ht;have:=hi.1;omega]
 refine ⟨⟨fun i hi=>?_,fun i k hi hk=>?_,fun i j k m hi hj hk hm e=>?_⟩,hl,hn,hw.fb fun ht=>by have:=hT _ ht;omega⟩
 ·rw [hn i ((hl i).1 hi)];exact h.size i ((hl i).1 hi)
 ·have hi:=(hl i).1 hi;rw [hn i hi] at hk ⊢;rw [hP,hbm];exact h.blk i k hi hk
 ·have hi:=(hl i).1 hi;have hj:=(hl j).1 hj;rw [hn i hi] at hk e;rw [hn j hj] at hm e;exact h.inj i j k m hi hj hk hm e
def Sys.saved (Y:Sys) (i:Nat) (f:Nat→Nat):Sys:=Y.put (Y.P.tb+i/8) (Yl (Y.v (Y.P.tb+i/8)) (i%8*64) f 13)
theorem J5.grown {X Z Y:Sys} {i S:Nat} {f':Nat→Nat} (ho:J5 X) (hX:Jl X) (hY:Jl Y) (hi:X.live i) (hw:Wr X Z (fun t=> ∃k,k<dat (X.nd i 1)∧t=X.nd i (2+k))) (hz:UD X.v Z.v (X.nd i) (X.nd i 1)) (ht:Ee Z Y (X.nd i) f' (dat (X.nd i 1)) (dat S)) (hS:X.nd i 1≤S) (hS2:S≤5120):
 let W:=Y.saved i (JB f' 1 S)
 J5 W∧(∀j,W.live j↔X.live j)∧(∀j,X.live j→j≠i→W.bytes j=X.bytes j∧∀m,m<13→W.nd j m=X.nd j m)∧W.nd i 0=X.nd i 0∧W.nd i 1=S∧(∀p,p<S→fb W.v (W.nd i) p=if p<X.nd i 1 then fb X.v (X.nd i) p else 0)∧(∀k,k<dat S→W.nd i (2+k)=f' (2+k))∧W.fb+(dat S-dat (X.nd i 1))=X.fb:=by
 intro W;have h1:=hX.pl.im;have h2:=hX.pl.bm;have h3:=hX.pl.tb;have h4:=hX.pl.da;have hPZ:=hw.P;have hP:Y.P=X.P:=ht.wr.P.trans hPZ;have hPW:W.P=X.P:=hP;have hse:=ho.size i hi;have hda:=Yq hse;have hdS:=Yq hS2;have hbk:=ho.blk i
 -- the blocks
 have hZ: ∀t,t<X.P.da→Z.v t=X.v t:=fun t h=>hw.v t fun ⟨k,hk,e⟩=>by obtain ⟨b,_,q,_⟩:=hbk k hi hk;omega
 have hYm: ∀t,t<X.P.da→t≠X.P.bm→Y.v t=X.v t:=fun t h hb=>(ht.wr.v t fun hh=>by rw [hPZ] at hh;rcases hh with e | ⟨b,_,_,e⟩<;>omega).trans (hZ t h)
 have hZb:Z.v X.P.bm=X.v X.P.bm:=hZ _ (by omega);have hWv: ∀t,W.v t=if t=X.P.tb+i/8 then Yl (Y.v (X.P.tb+i/8)) (i%8*64) (JB f' 1 S) 13 else Y.v t:=fun t=>by
  show (Sys.put Y _ _).v t=_;rw [Sys.put_v,hP]
 have hi1:=hi.1;have htl:X.P.tb+i/8<X.P.da:=by omega
 have hWim:W.v X.P.im=X.v X.P.im:=by rw [hWv,if_neg (by omega)];exact hYm _ (by omega) (by omega)
 have hWbm:W.v X.P.bm=Y.v X.P.bm:=by rw [hWv,if_neg (by omega)]
 have hWd: ∀t,X.P.da≤t→W.v t=Y.v t:=fun t h=>by rw [hWv,if_neg (by omega)]
 have hlive: ∀j,W.live j↔X.live j:=fun j=>by unfold Sys.live;rw [hPW,hWim]
 have hlen:(Y.v (X.P.tb+i/8)).length=512:=by have:=hY.tab (i:=i) (by rw [hP];exact hi1);rw [hP] at this;exact hY.len _ this.1 this.2.2
 have hf: ∀j,j<13→JB f' 1 S j<4294967296:=fun j hj=>by
  show (if j=1 then S else f' j)<_;by_cases e:j=1
  ·rw [if_pos e];omega
  ·rw [if_neg e];by_cases e2:j<2+dat (X.nd i 1)∨2+dat S≤j
   ·rw [ht.same j e2];exact QeP hX hi.1 hj
   ·obtain ⟨b,q1,q2,_⟩:=ht.new (j-2) (by omega) (by omega);rw [show 2+(j-2)=j by omega] at q2;have:=hX.pl.all;have:=hX.pl.n;rw [hPZ] at q1 q2;omega
 have hWi: ∀m,m<13→W.nd i m=JB f' 1 S m:=fun m hm=>by
  unfold Sys.nd YA;rw [hPW,hWv,if_pos rfl];exact Vw _ _ _ 13 (by rw [hlen];omega) hf m hm
 have hWj: ∀j,X.live j→j≠i→∀m,m<13→W.nd j m=X.nd j m:=fun j hj hne m hm=>by
  have hj1:=hj.1;have e0:Y.v (X.P.tb+j/8)=X.v (X.P.tb+j/8):=hYm _ (by omega) (by omega);unfold Sys.nd YA;rw [hPW,hWv];by_cases e:j/8=i/8
  ·rw [if_pos (by rw [e]),VT _ _ _ _ _ 13 (by rw [hlen];omega) (by omega),←e,e0]
  ·rw [if_neg (by omega),e0]
 have e1:W.nd i 1=S:=hWi 1 (by omega);have eb: ∀k,k<dat S→W.nd i (2+k)=f' (2+k):=fun k hk=>(hWi (2+k) (by omega)).trans (if_neg (by omega))
 have eo: ∀k,k<dat (X.nd i 1)→W.nd i (2+k)=X.nd i (2+k):=fun k hk=>(eb k (by have:=ht.ak;omega)).trans (ht.same _ (.inl (by omega)))
 have en: ∀k,dat (X.nd i 1)≤k→k<dat S→∃b,b<X.P.dc∧W.nd i (2+k)=X.P.da+b∧Qt (X.v X.P.bm) b=false∧Qt (W.v X.P.bm) b=true∧W.v (X.P.da+b)=Qs:=fun k q1 q2=>by
  obtain ⟨b,r1,r2,r3,r4,r5⟩:=ht.new k q1 q2;rw [hPZ] at r1 r2 r3 r4 r5;rw [hZb] at r3;exact ⟨b,r1,(eb k q2).trans r2,r3,by rw [hWbm];exact r4,by rw [hWd _ (by omega)];exact r5⟩
 have hkeep: ∀b,Qt (X.v X.P.bm) b=true→Qt (W.v X.P.bm) b=true:=fun b hb=>by
  rw [hWbm];have:=ht.keep b;rw [hPZ,hZb] at this;exact this hb
 -- each block is an old one, or new
 have orig: ∀j k,X.live j→k<dat (W.nd j 1)→(k<dat (X.nd j 1)∧W.nd j (2+k)=X.nd j (2+k))∨(j=i∧dat (X.nd i 1)≤k∧k<dat S):=fun j k hj hk=>by
  by_cases e:j=i
  ·subst e;rw [e1] at hk;by_cases hl:k<dat (X.nd j 1)
   ·exact .inl ⟨hl,eo k hl⟩
   ·exact .inr ⟨rfl,by omega,hk⟩
  ·have hk2:=hk;rw [hWj j hj e 1 (by omega)] at hk2;have:=Yq (ho.size j hj);exact .inl ⟨hk2,hWj j hj e (2+k) (by omega)⟩
 have hcl: ∀j k m,X.live j→k<dat (X.nd j 1)→dat (X.nd i 1)≤m→m<dat S→X.nd j (2+k)≠W.nd i (2+m):=fun j k m hj hk hm1 hm2 e=>by
  obtain ⟨b,_,r2,r3,_⟩:=en m hm1 hm2;obtain ⟨c,_,s2,s3⟩:=ho.blk j k hj hk;have:c=b:=by omega
  rw [this,r3] at s3;cases s3
 have hdata: ∀j k,X.live j→k<dat (X.nd j 1)→j≠i→W.v (X.nd j (2+k))=X.v (X.nd j (2+k)):=fun j k hj hk hne=>by
  obtain ⟨c,s1,s2,s3⟩:=ho.blk j k hj hk;rw [hWd _ (by omega),ht.wr.v _ fun hh=>by
   rw [hPZ] at hh;rcases hh with e | ⟨b,_,q,e⟩
   ·omega
   ·have:b=c:=by omega
    rw [this,hZb,s3] at q;cases q]
  exact hw.v _ fun ⟨m,hm,e⟩=>hne (ho.inj j i k m hj hi hk hm e).1
 refine ⟨⟨fun j hj=>?_,fun j k hj hk=>?_,fun j j' k m hj hj' hk hm e=>?_⟩,hlive,fun j hj hne=>⟨Y3 (hWj j hj hne) (ho.size j hj) fun k hk=>hdata j k hj hk hne,hWj j hj hne⟩,?_,e1,fun p hp=>?_,eb,?_⟩
 ·have hj:=(hlive j).1 hj;by_cases e:j=i
  ·rw [e,e1];exact hS2
  ·rw [hWj j hj e 1 (by omega)];exact ho.size j hj
 ·have hj:=(hlive j).1 hj;rw [hPW];rcases orig j k hj hk with ⟨q1,q2⟩ | ⟨rfl,q1,q2⟩
  ·obtain ⟨b,r1,r2,r3⟩:=ho.blk j k hj q1;exact ⟨b,r1,q2.trans r2,hkeep b r3⟩
  ·obtain ⟨b,r1,r2,_,r4,_⟩:=en k q1 q2;exact ⟨b,r1,r2,r4⟩
 ·have gj:=(hlive j).1 hj;have gj':=(hlive j').1 hj';clear hj hj';rcases orig j k gj hk with ⟨q1,q2⟩ | ⟨rfl,q1,q2⟩
  ·rcases orig j' m gj' hm with ⟨s1,s2⟩ | ⟨rfl,s1,s2⟩
   ·rw [q2,s2] at e;exact ho.inj j j' k m gj gj' q1 s1 e
   ·rw [q2] at e;exact absurd e (hcl j k m gj q1 s1 s2)
  ·rcases orig j' m gj' hm with ⟨s1,s2⟩ | ⟨rfl,s1,s2⟩
   ·rw [s2] at e;exact absurd e.symm (hcl j' m k gj' s1 q1 q2)
   ·rw [eb k q2,eb m s2] at e;exact ⟨rfl,ht.inj k m q1 q2 s1 s2 e⟩
 ·exact (hWi 0 (by omega)).trans ((if_neg (by omega)).trans (ht.same 0 (.inl (by omega))))
 ·have hk:=Eh hp;by_cases hl:p/512<dat (X.nd i 1)
  ·have hpz:=hz p (by omega);unfold fb at hpz ⊢;rw [eo _ hl];obtain ⟨c,s1,s2,s3⟩:=ho.blk i _ hi hl;rw [hWd _ (by omega),ht.wr.v _ fun hh=>by
    rw [hPZ] at hh;rcases hh with e | ⟨b,_,q,e⟩
    ·omega
    ·have:b=c:=by omega
     rw [this,hZb,s3] at q;cases q]
   exact hpz
  ·obtain ⟨b,r1,r2,_,_,r5⟩:=en (p/512) (by omega) hk;rw [if_neg (fun h=>hl (Eh h))];unfold fb;rw [r2,r5];unfold Qs;rw [List.getD_eq_getElem?_getD,List.getElem?_replicate];split<;>rfl
 ·have hf1:=ht.free;have:W.fb=Y.fb:=by unfold Sys.fb;rw [hPW,hP,hWbm]
  have hzf:Z.fb=X.fb:=hw.fb fun ⟨k,hk,e⟩=>by obtain ⟨b,_,q,_⟩:=hbk k hi hk;omega
  omega
structure Yp (X W:Sys) (i a:Nat) (b:List UInt8):Prop where
 ok:J5 W
 live: ∀j,W.live j↔X.live j
 oth: ∀j,X.live j→j≠i→W.bytes j=X.bytes j∧∀m,m<13→W.nd j m=X.nd j m
 kind:W.nd i 0=X.nd i 0
 size:W.nd i 1=max (X.nd i 1) (a+b.length)
 byte: ∀p,p<W.nd i 1→fb W.v (W.nd i) p=if a≤p∧p<a+b.length then b.getD (p-a) 0 else fb X.v (X.nd i) p
 free:W.fb+(dat (W.nd i 1)-dat (X.nd i 1))=X.fb
 wr:Wr X W fun _=>True
theorem J5.laid {W V:Sys} {i a:Nat} {f:Nat→Nat} {b:List UInt8} (ho:J5 W) (hW:Jl W) (hi:W.live i) (hf: ∀k,k<dat (W.nd i 1)→f (2+k)=W.nd i (2+k)) (hw:Wr W V (fun t=> ∃k,k<dat (W.nd i 1)∧t=f (2+k))) (hab:a+b.length≤W.nd i 1) (hl:Laid W.v V.v f (dat (W.nd i 1)) a b.length b):Yp W V i a b:=by
 have hda: ∀t,(∃k,k<dat (W.nd i 1)∧t=f (2+k))→W.P.da≤t:=fun t ⟨k,hk,e⟩=>by
  obtain ⟨c,_,q,_⟩:=ho.blk i k hi hk;rw [hf k hk] at e;omega
 obtain ⟨h1,h2,h3,h4⟩:=ho.data hW hw hda;refine ⟨h1,h2,fun j hj hne=>⟨Y3 (fun m _=>by rw [h3 j hj]) (ho.size j hj) fun k hk=>hw.v _ fun ⟨m,hm,e⟩=>hne (ho.inj j i k m hj hi hk hm (by rw [←hf m hm];exact e)).1,fun m _=>by rw [h3 j hj]⟩,by rw [h3 i hi],by rw [h3 i hi];omega,fun p hp=>?_,by rw [h3 i hi,h4];omega,hw.mono fun _ _=>trivial⟩;rw [h3 i hi] at hp ⊢;have hk:=Eh hp;have:=hl p (by omega);unfold fb at this ⊢;rw [hf _ hk] at this;exact this
theorem Yp.after {X W V:Sys} {i a S:Nat} {b:List UInt8} (hi:X.live i) (g1: ∀j,W.live j↔X.live j) (g2: ∀j,X.live j→j≠i→W.bytes j=X.bytes j∧∀m,m<13→W.nd j m=X.nd j m) (g3:W.nd i 0=X.nd i 0) (g4:W.nd i 1=S) (g5: ∀p,p<S→fb W.v (W.nd i) p=if p<X.nd i 1 then fb X.v (X.nd i) p else 0) (g6:W.fb+(dat S-dat (X.nd i 1))=X.fb) (hwr:Wr X W fun _=>True) (hS:S=a+b.length) (hs:X.nd i 1≤S) (ha:a≤X.nd i 1) (h:Yp W V i a b):Yp X V i a b:=by
 have e1:V.nd i 1=S:=by rw [h.size,g4,hS];omega
 refine ⟨h.ok,fun j=>(h.live j).trans (g1 j),fun j hj hne=>?_,h.kind.trans g3,by rw [e1,hS];omega,fun p hp=>?_,?_,hwr.trans h.wr⟩
 ·have q1:=h.oth j ((g1 j).2 hj) hne;have q2:=g2 j hj hne;exact ⟨q1.1.trans q2.1,fun m hm=>(q1.2 m hm).trans (q2.2 m hm)⟩
 ·rw [h.byte p hp];rw [e1] at hp;by_cases e:a≤p∧p<a+b.length
  ·rw [if_pos e,if_pos e]
  ·rw [if_neg e,if_neg e,g5 p hp,if_pos (by omega)]
 ·have:=h.free;rw [e1,g4] at this;rw [e1];omega
theorem Ee.lt {X Z Y:Sys} {i S:Nat} {f':Nat→Nat} (hX:Jl X) (hi:i<X.P.ni) (hP:Z.P=X.P) (ht:Ee Z Y (X.nd i) f' (dat (X.nd i 1)) (dat S)) (hS2:S≤5120): ∀j,j<13→JB f' 1 S j<4294967296:=fun j hj=>by
 show (if j=1 then S else f' j)<_;by_cases e:j=1
 ·rw [if_pos e];omega
 ·rw [if_neg e];by_cases e2:j<2+dat (X.nd i 1)∨2+dat S≤j
  ·rw [ht.same j e2];exact QeP hX hi hj
  ·obtain ⟨b,q1,q2,_⟩:=ht.new (j-2) (by omega) (by omega);rw [show 2+(j-2)=j by omega] at q2;have:=hX.pl.all;have:=hX.pl.n;rw [hP] at q1 q2;omega
theorem Qbl (h:At w0 w X rs) (hop:X.op=true) (ho:J5 X) (i:Nat) (hi:X.live i) (a:Nat) (ha:a≤X.nd i 1) (ai:Nat) {bb bo vc:Nat} {b:List UInt8} (hv:rs[ai]?=some (byt (.slice (some ⟨bb,bo,none⟩) b.length vc) b)) (S:Nat) (hS:S=max (X.nd i 1) (a+b.length)) (h2:S≤5120) (hfr:dat S-dat (X.nd i 1)≤X.fb) {C:List Nat} (hC:Cov X C) (hbm:X.P.bm∈C) (htb:X.P.tb+i/8∈C) (hin: ∀k,k<dat (X.nd i 1)→X.nd i (2+k)∈C) (h60:C.length+(dat S-dat (X.nd i 1))≤60):
 Calls prog 190 #[.pointer (some ⟨X.sb,0,none⟩),.int .i64 i,.int .i64 a,.slice (some ⟨bb,bo,none⟩) b.length vc] w fun e w'=>e= .returned (.int .i64 0)∧∃W N,At w0 w' W rs∧Yp X W i a b∧N.length=dat S-dat (X.nd i 1)∧Cov W (C++N)∧∀k,k<dat S→W.nd i (2+k)∈C++N:=by
 obtain ⟨f,hf⟩: ∃f,X.nd i=f:=⟨_,rfl⟩;obtain ⟨s,hs⟩: ∃s,f 1=s:=⟨_,rfl⟩;have HO:=hid ho;have HS:=hid h.ok;have HI:=hid hi;have HOP:=hid hop;have HC:=hid (And.intro hC (And.intro hbm htb));have HCH:=hid (U8 h hop i hi.1 hi.2);have HV:=hid hv;have hs5:=ho.size i hi;have HBI:Hid (∀k,k<dat s→X.P.da≤f (2+k)∧f (2+k)<X.n∧f (2+k)∈C):=hid fun k hk=>by
  rw [←hs,←hf] at hk;obtain ⟨c,q1,q2,_⟩:=ho.blk i k hi hk;have:=hin k hk;have q3:=h.ok.data q1;rw [hf] at q2 this;exact ⟨by omega,by omega,this⟩
 have HBJ:Hid (∀k j,k<dat s→j<dat s→f (2+k)=f (2+j)→k=j):=hid fun k j hk hj e=>by
  rw [←hs,←hf] at hk hj;rw [←hf] at e;exact (ho.inj i i k j hi hi hk hj e).2
 have KSB:Hid (∀(P:Prop),P→P):=hid fun _ h=>h
 rw [hf] at ha hS hfr hin h60 HCH hs5 ⊢;rw [hs] at ha hS hfr h60 hs5 ⊢;have HF:=hid hf;have HSS:=hid (And.intro hs (And.intro hS (And.intro h2 (And.intro ha (And.intro hfr h60)))));obtain ⟨n,hn⟩: ∃n,b.length=n:=⟨_,rfl⟩;have HN:=hid hn;rw [hn] at hS ⊢;have s0:(0:Int)≤(s:Int):=Qk _;have s1:(s:Int)≤5120:=by omega
 have a0:(0:Int)≤(a:Int):=Qk _;have a1:(a:Int)≤(s:Int):=by omega
 have n0:(0:Int)≤(n:Int):=Qk _;have n1:(a:Int)+(n:Int)≤5120:=by omega
 clear h hop ho hi hv hC hbm htb hin hs5 hfr h60 h2 hS ha hs hn;go_enter func190,ntmps190;go_wp2_with fail;refine HCH.out.mono ?_;clear HCH;rintro e w2 ⟨rfl,h2⟩;have HA:=hid (h2.newArr (stC 13 fun _=>0) 270 Jg);have HB0:=hid (show (w2.alloc (.cells (stC 13 fun _=>0) 270 (0,0))).heap[w2.heap.size]?=some (.cells (stC 13 fun _=>0) 270 (0,0)) from HA.out.1.get (i:=1) rfl);have HA2:=hid (HA.out.setRow 0 (c':=stC 13 (ndI f)) rfl);clear h2;go_upto_region 2 with (first | (refine Qg rfl _ _ Ej rfl ?_) | (refine K8 rfl _ _ rfl w2.heap.size _ rfl rfl _ (YS _ _) HB0.out ?_))
 obtain ⟨y1,hy1,h1⟩:=HA2.out.name;rw [hy1];have H1:Hid (At w0 y1 X (arr w2.heap.size (stC 13 (ndI f)) 270 Jg::rs)):=hid h1;clear hy1 HA HA2 HB0 h1;generalize w2.heap.size=g at*
 have d1:y1.cell? ⟨g,1,none⟩=some (.int .i64 s):=(H1.out.arrCell (i:=0) rfl 1).trans ((QP _ _ _ (by omega)).trans (by unfold ndI;rw [HSS.out.1]));by_cases hg:s<a+n
 ·have g1:(s:Int)<(a:Int)+(n:Int):=by omega
  have eS:S=a+n:=by have:=HSS.out.2.1;have:=HN.out;omega
  have HG:=hid (QjR H1.out HOP.out s S HSS.out.1 (by omega) HSS.out.2.2.1 HSS.out.2.2.2.2.1 HBI.out HBJ.out HC.out.1 HC.out.2.1 HSS.out.2.2.2.2.2);rw [show ((S:Nat):Int)=(a:Int)+(n:Int) by omega] at HG;clear H1;go_wp2_with fail;refine HG.out.mono ?_;clear HG d1;rintro e w3 ⟨rfl,Z,Y,f',N,h3,hzw,hzz,htk,hnl,hcv,hnn⟩;have e1:X.nd i 1=s:=by rw [HF.out];exact HSS.out.1
  have ePZ:=hzw.P;have ePY:Y.P=X.P:=htk.wr.P.trans ePZ;have esb:Y.sb=X.sb:=htk.wr.sb.trans hzw.sb;have htk':Ee Z Y (X.nd i) f' (dat (X.nd i 1)) (dat S):=by rw [e1,HF.out];exact htk
  have hzw':Wr X Z (fun t=> ∃k,k<dat (X.nd i 1)∧t=X.nd i (2+k)):=by rw [e1,HF.out];exact hzw
  have hG:=HO.out.grown HS.out h3.ok HI.out hzw' (by rw [e1,HF.out];exact hzz) htk' (by rw [e1];omega) HSS.out.2.2.1;have hlt:=Ee.lt HS.out HI.out.1 ePZ htk' HSS.out.2.2.1;obtain ⟨f2,hf2⟩: ∃f2,JB f' 1 S=f2:=⟨_,rfl⟩;have hf2k: ∀k,f2 (2+k)=f' (2+k):=fun k=>by rw [←hf2];exact if_neg (by omega)
  rw [hf2] at h3 hG hlt;have hCN:(C++N).length≤60:=by rw [List.length_append,hnl];exact HSS.out.2.2.2.2.2
  have HSV:=hid (Qbc h3 (by rw [htk.wr.op,hzw.op];exact HOP.out) i (by rw [ePY];exact HI.out.1) f2 hlt (hcv.room h3.ok (by rw [ePY];exact List.mem_append_left _ HC.out.2.2) hCN));rw [esb] at HSV;have HB3:=hid (show w3.heap[g]?=some (.cells (stC 13 (ndI f2)) 270 (0,0)) from h3.1.get (i:=1) rfl);have hwX:Wr X (Y.saved i f2) fun _=>True:=((hzw.mono fun _ _=>trivial).trans (htk.wr.mono fun _ _=>trivial)).trans ((Wr.put Y _ _).mono fun _ _=>trivial)
  have hcW:Cov (Y.saved i f2) (C++N):=hcv.wr (Wr.put Y _ _) fun t e=>by rw [e,ePY];exact List.mem_append_left _ HC.out.2.2
  have eW:(show Sys from Y.put (Y.P.tb+i/8) (Yl (Y.v (Y.P.tb+i/8)) (i%8*64) f2 13))=Y.saved i f2:=rfl;have hblk: ∀k,k<dat S→f2 (2+k)∈C++N:=fun k hk=>by
   rw [hf2k];by_cases q:k<dat s
   ·rw [htk.same _ (.inl (by omega))];exact List.mem_append_left _ (HBI.out k q).2.2
   ·exact List.mem_append_right _ (hnn k (by omega) hk)
  obtain ⟨W,hW⟩: ∃W,Y.saved i f2=W:=⟨_,rfl⟩;have HSV2:Hid (Calls prog 184 #[.pointer (some ⟨X.sb,0,none⟩),.int .i64 i,.agg (stC 13 (ndI f2))] w3 fun e w'=>e= .returned (.int .i64 0)∧At w0 w' W (arr g (stC 13 (ndI f2)) 270 Jg::rs)):=by rw [←hW];exact HSV
  simp only [hW] at hG;rw [hW] at hwX hcW;obtain ⟨k1,k2,k3,k4,k5,k6,k7,k8⟩:=hG;have HW:=hid (And.intro k1 (And.intro k2 (And.intro k3 (And.intro k4 (And.intro k5 (And.intro k6 (And.intro k7 k8)))))));have HWW:=hid (And.intro hwX (And.intro hcW (And.intro hblk (And.intro hf2k (And.intro hCN hnl)))));have iW:W.live i:=(k2 i).2 HI.out;have HLY:Hid (∀y,At w0 y W (arr g (stC 13 (ndI f2)) 270 Jg::rs)→Calls prog 254 #[.pointer (some ⟨X.sb,0,none⟩),.agg (stC 13 (ndI f2)),.int .i64 a,.slice (some ⟨bb,bo,none⟩) n vc] y fun e w'=>e= .returned (.int .i64 0)∧∃V,At w0 w' V (arr g (stC 13 (ndI f2)) 270 Jg::rs)∧Wr W V (fun t=> ∃k,k<dat S∧t=f2 (2+k))∧Laid W.v V.v f2 (dat S) a n b):=hid fun y hy=>by
   have hwb: ∀k,k<dat S→∃c,c<W.P.dc∧f2 (2+k)=W.P.da+c:=fun k hk=>by
    obtain ⟨c,q1,q2,_⟩:=HW.out.1.blk i k iW (by rw [HW.out.2.2.2.2.1];exact hk);rw [HW.out.2.2.2.2.2.2.1 k hk,←HWW.out.2.2.2.1] at q2;exact ⟨c,q1,q2⟩
   have:=Qf2 hy (by rw [HWW.out.1.op];exact HOP.out) f2 a (dat S) (ai+1) HV.out (Yq HSS.out.2.2.1) (by rw [HN.out];unfold dat;omega) (C:=C++N) (fun k hk=>by
    obtain ⟨c,q1,q2⟩:=hwb k hk;have:=hy.ok.data q1;exact ⟨by omega,by omega,HWW.out.2.2.1 k hk⟩) (fun k j hk hj e=>by
    refine (HW.out.1.inj i i k j iW iW (by rw [HW.out.2.2.2.2.1];exact hk) (by rw [HW.out.2.2.2.2.1];exact hj) ?_).2;rw [HW.out.2.2.2.2.2.2.1 k hk,HW.out.2.2.2.2.2.2.1 j hj,←HWW.out.2.2.2.1,←HWW.out.2.2.2.1];exact e) HWW.out.2.1 HWW.out.2.2.2.2.1
   rw [HN.out,HWW.out.1.sb] at this;exact this
  clear h3 hzw hzz htk hnl hcv hnn ePZ ePY esb htk' hzw' hlt hf2 hf2k hCN HSV hwX hcW eW hblk hW k1 k2 k3 k4 k5 k6 k7 k8;go_upto_region 12 with (fail)
  go_wp2_with (refine VI rfl _ rfl g rfl _ HB3.out ?_);refine HSV2.out.mono ?_;clear HSV2 HB3;rintro e w4 ⟨rfl,h4⟩;have HB4:=hid (show w4.heap[g]?=some (.cells (stC 13 (ndI f2)) 270 (0,0)) from h4.1.get (i:=1) rfl);have HL4:=hid (HLY.out w4 h4);have HS4:=hid h4.ok;clear HLY h4;go_upto_region 15 with (fail)
  go_wp2_with (refine VI rfl _ rfl g rfl _ HB4.out ?_);refine HL4.out.mono ?_;clear HL4 HB4;rintro e w5 ⟨rfl,V,h5,hvw,hvl⟩;have H5:=hid (h5.drop 1);clear h5;go_wp2;go_ret;have hfk: ∀k,k<dat S→f2 (2+k)=W.nd i (2+k):=fun k hk=>by rw [HW.out.2.2.2.2.2.2.1 k hk];exact HWW.out.2.2.2.1 k
  have eWS:=HW.out.2.2.2.2.1;have hwr:Yp W V i a b:=by
   refine HW.out.1.laid HS4.out iW (f:=f2) (by rw [eWS];exact hfk) (by rw [eWS];exact hvw) (by rw [eWS,HN.out];omega) (by rw [eWS,HN.out];exact hvl)
  have hX:Yp X V i a b:=hwr.after HI.out HW.out.2.1 HW.out.2.2.1 HW.out.2.2.2.1 HW.out.2.2.2.2.1 HW.out.2.2.2.2.2.1 HW.out.2.2.2.2.2.2.2 HWW.out.1 (by rw [HN.out];exact eS) (by rw [e1];omega) (by rw [e1];omega);refine ⟨rfl,V,N,H5.out,hX,HWW.out.2.2.2.2.2,HWW.out.2.1.wr hvw (fun t ⟨k,hk,e⟩=>by rw [e];exact HWW.out.2.2.1 k hk),fun k hk=>?_⟩;have hn2:=(HW.out.1.data HS4.out hvw fun t ⟨k,hk,e⟩=>by
   obtain ⟨c,_,q,_⟩:=HW.out.1.blk i k iW (by rw [eWS];exact hk);rw [←hfk k hk] at q;omega).2.2.1 i iW
  rw [hn2,←hfk k hk];exact HWW.out.2.2.1 k hk
 ·have g1: ¬(s:Int)<(a:Int)+(n:Int):=by omega
  have eS:S=s:=by have:=HSS.out.2.1;have:=HN.out;omega
  have HB1:=hid (show y1.heap[g]?=some (.cells (stC 13 (ndI f)) 270 (0,0)) from H1.out.1.get (i:=1) rfl);have HL:=hid (Qf2 H1.out HOP.out f a (dat s) (ai+1) HV.out (by have:=HSS.out.2.2.1;unfold dat;omega) (by rw [HN.out];unfold dat;omega) HBI.out HBJ.out HC.out.1 (by have:=HSS.out.2.2.2.2.2;omega));rw [HN.out] at HL;go_wp2_with (refine VI rfl _ rfl g rfl _ HB1.out ?_);refine HL.out.mono ?_;clear HL;rintro e w3 ⟨rfl,W,h3,hw,hl⟩;have H3:=hid (h3.drop 1);clear h3;go_wp2;go_ret;have e1:X.nd i 1=s:=by rw [HF.out];exact HSS.out.1
  have e2:dat S-dat s=0:=by rw [eS];omega
  have hwr:Yp X W i a b:=by
   rw [←e1] at hw hl;exact HO.out.laid HS.out HI.out (fun k _=>by rw [HF.out]) hw (by rw [e1,HN.out];omega) (by rw [HN.out];exact hl)
  refine ⟨rfl,W,[],H3.out,hwr,by rw [e2];rfl,?_,fun k hk=>?_⟩
  ·rw [List.append_nil];exact HC.out.1.wr hw fun t ⟨k,hk,e⟩=>by rw [e];exact (HBI.out k hk).2.2
  ·rw [eS] at hk;have hn:=(HO.out.data HS.out hw fun t ⟨k,hk,e⟩=>by rw [e];exact (HBI.out k hk).1).2.2.1 i HI.out;rw [hn,HF.out,List.append_nil];exact (HBI.out k hk).2.2
theorem OT {w w':World} {base:Nat} {e:TypeId} {size:Nat} {v:Value} {n:Nat} {xs:List Value} (h:w.ownsRow base e size v n xs) (hf:Frm NoB w w'):w'.ownsRow base e size v n xs:=by
 obtain ⟨h1,h | ⟨g,cap,cur,q1,q2,q3,q4⟩⟩:=h
 ·exact ⟨h1,.inl h⟩
 ·exact ⟨h1,.inr ⟨g,cap,cur,q1,q2,(hf.block g (lt_of_block q3) (fun x=>x.elim)).trans q3,q4⟩⟩
theorem Qet {w w' w'':World} {e:TypeId} {size:Nat} {v:Value} {n:Nat} {xs:List Value} (hf:Frm NoB w w') (h:w'.ownsRow w.heap.size e size v n xs) (hg:w'.grownBy w'' v.ownBlock):Frm NoB w w'':=
 hf.trans (Frm.ofGrown hg) fun x hx e=>by
  obtain ⟨_,h | ⟨g,cap,cur,q1,q2,_⟩⟩:=h
  ·rw [h.1] at e;cases e
  ·rw [q1] at e;have e:g=x:=Option.some.inj e;exact absurd hx (by omega)
theorem QaV {v:Nat→Blk} {f:Nat→Nat} {s en a d T:Nat} (hB:(v (f (2+(a+d)/512))).length=512) (hen:en≤s) (hd:a+d<en) (hT:T=min 512 ((a+d)%512+(en-(a+d)))):
 ((((List.range s).map (fb v f)).drop a).take (en-a)).take (d+(T-(a+d)%512))=((((List.range s).map (fb v f)).drop a).take (en-a)).take d++((v (f (2+(a+d)/512))).drop ((a+d)%512)).take (T-(a+d)%512):=by
 have hc: ∀j,j<en-a→((((List.range s).map (fb v f)).drop a).take (en-a))[j]?=some (fb v f (a+j)):=fun j hj=>by
  rw [List.getElem?_take,if_pos hj,List.getElem?_drop,List.getElem?_map,List.getElem?_range (by omega)];rfl
 have hl:((((List.range s).map (fb v f)).drop a).take (en-a)).length=en-a:=by simp;omega
 rw [List.take_add]
 congr 1
 apply List.ext_getElem?;intro j;rw [List.getElem?_take,List.getElem?_take];by_cases hj:j<T-(a+d)%512
 ·rw [if_pos hj,if_pos hj,List.getElem?_drop,List.getElem?_drop,hc (d+j) (by omega)];unfold fb;rw [show (a+(d+j))/512=(a+d)/512 by omega,show (a+(d+j))%512=(a+d)%512+j by omega,List.getD_eq_getElem?_getD,List.getElem?_eq_getElem (by rw [hB];omega)];rfl
 ·rw [if_neg hj,if_neg hj]
theorem Qcl (w:World) (sb:Nat) (f:Nat→Nat) (k:Nat) (hk:k<10):
 Calls prog 213 #[.pointer (some ⟨sb,0,none⟩),.agg (stC 13 (ndI f)),.int .i64 k] w fun e w'=>e= .returned (.tuple #[.int .i64 (f (2+k)),.int .i64 0])∧Frm NoB w w':=by
 have HF:Hid (Frm NoB w (w.alloc (.cells (stC 13 (ndI f)) 270 (0,0)))):=hid ((Frm.refl NoB w).alloc _);have k0:(0:Int)≤(k:Int):=Qk _;have k1:(k:Int)<10:=by omega
 have k2:(k:Int)<11:=by omega
 have d0:(w.alloc (.cells (stC 13 (ndI f)) 270 (0,0))).cell? ⟨w.heap.size,2+k,none⟩=some (.int .i64 (f (2+k))):=(Qa (Qb w (.cells (stC 13 (ndI f)) 270 (0,0)))).trans (QP _ _ _ (by omega));obtain ⟨z,hz⟩: ∃z,f (2+k)=z:=⟨_,rfl⟩;rw [hz] at d0;have HZ:=hid hz;clear hk hz;go_enter func213,ntmps213;go_wp2;go_ret2;exact ⟨by rw [HZ.out];rfl,HF.out⟩
theorem Qhw (h:At w0 w X rs) (ho:J5 X) (i:Nat) (hi:X.live i) (a n en:Nat) (ha:a≤1000000) (hn:n≤1000000) (hen:en=if a<X.nd i 1∧n<X.nd i 1-a then a+n else X.nd i 1):
 Calls prog 122 #[.pointer (some ⟨X.sb,0,none⟩),.int .i64 i,.int .i64 a,.int .i64 n] w fun e w'=> ∃v,e= .returned (.tuple #[v,.int .i64 0])∧((v= .slice none 0 0∧((X.bytes i).drop a).take (en-a)= []∧At w0 w' X rs)∨At w0 w' X (byt v (((X.bytes i).drop a).take (en-a))::rs)):=by
 obtain ⟨f,hf⟩: ∃f,X.nd i=f:=⟨_,rfl⟩;obtain ⟨s,hs⟩: ∃s,f 1=s:=⟨_,rfl⟩;have HCH:=hid (Qds h i hi.1 hi.2);have hs5:=ho.size i hi;have HBI:Hid (∀k,k<dat s→245≤f (2+k)∧f (2+k)<X.n):=hid fun k hk=>by
  rw [←hs,←hf] at hk;obtain ⟨c,q1,q2,_⟩:=ho.blk i k hi hk;have q3:=h.ok.data q1;rw [hf] at q2;exact ⟨by omega,by omega⟩
 obtain ⟨cont,hcont⟩: ∃cont,((X.bytes i).drop a).take (en-a)=cont:=⟨_,rfl⟩;have HCT:Hid (cont=(((List.range s).map (fb X.v f)).drop a).take (en-a)):=hid (by rw [←hcont];unfold Sys.bytes;rw [hf,hs]);rw [hcont];rw [hf] at HCH hs5 hen;rw [hs] at hs5 hen;have HSS:=hid (And.intro hs hs5);have HEN:=hid hen;have hens:en≤s:=by rw [hen];split<;>omega
 have s0:(0:Int)≤(s:Int):=Qk _;have s1:(s:Int)≤5120:=by omega
 have a0:(0:Int)≤(a:Int):=Qk _;have a1:(a:Int)≤1000000:=by omega
 have n0:(0:Int)≤(n:Int):=Qk _;have n1:(n:Int)≤1000000:=by omega
 have m0:(0:Int)≤(en:Int):=Qk _;have m1:(en:Int)≤(s:Int):=by omega
 clear h ho hi hs5 hen hs hf hcont;go_enter func122,ntmps122;go_wp2_with fail;refine HCH.out.mono ?_;clear HCH;rintro e w2 ⟨rfl,h2⟩;have HA:=hid (h2.newArr (stC 13 fun _=>0) 270 Jg);have HB0:=hid (show (w2.alloc (.cells (stC 13 fun _=>0) 270 (0,0))).heap[w2.heap.size]?=some (.cells (stC 13 fun _=>0) 270 (0,0)) from HA.out.1.get (i:=1) rfl);have HA2:=hid (HA.out.setRow 0 (c':=stC 13 (ndI f)) rfl);clear h2;go_upto_region 2 with (first | (refine Qg rfl _ _ Ej rfl ?_) | (refine K8 rfl _ _ rfl w2.heap.size _ rfl rfl _ (YS _ _) HB0.out ?_))
 obtain ⟨y1,hy1,h1⟩:=HA2.out.name;rw [hy1];have H1:Hid (At w0 y1 X (arr w2.heap.size (stC 13 (ndI f)) 270 Jg::rs)):=hid h1;clear hy1 HA HA2 HB0 h1;generalize w2.heap.size=g at*
 have d1:y1.cell? ⟨g,1,none⟩=some (.int .i64 s):=(H1.out.arrCell (i:=0) rfl 1).trans ((QP _ _ _ (by omega)).trans (by unfold ndI;rw [HSS.out.1]));by_cases c1:(a:Int)<(s:Int)
 ·by_cases c2:(n:Int)<(s:Int)-(a:Int)
  ·have een:(a:Int)+(n:Int)=(en:Int):=by have:=HEN.out;rw [if_pos (by omega)] at this;omega
   go_upto_region 9 with (fail)
   have HO:Hid (y1.ownsRow y1.heap.size 5 1 (.slice none 0 0) 0 ((cont.take 0).map B8)):=hid ⟨rfl,.inl ⟨rfl,rfl⟩⟩;have HF0:=hid (Frm.refl NoB y1);clear d1 c1;go_wp2_with fail;go_loopw [2,13,14,15,16,17,18] (fun t2 t13 _ _ _ _ _ wr=> ∃(d:Nat) (v:Value),(a+d≤en∨d=0)∧t2= .int .i64 ((a+d:Nat):Int)∧v=t13∧Hid (Frm NoB y1 wr)∧Hid (wr.ownsRow y1.heap.size 5 1 v d ((cont.take d).map B8))) (fun t2 _ _ _ _ _ _ _=>en-(intOf t2).toNat)
   case atStart=>exact ⟨0,_,.inr rfl,rfl,rfl,HF0,HO⟩
   case round=>
    clear HO HF0;obtain ⟨d,v,hd,rfl,rfl,HFR,HOW⟩:=hrel;have d0:(0:Int)≤(d:Int):=Qk _;by_cases hlt:a+d<en
    ·have l1:(a:Int)+(d:Int)<(en:Int):=by omega
     have hst:=H1.out.frm HFR.out;have HBG:=hid (show wr.heap[g]?=some (.cells (stC 13 (ndI f)) 270 (0,0)) from hst.1.get (i:=1) rfl);obtain ⟨k,hk⟩: ∃k,(a+d)/512=k:=⟨_,rfl⟩;have ez:((a:Int)+d)/512=((k:Nat):Int):=by omega
     have hq:=HBI.out k (by rw [←hk];exact Eh (by omega));go_wp2_with (refine VI rfl _ rfl g rfl _ HBG.out ?_);rw [ez];refine (Qcl wr X.sb f k (by omega)).mono ?_;rintro e w3 ⟨rfl,hf3⟩;obtain ⟨q,hqe⟩: ∃q,f (2+k)=q:=⟨_,rfl⟩;rw [hqe] at hq ⊢;have h3:=hst.frm hf3;have c0:=h3.stCells.1;have HRD:=hid (Qbh h3 q hq.1 hq.2);have hxl:=h3.ok.len q hq.1 hq.2;have HF3:=hid (HFR.out.trans hf3 fun _ _ x=>x);have HO3:=hid (OT HOW.out hf3);clear h3 hst HBG HFR HOW hf3;go_wp2_with fail;refine HRD.out.mono ?_;clear HRD c0;rintro e w4 ⟨v4,rfl,hf4,hb4⟩;obtain ⟨vb,vo,vcap,rfl,hcap,-,-⟩:=hb4.cells;rw [hxl] at hcap hb4 ⊢;have HF4:=hid (HF3.out.trans hf4 fun _ _ x=>x);have HO4:=hid (OT HO3.out hf4);obtain ⟨o,ho⟩: ∃o,(a+d)%512=o:=⟨_,rfl⟩;obtain ⟨T,hT⟩: ∃T,min 512 ((a+d)%512+(en-(a+d)))=T:=⟨_,rfl⟩;have ezo:((a:Int)+d)%512=((o:Nat):Int):=by omega
     go_upto_region 19 with (fail)
     have ho2:o<512:=by omega
     have ov:o<vcap:=by omega
     have eT:min (512:Int) ((o:Int)+(en:Int)-((a:Int)+(d:Int)))=(T:Int):=by omega
     rw [eT,ezo];obtain ⟨m,hm⟩: ∃m,T-o=m:=⟨_,rfl⟩;have hbl:(((X.v q).drop o).take m).length=m:=by rw [List.length_take,List.length_drop,hxl];omega
     have HNW:=hid (hb4.part o m);have HST:=hid (QaV (v:=X.v) (f:=f) (s:=s) (en:=en) (a:=a) (d:=d) (T:=T) (by rw [hk,hqe];exact hxl) hens hlt hT.symm);rw [hk,hqe,ho,hm,←HCT.out] at HST;have HM:=hid (And.intro ho (And.intro hT (And.intro hm (And.intro hlt hbl))));have t0:(o:Int)≤(T:Int):=by omega
     have t1:(T:Int)≤512:=by omega
     obtain ⟨i0,hi0,hz0,hz1,hz2⟩:=info_parts V7;have hbase:y1.heap.size≤w4.heap.size:=HF4.out.size;clear hb4 ho hT hbl hlt eT;go_wp2_with (at_builtin;refine wpList_append_lies _ rfl _ _ 76 rfl y1.heap.size 5 i0 (.int .u8 0) 1 1 underlying76 hi0 hz0 hz1 hz2 rfl (by decide) _ d _ rfl HO4.out _ _ _ ((((X.v q).drop o).take m).map B8) rfl ?a1 HNW.out ?a2 ?a3 ?a4 ?a5 hbase _ rfl ?_)
     case a1=>rw [List.length_map,HM.out.2.2.2.2,Nat.mul_one]
     case a2=>intro u hu;obtain ⟨x,_,rfl⟩:=List.mem_map.1 hu;rfl
     case a3=>have:=HM.out;omega
     case a4=>have:=HM.out;simp only [maxLen];omega
     case a5=>have:=HM.out;omega
     intro g5 cap5 w5 how hgr _ _;have HF5:=hid (Qet HF4.out HO4.out hgr);have how:w5.ownsRow y1.heap.size 5 1 (.slice (some ⟨g5,0,none⟩) (d+m) cap5) (d+m) ((cont.take d).map B8++(((X.v q).drop o).take m).map B8):=by simpa using how
     rw [←List.map_append,←HST.out] at how;have HO5:=hid how;have HR:=hid (show (a+(d+m)≤en∨d+m=0)∧en-(a+(d+m))<en-(a+d) by have:=HM.out;omega);have hTm:(T:Int)-(o:Int)=(m:Int):=by omega
     clear how hgr HF4 HO4;go_wp2;exact ⟨⟨d+m,_,HR.out.1,by go_num,rfl,HF5,HO5⟩,by have:=HR.out;simp [intOf];omega⟩
    ·have l1: ¬(a:Int)+(d:Int)<(en:Int):=by omega
     have hde:d=en-a:=by omega
     have hct:cont.take d=cont:=List.take_of_length_le (by rw [HCT.out,hde,List.length_take];omega);have hst:=H1.out.frm HFR.out;have hfin:(v= .slice none 0 0∧cont= []∧At w0 wr X rs)∨At w0 wr X (byt v cont::rs):=by
      have ho:=HOW.out;rw [hct] at ho;have hlen:cont.length=d:=by have:=ho.1;rw [List.length_map] at this;omega
      rcases ho.2 with ⟨q1,q2⟩ | ⟨g',cap',cur',q1,_⟩
      ·exact .inl ⟨q1,List.length_eq_zero_iff.1 (by omega),hst.drop 1⟩
      ·rw [←hlen] at ho;have hb:=JZ ho (by rw [q1];intro x;cases x);exact .inr ((hst.mkByt (Frm.refl _ _) hb).sub (List.Sublist.cons_cons _ (List.Sublist.cons _ (List.Sublist.refl _))))
     have HFIN:=hid hfin;clear hfin hst HOW HFR hct;go_wp2;go_ret2;exact ⟨v,rfl,HFIN.out⟩
  ·have een:s=en:=by have:=HEN.out;rw [if_neg (by omega)] at this;omega
   go_upto_region 9 with (fail)
   have HO:Hid (y1.ownsRow y1.heap.size 5 1 (.slice none 0 0) 0 ((cont.take 0).map B8)):=hid ⟨rfl,.inl ⟨rfl,rfl⟩⟩;have HF0:=hid (Frm.refl NoB y1);clear d1 c1;go_wp2_with fail;go_loopw [2,13,14,15,16,17,18] (fun t2 t13 _ _ _ _ _ wr=> ∃(d:Nat) (v:Value),(a+d≤en∨d=0)∧t2= .int .i64 ((a+d:Nat):Int)∧v=t13∧Hid (Frm NoB y1 wr)∧Hid (wr.ownsRow y1.heap.size 5 1 v d ((cont.take d).map B8))) (fun t2 _ _ _ _ _ _ _=>en-(intOf t2).toNat)
   case atStart=>exact ⟨0,_,.inr rfl,rfl,rfl,HF0,HO⟩
   case round=>
    clear HO HF0;obtain ⟨d,v,hd,rfl,rfl,HFR,HOW⟩:=hrel;have d0:(0:Int)≤(d:Int):=Qk _;by_cases hlt:a+d<en
    ·have l1:(a:Int)+(d:Int)<(en:Int):=by omega
     have hst:=H1.out.frm HFR.out;have HBG:=hid (show wr.heap[g]?=some (.cells (stC 13 (ndI f)) 270 (0,0)) from hst.1.get (i:=1) rfl);obtain ⟨k,hk⟩: ∃k,(a+d)/512=k:=⟨_,rfl⟩;have ez:((a:Int)+d)/512=((k:Nat):Int):=by omega
     have hq:=HBI.out k (by rw [←hk];exact Eh (by omega));go_wp2_with (refine VI rfl _ rfl g rfl _ HBG.out ?_);rw [ez];refine (Qcl wr X.sb f k (by omega)).mono ?_;rintro e w3 ⟨rfl,hf3⟩;obtain ⟨q,hqe⟩: ∃q,f (2+k)=q:=⟨_,rfl⟩;rw [hqe] at hq ⊢;have h3:=hst.frm hf3;have c0:=h3.stCells.1;have HRD:=hid (Qbh h3 q hq.1 hq.2);have hxl:=h3.ok.len q hq.1 hq.2;have HF3:=hid (HFR.out.trans hf3 fun _ _ x=>x);have HO3:=hid (OT HOW.out hf3);clear h3 hst HBG HFR HOW hf3;go_wp2_with fail;refine HRD.out.mono ?_;clear HRD c0;rintro e w4 ⟨v4,rfl,hf4,hb4⟩;obtain ⟨vb,vo,vcap,rfl,hcap,-,-⟩:=hb4.cells;rw [hxl] at hcap hb4 ⊢;have HF4:=hid (HF3.out.trans hf4 fun _ _ x=>x);have HO4:=hid (OT HO3.out hf4);obtain ⟨o,ho⟩: ∃o,(a+d)%512=o:=⟨_,rfl⟩;obtain ⟨T,hT⟩: ∃T,min 512 ((a+d)%512+(en-(a+d)))=T:=⟨_,rfl⟩;have ezo:((a:Int)+d)%512=((o:Nat):Int):=by omega
     go_upto_region 19 with (fail)
     have ho2:o<512:=by omega
     have ov:o<vcap:=by omega
     have eT:min (512:Int) ((o:Int)+(en:Int)-((a:Int)+(d:Int)))=(T:Int):=by omega
     rw [eT,ezo];obtain ⟨m,hm⟩: ∃m,T-o=m:=⟨_,rfl⟩;have hbl:(((X.v q).drop o).take m).length=m:=by rw [List.length_take,List.length_drop,hxl];omega
     have HNW:=hid (hb4.part o m);have HST:=hid (QaV (v:=X.v) (f:=f) (s:=s) (en:=en) (a:=a) (d:=d) (T:=T) (by rw [hk,hqe];exact hxl) hens hlt hT.symm);rw [hk,hqe,ho,hm,←HCT.out] at HST;have HM:=hid (And.intro ho (And.intro hT (And.intro hm (And.intro hlt hbl))));have t0:(o:Int)≤(T:Int):=by omega
     have t1:(T:Int)≤512:=by omega
     obtain ⟨i0,hi0,hz0,hz1,hz2⟩:=info_parts V7;have hbase:y1.heap.size≤w4.heap.size:=HF4.out.size;clear hb4 ho hT hbl hlt eT;go_wp2_with (at_builtin;refine wpList_append_lies _ rfl _ _ 76 rfl y1.heap.size 5 i0 (.int .u8 0) 1 1 underlying76 hi0 hz0 hz1 hz2 rfl (by decide) _ d _ rfl HO4.out _ _ _ ((((X.v q).drop o).take m).map B8) rfl ?a1 HNW.out ?a2 ?a3 ?a4 ?a5 hbase _ rfl ?_)
     case a1=>rw [List.length_map,HM.out.2.2.2.2,Nat.mul_one]
     case a2=>intro u hu;obtain ⟨x,_,rfl⟩:=List.mem_map.1 hu;rfl
     case a3=>have:=HM.out;omega
     case a4=>have:=HM.out;simp only [maxLen];omega
     case a5=>have:=HM.out;omega
     intro g5 cap5 w5 how hgr _ _;have HF5:=hid (Qet HF4.out HO4.out hgr);have how:w5.ownsRow y1.heap.size 5 1 (.slice (some ⟨g5,0,none⟩) (d+m) cap5) (d+m) ((cont.take d).map B8++(((X.v q).drop o).take m).map B8):=by simpa using how
     rw [←List.map_append,←HST.out] at how;have HO5:=hid how;have HR:=hid (show (a+(d+m)≤en∨d+m=0)∧en-(a+(d+m))<en-(a+d) by have:=HM.out;omega);have hTm:(T:Int)-(o:Int)=(m:Int):=by omega
     clear how hgr HF4 HO4;go_wp2;exact ⟨⟨d+m,_,HR.out.1,by go_num,rfl,HF5,HO5⟩,by have:=HR.out;simp [intOf];omega⟩
    ·have l1: ¬(a:Int)+(d:Int)<(en:Int):=by omega
     have hde:d=en-a:=by omega
     have hct:cont.take d=cont:=List.take_of_length_le (by rw [HCT.out,hde,List.length_take];omega);have hst:=H1.out.frm HFR.out;have hfin:(v= .slice none 0 0∧cont= []∧At w0 wr X rs)∨At w0 wr X (byt v cont::rs):=by
      have ho:=HOW.out;rw [hct] at ho;have hlen:cont.length=d:=by have:=ho.1;rw [List.length_map] at this;omega
      rcases ho.2 with ⟨q1,q2⟩ | ⟨g',cap',cur',q1,_⟩
      ·exact .inl ⟨q1,List.length_eq_zero_iff.1 (by omega),hst.drop 1⟩
      ·rw [←hlen] at ho;have hb:=JZ ho (by rw [q1];intro x;cases x);exact .inr ((hst.mkByt (Frm.refl _ _) hb).sub (List.Sublist.cons_cons _ (List.Sublist.cons _ (List.Sublist.refl _))))
     have HFIN:=hid hfin;clear hfin hst HOW HFR hct;go_wp2;go_ret2;exact ⟨v,rfl,HFIN.out⟩
 ·have een:s=en:=by have:=HEN.out;rw [if_neg (by omega)] at this;omega
  go_upto_region 9 with (fail)
  have HO:Hid (y1.ownsRow y1.heap.size 5 1 (.slice none 0 0) 0 ((cont.take 0).map B8)):=hid ⟨rfl,.inl ⟨rfl,rfl⟩⟩;have HF0:=hid (Frm.refl NoB y1);have CE:Hid (¬a<en):=hid (by omega);clear d1 c1;go_wp2_with fail;go_loopw [2,13,14,15,16,17,18] (fun t2 t13 _ _ _ _ _ wr=> ∃(d:Nat) (v:Value),(a+d≤en∨d=0)∧t2= .int .i64 ((a+d:Nat):Int)∧v=t13∧Hid (Frm NoB y1 wr)∧Hid (wr.ownsRow y1.heap.size 5 1 v d ((cont.take d).map B8))) (fun t2 _ _ _ _ _ _ _=>en-(intOf t2).toNat)
  case atStart=>exact ⟨0,_,.inr rfl,rfl,rfl,HF0,HO⟩
  case round=>
   clear HO HF0;obtain ⟨d,v,hd,rfl,rfl,HFR,HOW⟩:=hrel;have d0:(0:Int)≤(d:Int):=Qk _;by_cases hlt:a+d<en
   ·exact absurd hlt (by have:=CE.out;omega)
   ·have l1: ¬(a:Int)+(d:Int)<(en:Int):=by omega
    have hde:d=en-a:=by omega
    have hct:cont.take d=cont:=List.take_of_length_le (by rw [HCT.out,hde,List.length_take];omega);have hst:=H1.out.frm HFR.out;have hfin:(v= .slice none 0 0∧cont= []∧At w0 wr X rs)∨At w0 wr X (byt v cont::rs):=by
     have ho:=HOW.out;rw [hct] at ho;have hlen:cont.length=d:=by have:=ho.1;rw [List.length_map] at this;omega
     rcases ho.2 with ⟨q1,q2⟩ | ⟨g',cap',cur',q1,_⟩
     ·exact .inl ⟨q1,List.length_eq_zero_iff.1 (by omega),hst.drop 1⟩
     ·rw [←hlen] at ho;have hb:=JZ ho (by rw [q1];intro x;cases x);exact .inr ((hst.mkByt (Frm.refl _ _) hb).sub (List.Sublist.cons_cons _ (List.Sublist.cons _ (List.Sublist.refl _))))
    have HFIN:=hid hfin;clear hfin hst HOW HFR hct;go_wp2;go_ret2;exact ⟨v,rfl,HFIN.out⟩
def Yd (kind:Nat):Nat→Nat:=fun j=>if j=0 then kind else 0
def Sys.made (X:Sys) (i kind:Nat):Sys:=(X.put X.P.im (Qw (X.v X.P.im) i true)).saved i (Yd kind)
theorem J5.made {X:Sys} (ho:J5 X) (hX:Jl X) {i kind:Nat} (hz:Jn (X.v X.P.im) X.P.ni=some i) (hk:kind<4294967296):
 let W:=X.made i kind
 J5 W∧(∀j,W.live j↔X.live j∨j=i)∧¬X.live i∧(∀j,X.live j→W.bytes j=X.bytes j∧∀m,m<13→W.nd j m=X.nd j m)∧W.nd i 0=kind∧W.nd i 1=0∧W.fb=X.fb∧Wr X W fun t=>t=X.P.im∨t=X.P.tb+i/8:=by
 intro W;have h1:=hX.pl.im;have h2:=hX.pl.bm;have h3:=hX.pl.tb;have h4:=hX.pl.da;obtain ⟨hi,hb⟩:=Jf hz;have hm:=hX.maps;have hml:(X.v X.P.im).length=512:=hX.len _ hm.1 hm.2.1;have hni:=hX.pl.ni.2;have hPW:W.P=X.P:=rfl;have hWv: ∀t,W.v t=if t=X.P.tb+i/8 then Yl (X.v (X.P.tb+i/8)) (i%8*64) (Yd kind) 13 else if t=X.P.im then Qw (X.v X.P.im) i true else X.v t:=fun t=>by
  have e0:(X.put X.P.im (Qw (X.v X.P.im) i true)).v (X.P.tb+i/8)=X.v (X.P.tb+i/8):=by rw [Sys.put_v,if_neg (by omega)]
  show (Sys.put (X.put X.P.im (Qw (X.v X.P.im) i true)) (X.P.tb+i/8) (Yl ((X.put X.P.im (Qw (X.v X.P.im) i true)).v (X.P.tb+i/8)) _ _ _)).v t=_;rw [e0,Sys.put_v,Sys.put_v]
 have hWim:W.v X.P.im=Qw (X.v X.P.im) i true:=by rw [hWv,if_neg (by omega),if_pos rfl]
 have hWbm:W.v X.P.bm=X.v X.P.bm:=by rw [hWv,if_neg (by omega),if_neg (by omega)]
 have hWd: ∀t,X.P.da≤t→W.v t=X.v t:=fun t h=>by rw [hWv,if_neg (by omega),if_neg (by omega)]
 have hnl: ¬X.live i:=fun h=>by rw [h.2] at hb;cases hb
 have hlive: ∀j,W.live j↔X.live j∨j=i:=fun j=>by
  unfold Sys.live;rw [hPW,hWim,JD _ _ _ (by rw [hml];omega)];by_cases e:j=i
  ·rw [if_pos e,e];exact ⟨fun _=> .inr rfl,fun _=>⟨hi,rfl⟩⟩
  ·rw [if_neg e];exact ⟨fun h=> .inl h,fun h=>h.elim id fun x=>absurd x e⟩
 have ht:=hX.tab hi;have hlen:(X.v (X.P.tb+i/8)).length=512:=hX.len _ ht.1 ht.2.2;have hWi: ∀m,m<13→W.nd i m=Yd kind m:=fun m hm=>by
  unfold Sys.nd YA;rw [hPW,hWv,if_pos rfl];exact Vw _ _ _ 13 (by rw [hlen];omega) (fun j _=>by unfold Yd;split<;>omega) m hm
 have hWj: ∀j,X.live j→∀m,m<13→W.nd j m=X.nd j m:=fun j hj m hm=>by
  have hne:j≠i:=fun e=>hnl (e▸hj)
  have hj1:=hj.1;unfold Sys.nd YA;rw [hPW,hWv];by_cases e:j/8=i/8
  ·rw [if_pos (by rw [e]),VT _ _ _ _ _ 13 (by rw [hlen];omega) (by omega),←e]
  ·rw [if_neg (by omega),if_neg (by omega)]
 have e1:W.nd i 1=0:=hWi 1 (by omega);have hd0:dat 0=0:=rfl;have orig: ∀j k,W.live j→k<dat (W.nd j 1)→X.live j∧k<dat (X.nd j 1)∧W.nd j (2+k)=X.nd j (2+k):=fun j k hj hk=>by
  rcases (hlive j).1 hj with h | h
  ·rw [hWj j h 1 (by omega)] at hk;have:=Yq (ho.size j h);exact ⟨h,hk,hWj j h (2+k) (by omega)⟩
  ·rw [h,e1,hd0] at hk;omega
 refine ⟨⟨fun j hj=>?_,fun j k hj hk=>?_,fun j j' k m hj hj' hk hm e=>?_⟩,hlive,hnl,fun j hj=>⟨Y3 (hWj j hj) (ho.size j hj) fun k hk=>?_,hWj j hj⟩,hWi 0 (by omega),e1,?_,?_⟩
 ·rcases (hlive j).1 hj with h | h
  ·rw [hWj j h 1 (by omega)];exact ho.size j h
  ·rw [h,e1];omega
 ·obtain ⟨q1,q2,q3⟩:=orig j k hj hk;rw [q3,hPW,hWbm];exact ho.blk j k q1 q2
 ·obtain ⟨q1,q2,q3⟩:=orig j k hj hk;obtain ⟨r1,r2,r3⟩:=orig j' m hj' hm;rw [q3,r3] at e;exact ho.inj j j' k m q1 r1 q2 r2 e
 ·obtain ⟨b,_,q,_⟩:=ho.blk j k hj hk;exact hWd _ (by omega)
 ·unfold Sys.fb;rw [hPW,hWbm]
 ·exact ((Wr.put X _ _).mono fun t e=> .inl e).trans ((Wr.put _ _ _).mono fun t e=> .inr e)
theorem QjN (h:At w0 w X rs) (hop:X.op=true) (kind:Nat) (hk:kind=1∨kind=2) {i:Nat} (hz:Jn (X.v X.P.im) X.P.ni=some i) {C:List Nat} (hC:Cov X C) (him:X.P.im∈C) (htb:X.P.tb+i/8∈C) (h60:C.length≤60):
 Calls prog 119 #[.pointer (some ⟨X.sb,0,none⟩),.int .i64 kind] w fun e w'=>e= .returned (.tuple #[.int .i64 i,.int .i64 0])∧At w0 w' (X.made i kind) rs:=by
 have HR:=hid (OS h);rw [hop] at HR;have HT:=hid (Qcu h hop hz (hC.room h.ok him h60));have c1:=h.stCells.2.1;have HSV:Hid (∀y,At w0 y (X.put X.P.im (Qw (X.v X.P.im) i true)) rs→Calls prog 184 #[.pointer (some ⟨X.sb,0,none⟩),.int .i64 i,.agg (stC 13 (ndI (Yd kind)))] y fun e w'=>e= .returned (.int .i64 0)∧At w0 w' (X.made i kind) rs):=hid fun y hy=>
  Qbc hy hop i (Jf hz).1 (Yd kind) (fun j _=>by unfold Yd;split<;>omega) ((hC.wr (Wr.put X _ _) (fun t e=>e▸him)).room hy.ok htb h60)
 clear h hop hz hC him htb h60;rcases hk with rfl | rfl
 ·have eA:(Value.agg (stC 13 (ndI (Yd 1))))= .agg #[.int .i64 1,.int .i64 0,.int .i64 0,.int .i64 0,.int .i64 0,.int .i64 0,.int .i64 0,.int .i64 0,.int .i64 0,.int .i64 0,.int .i64 0,.int .i64 0,.int .i64 0]:=rfl;rw [eA] at HSV;clear eA;go_enter func119,ntmps119;go_wp2_with fail;refine HR.out.mono ?_;rintro e w2 ⟨rfl,rfl⟩;go_wp2_with fail;refine HT.out.mono ?_;rintro e w2 ⟨rfl,h2⟩;have H2:=hid h2;clear h2 HT c1 HR;go_wp2_with fail;refine (HSV.out _ H2.out).mono ?_;rintro e w3 ⟨rfl,h3⟩;have H3:=hid h3;clear h3 H2;go_wp2;go_ret2;exact ⟨rfl,H3.out⟩
 ·have eA:(Value.agg (stC 13 (ndI (Yd 2))))= .agg #[.int .i64 2,.int .i64 0,.int .i64 0,.int .i64 0,.int .i64 0,.int .i64 0,.int .i64 0,.int .i64 0,.int .i64 0,.int .i64 0,.int .i64 0,.int .i64 0,.int .i64 0]:=rfl;rw [eA] at HSV;clear eA;go_enter func119,ntmps119;go_wp2_with fail;refine HR.out.mono ?_;rintro e w2 ⟨rfl,rfl⟩;go_wp2_with fail;refine HT.out.mono ?_;rintro e w2 ⟨rfl,h2⟩;have H2:=hid h2;clear h2 HT c1 HR;go_wp2_with fail;refine (HSV.out _ H2.out).mono ?_;rintro e w3 ⟨rfl,h3⟩;have H3:=hid h3;clear h3 H2;go_wp2;go_ret2;exact ⟨rfl,H3.out⟩
structure UH (X Y:Sys) (f f':Nat→Nat) (a k:Nat):Prop where
 ak:a≤k
 wr:Wr X Y (· =X.P.bm)
 same: ∀j,(j<2+a∨2+k≤j)→f' j=f j
 zero: ∀j,a≤j→j<k→f' (2+j)=0
 bits: ∀b,Qt (Y.v X.P.bm) b=true↔(Qt (X.v X.P.bm) b=true∧∀j,a≤j→j<k→f (2+j)≠X.P.da+b)
 free:Y.fb=X.fb+(k-a)
theorem UH.refl (X:Sys) (f:Nat→Nat) (a:Nat):UH X X f f a a:=
 ⟨Nat.le_refl _,Wr.refl _ _,fun _ _=>rfl,fun j h1 h2=>by omega,fun b=>⟨fun h=>⟨h,fun j h1 h2=>by omega⟩,fun h=>h.1⟩,by omega⟩
theorem UH.step {X Y:Sys} {f f':Nat→Nat} {a k b:Nat} (h:UH X Y f f' a k) (hY:Jl Y) (hb:b<X.P.dc) (hf:f (2+k)=X.P.da+b) (hset:Qt (Y.v X.P.bm) b=true):
 UH X (Y.put Y.P.bm (Qw (Y.v Y.P.bm) b false)) f (JB f' (2+k) 0) a (k+1):=by
 have hP:Y.P=X.P:=h.wr.P;have hm:=hY.maps;have hl:(Y.v Y.P.bm).length=512:=hY.len _ hm.2.2.1 hm.2.2.2.1;have hdc:Y.P.dc≤4096:=hY.pl.dc.2;rw [hP] at hl hdc ⊢;have hv:(Y.put X.P.bm (Qw (Y.v X.P.bm) b false)).v X.P.bm=Qw (Y.v X.P.bm) b false:=by rw [Sys.put_v,if_pos rfl]
 have hbit: ∀j,Qt ((Y.put X.P.bm (Qw (Y.v X.P.bm) b false)).v X.P.bm) j=if j=b then false else Qt (Y.v X.P.bm) j:=fun j=>by
  rw [hv];exact JD _ _ _ (by rw [hl];omega) j
 refine ⟨by have:=h.ak;omega,h.wr.trans (Wr.put Y _ _),fun j hj=>?_,fun j h1 h2=>?_,fun c=>?_,?_⟩
 ·have e:JB f' (2+k) 0 j=f' j:=if_neg (by have:=h.ak;omega);rw [e];exact h.same j (by omega)
 ·by_cases e:j=k
  ·subst e;exact if_pos rfl
  ·have e2:JB f' (2+k) 0 (2+j)=f' (2+j):=if_neg (by omega);rw [e2];exact h.zero j h1 (by omega)
 ·rw [hbit];by_cases e:c=b
  ·rw [if_pos e];exact ⟨fun x=>Bool.noConfusion x,fun x=>absurd (hf.trans (by rw [e])) (x.2 k h.ak (by omega))⟩
  ·rw [if_neg e,h.bits c];refine ⟨fun x=>⟨x.1,fun j h1 h2=>?_⟩,fun x=>⟨x.1,fun j h1 h2=>x.2 j h1 (by omega)⟩⟩;by_cases e2:j=k
   ·rw [e2,hf];omega
   ·exact x.2 j h1 (by omega)
 ·have hf1:=h.free;have e1:(Y.put X.P.bm (Qw (Y.v X.P.bm) b false)).P=X.P:=hP;unfold Sys.fb at hf1 ⊢;rw [e1,hv];rw [hP] at hf1;have h2:=QbB (b:=Y.v X.P.bm) hb (by rw [hl];omega) hset;have h3:=Eu (Y.v X.P.bm) X.P.dc;have:=h.ak;omega
theorem Qf0 {g:Nat} {f:Nat→Nat} (h:At w0 w X (arr g (stC 13 (ndI f)) 270 Jg::rs)) (hop:X.op=true) (s S:Nat) (hs:f 1=s) (h1:S≤s) (h2:s≤5120) (hblk: ∀k,k<dat s→∃b,b<X.P.dc∧f (2+k)=X.P.da+b∧Qt (X.v X.P.bm) b=true) (hinj: ∀k j,k<dat s→j<dat s→f (2+k)=f (2+j)→k=j) {C:List Nat} (hC:Cov X C) (hbm:X.P.bm∈C) (h60:C.length≤60):
 Calls prog 222 #[.pointer (some ⟨X.sb,0,none⟩),.pointer (some ⟨g,0,none⟩),.int .i64 S] w fun e w'=>e= .returned (.int .i64 0)∧∃Y f',At w0 w' Y (arr g (stC 13 (ndI f')) 270 Jg::rs)∧UH X Y f f' (dat S) (dat s):=by
 have HD1:Hid (∀y,Calls prog 278 #[.int .i64 s] y fun e w'=>y=w'∧e= .returned (.int .i64 (dat s:Nat))):=hid fun y=>WL y s (by omega)
 have HD2:Hid (∀y,Calls prog 278 #[.int .i64 S] y fun e w'=>y=w'∧e= .returned (.int .i64 (dat S:Nat))):=hid fun y=>WL y S (by omega)
 have hds:dat S≤dat s:=by unfold dat;omega
 have hdS:dat s≤10:=Yq h2;have HX:=hid h;have HOP:=hid hop;have HB:=hid hblk;have HINJ:=hid hinj;have HC:=hid (And.intro hC (And.intro hbm h60));have HSZ:=hid hs;obtain ⟨a,ha⟩: ∃a,dat S=a:=⟨_,rfl⟩;obtain ⟨b,hb⟩: ∃b,dat s=b:=⟨_,rfl⟩;have HAB:=hid (And.intro ha hb);rw [ha] at hds HD2 ⊢;rw [hb] at hds HD1 hdS ⊢;have a0:(0:Int)≤(a:Int):=Qk _;have b0:(0:Int)≤(b:Int):=Qk _;have b1:(b:Int)≤10:=by omega
 have a1:(a:Int)≤(b:Int):=by omega
 clear h hop hblk hinj hC hbm h60 hs h1 h2 ha hb hdS;go_enter func222,ntmps222;go_wp2_with fail;refine (HD2.out _).mono ?_;rintro e w2 ⟨rfl,rfl⟩;go_wp2_with fail;go_loopw [7,8,9] (fun t _ _ wr=> ∃(k:Nat) (Y:Sys) (f':Nat→Nat),a≤k∧k≤b∧t= .int .i64 k∧Hid (At w0 wr Y (arr g (stC 13 (ndI f')) 270 Jg::rs))∧Hid (UH X Y f f' a k)) (fun t _ _ _=>b-(intOf t).toNat)
 case atStart=>exact ⟨a,X,f,Nat.le_refl _,hds,rfl,HX,hid (UH.refl X f a)⟩
 case round=>
  clear HX;obtain ⟨k,Y,f',hk1,hk2,rfl,HST,HG⟩:=hrel;have k0:(0:Int)≤(k:Int):=Qk _;have d1:wr.cell? ⟨g,1,none⟩=some (.int .i64 s):=(HST.out.arrCell (i:=0) rfl 1).trans ((QP _ _ _ (by omega)).trans (by unfold ndI;rw [HG.out.same 1 (.inl (by omega)),HSZ.out]));by_cases hlt:k<b
  ·have l1:(k:Int)<(b:Int):=by omega
   have l2:(k:Int)<10:=by omega
   have l3:(k:Int)<11:=by omega
   have hBG:=HST.out.1.get (i:=1) rfl;have HBG:=hid (show wr.heap[g]?=some (.cells (stC 13 (ndI f')) 270 (0,0)) from hBG);clear hBG;obtain ⟨q,hq1,hq2,hq3⟩:=HB.out k (by rw [HAB.out.2];exact hlt);have hfk:f' (2+k)=X.P.da+q:=(HG.out.same _ (.inr (Nat.le_refl _))).trans hq2;have hset:Qt (Y.v X.P.bm) q=true:=(HG.out.bits q).2 ⟨hq3,fun j j1 j2 e=>by
    have:=HINJ.out j k (by rw [HAB.out.2];omega) (by rw [HAB.out.2];exact hlt) (by rw [e,hq2]);omega⟩
   have eP:=HG.out.wr.P;have HST':=hid (HG.out.step HST.out.ok hq1 hq2 hset);have HLT:=hid (And.intro hlt hk1);have HGB:Hid (∀y,At w0 y Y (arr g (stC 13 (ndI f')) 270 Jg::rs)→Calls prog 279 #[.pointer (some ⟨X.ab,0,none⟩),.int .i64 (X.P.da+q:Nat)] y fun e w'=>e= .returned (.int .i64 0)∧At w0 w' (Y.put Y.P.bm (Qw (Y.v Y.P.bm) q false)) (arr g (stC 13 (ndI f')) 270 Jg::rs)):=hid fun y hy=>by
    have:=QbP hy (by rw [HG.out.wr.op];exact HOP.out) q (by rw [eP];exact hq1) (by rw [eP];exact hset) ((HC.out.1.wr HG.out.wr (fun t e=>e▸HC.out.2.1)).room hy.ok (by rw [eP];exact HC.out.2.1) HC.out.2.2);rw [HG.out.wr.ab,eP] at this;rw [eP];exact this
   have HBK:=hid (QeI HST.out f' k (by omega));rw [HG.out.wr.sb,hfk] at HBK;have HE:Hid (Y.sb=X.sb∧Y.ab=X.ab):=hid ⟨HG.out.wr.sb,HG.out.wr.ab⟩;clear hfk hset eP hq1 hq2 hq3 HST HG hlt;generalize X.P.da+q=qq at*
   generalize hV:Y.put Y.P.bm (Qw (Y.v Y.P.bm) q false)=V at*
   have HV:=hid hV;clear hV;go_wp2_with (refine VI rfl _ rfl g rfl _ HBG.out ?_);refine (HD1.out _).mono ?_;rintro e w2 ⟨rfl,rfl⟩;go_wp2_with (refine VI rfl _ rfl g rfl _ HBG.out ?_);refine HBK.out.mono ?_;clear HBK HBG d1;rintro e w3 ⟨rfl,h3⟩;have c1:=h3.stCells.2.1;rw [HE.out.1,HE.out.2] at c1;have HGB3:=hid (HGB.out _ h3);clear h3 HGB;go_wp2_with fail;refine HGB3.out.mono ?_;clear HGB3 c1;rintro e w4 ⟨rfl,h4⟩;have d0: ∃u,w4.cell? ⟨g,2+k,none⟩=some u:=⟨_,(h4.arrCell (i:=0) rfl (2+k)).trans (QP _ _ _ (by omega))⟩;obtain ⟨u0,d0⟩:=d0;have f0:w4.frozen? ⟨g,2+k,none⟩=false:=h4.arrFree (i:=0) rfl (2+k);have h5:=h4.setArr 0 rfl (2+k) (.int .i64 ((0:Nat):Int));rw [Y7 _ _ _ _ (by omega),Et] at h5;have H5:Hid (At w0 (w4.setCell ⟨g,2+k,none⟩ (.int .i64 0)) V (arr g (stC 13 (ndI (JB f' (2+k) 0))) 270 Jg::rs)):=hid h5;have HR:=hid (show a≤k+1∧k+1≤b from ⟨by have:=HLT.out;omega,HLT.out.1⟩);clear h4 h5;go_wp2
   first | exact ⟨⟨k+1,V,_,HR.out.1,HR.out.2,by go_num,H5,HST'⟩,by have:=HLT.out;simp [intOf];omega⟩ | (go_roundw;case rel=>first | exact ⟨k+1,V,_,HR.out.1,HR.out.2,by go_num,H5,HST'⟩ | ((repeat apply Exists.intro);exact ⟨⟨k+1,V,_,HR.out.1,HR.out.2,by go_num,H5,HST'⟩,rfl⟩);case measure=>have:=HLT.out;simp [intOf];omega)
  ·have l1: ¬(k:Int)<(b:Int):=by omega
   obtain rfl:k=b:=by omega
   have l4: ¬(k:Int)>10:=by omega
   go_wp2_with fail;refine (HD1.out _).mono ?_;rintro e w2 ⟨rfl,rfl⟩;go_wp2_with fail;refine (HD2.out _).mono ?_;rintro e w2 ⟨rfl,rfl⟩;go_wp2_with fail;refine (HD1.out _).mono ?_;rintro e w2 ⟨rfl,rfl⟩;go_wp2;go_ret;exact ⟨rfl,Y,f',HST.out,HG.out⟩
def Sys.off (Y:Sys) (i:Nat):Sys:=Y.put Y.P.im (Qw (Y.v Y.P.im) i false)
theorem J5.dropped {X Y:Sys} (ho:J5 X) (hX:Jl X) {i:Nat} {f':Nat→Nat} (hi:X.live i) (hg:UH X Y (X.nd i) f' 0 (dat (X.nd i 1))):
 let W:=Y.off i
 J5 W∧(∀j,W.live j↔X.live j∧j≠i)∧(∀j,X.live j→j≠i→W.bytes j=X.bytes j∧∀m,m<13→W.nd j m=X.nd j m)∧W.fb=X.fb+dat (X.nd i 1)∧Wr X W fun t=>t=X.P.bm∨t=X.P.im:=by
 intro W;have h1:=hX.pl.im;have h2:=hX.pl.bm;have h3:=hX.pl.tb;have h4:=hX.pl.da;have hm:=hX.maps;have hml:(X.v X.P.im).length=512:=hX.len _ hm.1 hm.2.1;have hni:=hX.pl.ni.2;have hi1:=hi.1;have hP:Y.P=X.P:=hg.wr.P;have hPW:W.P=X.P:=hP;have hYv: ∀t,t≠X.P.bm→Y.v t=X.v t:=fun t h=>hg.wr.v t h
 have hYim:Y.v X.P.im=X.v X.P.im:=hYv _ (by omega);have hWv: ∀t,W.v t=if t=X.P.im then Qw (X.v X.P.im) i false else Y.v t:=fun t=>by
  show (Sys.put Y Y.P.im (Qw (Y.v Y.P.im) i false)).v t=_;rw [Sys.put_v,hP,hYim]
 have hWo: ∀t,t≠X.P.im→t≠X.P.bm→W.v t=X.v t:=fun t q1 q2=>by rw [hWv,if_neg q1,hYv t q2]
 have hWim:W.v X.P.im=Qw (X.v X.P.im) i false:=by rw [hWv,if_pos rfl]
 have hWbm:W.v X.P.bm=Y.v X.P.bm:=by rw [hWv,if_neg (by omega)]
 have hlive: ∀j,W.live j↔X.live j∧j≠i:=fun j=>by
  unfold Sys.live;rw [hPW,hWim,JD _ _ _ (by rw [hml];omega)];by_cases e:j=i
  ·rw [if_pos e];exact ⟨fun h=>Bool.noConfusion h.2,fun h=>absurd e h.2⟩
  ·rw [if_neg e];exact ⟨fun h=>⟨h,e⟩,fun h=>h.1⟩
 have hnd: ∀j,X.live j→W.nd j=X.nd j:=fun j hj=>by
  have hj1:=hj.1;unfold Sys.nd;rw [hPW,hWo _ (by omega) (by omega)]
 refine ⟨⟨fun j hj=>?_,fun j k hj hk=>?_,fun j j' k m hj hj' hk hm e=>?_⟩,hlive,fun j hj hne=>⟨Y3 (fun m _=>by rw [hnd j hj]) (ho.size j hj) fun k hk=>?_,fun m _=>by rw [hnd j hj]⟩,?_,?_⟩
 ·have hj:=((hlive j).1 hj).1;rw [hnd j hj];exact ho.size j hj
 ·obtain ⟨hj,hne⟩:=(hlive j).1 hj;rw [hnd j hj] at hk ⊢;obtain ⟨b,q1,q2,q3⟩:=ho.blk j k hj hk;refine ⟨b,by rw [hPW];exact q1,by rw [hPW];exact q2,?_⟩;rw [hPW,hWbm];refine (hg.bits b).2 ⟨q3,fun m m1 m2 e=>hne (ho.inj j i k m hj hi hk m2 (by rw [q2,e])).1⟩
 ·have hj:=((hlive j).1 hj).1;have hj':=((hlive j').1 hj').1;rw [hnd j hj] at hk e;rw [hnd j' hj'] at hm e;exact ho.inj j j' k m hj hj' hk hm e
 ·obtain ⟨b,_,q,_⟩:=ho.blk j k hj hk;exact hWo _ (by omega) (by omega)
 ·have:=hg.free;have e:W.fb=Y.fb:=by unfold Sys.fb;rw [hPW,hP,hWbm]
  omega
 ·exact (hg.wr.mono fun t e=> .inl e).trans ((Wr.put Y _ _).mono fun t e=> .inr (by rw [e,hP]))
theorem Qj6 (h:At w0 w X rs) (hop:X.op=true) (ho:J5 X) (i:Nat) (hi:X.live i) (hi0:0<i) {C:List Nat} (hC:Cov X C) (hbm:X.P.bm∈C) (him:X.P.im∈C) (h60:C.length≤60):
 Calls prog 132 #[.pointer (some ⟨X.sb,0,none⟩),.int .i64 i] w fun e w'=>e= .returned (.int .i64 0)∧∃W,At w0 w' W rs∧J5 W∧(∀j,W.live j↔X.live j∧j≠i)∧(∀j,X.live j→j≠i→W.bytes j=X.bytes j∧∀m,m<13→W.nd j m=X.nd j m)∧W.fb=X.fb+dat (X.nd i 1)∧Wr X W fun t=>t=X.P.bm∨t=X.P.im:=by
 obtain ⟨f,hf⟩: ∃f,X.nd i=f:=⟨_,rfl⟩;have HCH:=hid (U8 h hop i hi.1 hi.2);have HO:=hid ho;have HS:=hid h.ok;have HI:=hid (And.intro hi hi0);have HOP:=hid hop;have HC:=hid (And.intro hC (And.intro hbm (And.intro him h60)));have HF:=hid hf;have i0: ¬(i:Int)=0:=by omega
 rw [hf] at HCH;clear h hop ho hi hi0 hC hbm him h60 hf;go_enter func132,ntmps132;go_wp2_with fail;refine HCH.out.mono ?_;clear HCH;rintro e w2 ⟨rfl,h2⟩;have HA:=hid (h2.newArr (stC 13 fun _=>0) 270 Jg);have HB0:=hid (show (w2.alloc (.cells (stC 13 fun _=>0) 270 (0,0))).heap[w2.heap.size]?=some (.cells (stC 13 fun _=>0) 270 (0,0)) from HA.out.1.get (i:=1) rfl);have HA2:=hid (HA.out.setRow 0 (c':=stC 13 (ndI f)) rfl);clear h2;go_upto_region 2 with (first | (refine Qg rfl _ _ Ej rfl ?_) | (refine K8 rfl _ _ rfl w2.heap.size _ rfl rfl _ (YS _ _) HB0.out ?_))
 obtain ⟨y1,hy1,h1⟩:=HA2.out.name;rw [hy1];have H1:Hid (At w0 y1 X (arr w2.heap.size (stC 13 (ndI f)) 270 Jg::rs)):=hid h1;clear hy1 HA HA2 HB0 h1;generalize w2.heap.size=g at*
 have HG:=hid (Qf0 H1.out HOP.out (f 1) 0 rfl (Nat.zero_le _) (by rw [←HF.out];exact HO.out.size i HI.out.1) (fun k hk=>by rw [←HF.out] at hk ⊢;exact HO.out.blk i k HI.out.1 hk) (fun k j hk hj e=>by rw [←HF.out] at hk hj e;exact (HO.out.inj i i k j HI.out.1 HI.out.1 hk hj e).2) HC.out.1 HC.out.2.1 HC.out.2.2.2);rw [show ((0:Nat):Int)=0 from rfl] at HG;clear H1;go_wp2_with fail;refine HG.out.mono ?_;clear HG;rintro e w3 ⟨rfl,Y,f',h3,hg⟩;have hg':UH X Y (X.nd i) f' 0 (dat (X.nd i 1)):=by rw [HF.out];exact hg
 have hD:=HO.out.dropped HS.out HI.out.1 hg';have eP:=hg.wr.P;have c1:=h3.stCells.2.1;rw [hg.wr.sb,hg.wr.ab] at c1;have hYim:Y.v X.P.im=X.v X.P.im:=hg.wr.v _ (by have:=HS.out.pl.im;have:=HS.out.pl.bm;omega);have HGI:=hid (Qcn h3 (by rw [hg.wr.op];exact HOP.out) i HI.out.2 (by rw [eP];exact HI.out.1.1) (by rw [eP,hYim];exact HI.out.1.2) ((HC.out.1.wr hg.wr (fun t e=>e▸HC.out.2.1)).room h3.ok (by rw [eP];exact HC.out.2.2.1) HC.out.2.2.2));rw [hg.wr.ab] at HGI;have HD:=hid hD;clear h3 hg hg' hD eP hYim;go_wp2_with fail;refine HGI.out.mono ?_;clear HGI c1;rintro e w4 ⟨rfl,h4⟩;have H4:Hid (At w0 w4 (Y.off i) rs):=hid (h4.drop 1);clear h4;go_wp2;go_ret;exact ⟨rfl,Y.off i,H4.out,HD.out.1,HD.out.2.1,HD.out.2.2.1,HD.out.2.2.2.1,HD.out.2.2.2.2⟩
theorem J9: ¬U8T (82:TypeId):=by decide
theorem JL (W:World):(zeroValue 82).run prog W= .ok (.agg #[.int .i64 0,.int .i64 0]) W:=by kernel_rfl
theorem Vd (a b:Value):(prog.info? 82).map (·.size)=some (#[a,b]:Array Value).size:=by kernel_rfl
end
end Go.Proofs.YtlemndledcmhiaaGreatDoor
