/-
  The catalog, from the device up, part 3.
-/
import Derived.Test.YtlemndledcmhiaaGreatDoorV2
import Derived.Deep.RegionLaw
import Derived.Great.Walk
import Derived.Deep.MidRow
namespace Go.Proofs.YtlemndledcmhiaaGreatDoor
set_option linter.unusedVariables false
set_option linter.unusedSimpArgs false
set_option maxHeartbeats 8000000
set_option maxRecDepth 100000
open Tryz
open Lib (hid)
open Go.ChangeMaps Go.MapKept Go.RowKit
theorem Qi2 {w0:Gnd} {w:World} {rs:List Res} (h:St w0 w rs) (a ij iv io iq:Nat) {H:Hdl} {D:DSt} {jb mb last g:Nat} {ov:Value} {om:List Nat} {dm:List Blk} {c:Array Value} {t1: ¬U8T (219:TypeId)}
 (hr:rs[a]?=some (dev H D)) (hj:rs[ij]?=some (arr jb c 219 t1)) (hov:rs[io]?=some (J4 ov om)) (hmb:rs[iq]?=some (chg mb (last%4) dm)) (hc0:c[0]?=some (.pointer (some ⟨H.b,0,none⟩))) (hc1:c[1]?=some (.int .u64 g)) (hc2:c[2]?=some (.int .u64 last)) (hc4:c[4]?=some ov) (hc5:c[5]?=some (.map (some mb)))
 {v:Value} {ks:List Nat} {vs:List Value} {ds:List Blk} (hl:rs[iv]?=some (VL v (ks.map fun k:Nat=>(k:Int)) vs ds)) (hmay:W5 D.n ks ds) (hd512: ∀d∈ds,d.length=512)
 (hlen:dm.length=om.length) (ho60:om.length≤60) (hho: ∀k∈om,k<D.n) (hb512: ∀b∈dm,b.length=512) (hla:last+1<18446744073709551616) (hg:g<18446744073709551616) (hD:246≤D.n) (hn:D.n≤65536) (ho:D.ops<1000000000)
 (q1:ij≠a) (q2:io≠a) (q3:iq≠a) (q4:iv≠a):
 Calls prog 302 #[.pointer (some ⟨jb,0,none⟩),v] w (U5 w0 rs a H (Qz g last om dm ks ds) D):=by
 obtain ⟨va,vc,rfl⟩:=h.chgsLen hl;rw [List.length_map] at hl ⊢;have hkl:((ks.length:Nat):Int)≤60:=by have:=hmay.few;omega
 have hkl0:(0:Int)≤((ks.length:Nat):Int):=Qk _;obtain ⟨n,hnn⟩: ∃n,last+1=n:=⟨_,rfl⟩;have hla0:(0:Int)≤(last:Int):=Qk _;have hwn:IntKind.u64.wrap ((last:Int)+1)=(n:Int):=by rw [u64_in (by omega) (by omega)];omega
 have H1:=hid (h.newArr #[.pointer (some ⟨jb,0,none⟩)] 130 Kd);have c2:w.cell? ⟨jb,2,none⟩=some (.int .u64 last):=(h.arrCell hj 2).trans hc2;have hjl:jb<w.heap.size:=lt_of_block (h.get hj);have hwk:IntKind.u64.wrap ((ks.length:Nat):Int)=((ks.length:Nat):Int):=u64_in (by omega) (by omega);have H2:=hid (H1.out.newArr #[.int .u64 n] 101 JC);have HLD:Hid (∀W nb,(W.heap[nb]?=some (.cells #[.int .u64 g,.int .u64 n,.int .u64 (ks.length:Nat)] 101 (0,0))∧∀x,w0.Z x→x<W.heap.size)→Calls prog 245 #[.string { data:= #[66,79,76,76,65,82,68,72] },.slice (some ⟨nb,0,none⟩) 3 3] W fun e w'=> ∃vb vo vc,e= .returned (.slice (some ⟨vb,vo,none⟩) 512 vc)∧Frm NoB W w'∧Qc w' (.slice (some ⟨vb,vo,none⟩) 512 vc) (laidB QU [g,n,ks.length]) Ku):=
  hid fun W nb hb=>(QeX W nb g n _ hb.1 hg (by omega) (by have:=hmay.few;omega)).mono fun _ _ ⟨vb,vo,vc,a,b,c⟩=>⟨vb,vo,vc,a,b,c.any⟩
 have HR:=hid hr;have HJ:=hid hj;have HOV:=hid hov;have HMB:=hid hmb;have HC:=hid (And.intro hc0 (And.intro hc1 (And.intro hc2 (And.intro hc4 hc5))));have HL:=hid hl;have HMAY:=hid hmay;have H512:=hid hd512;have HLEN:=hid hlen;have HO60:=hid ho60;have HHO:=hid hho;have HB512:=hid hb512;have HLA:=hid hla;have HGG:=hid hg;have HDN:=hid (And.intro hD hn);have HO:=hid ho;have HNN:=hid hnn;have HQ:=hid (And.intro q1 (And.intro q2 (And.intro q3 q4)));clear h hr hj hov hmb hc0 hc1 hc2 hc4 hc5 hl hmay hd512 hlen ho60 hho hb512 hla hg hD hn ho hnn q1 q2 q3 q4 H1;go_enter func302,ntmps302;go_wp2_with fail;clear c2 hwn hla0;obtain ⟨w2,hw2⟩: ∃w2,w2=(w.alloc (.cells #[.pointer (some ⟨jb,0,none⟩)] 130 (0,0))).alloc (.cells #[.int .u64 n] 101 (0,0)):=⟨_,rfl⟩;rw [size_alloc,←hw2] at H2;rw [←hw2];clear hw2 hjl;generalize w.heap.size+1=bn at*
 generalize w.heap.size=bj at*
 go_cut [6] from 15 to 24 (fun t wx=> ∃bh v,t= .pointer (some ⟨bh,0,none⟩)∧St w0 wx (arr bh #[v] 76 Ki::byt v (laidB QU [g,n,ks.length])::arr bn #[.int .u64 n] 101 JC::arr bj #[.pointer (some ⟨jb,0,none⟩)] 130 Kd::rs))
 case first=>
  have KA:Hid (∀y,Frm NoB w2 y→y.cell? ⟨bj,0,none⟩=some (.pointer (some ⟨jb,0,none⟩))∧y.cell? ⟨jb,1,none⟩=some (.int .u64 g)∧y.cell? ⟨bn,0,none⟩=some (.int .u64 n)):=hid fun y hy=>
   ⟨((H2.out.frm0 hy).arrCell (i:=1) rfl 0).trans rfl,((H2.out.frm0 hy).arrCell (i:=ij+2) HJ.out 1).trans HC.out.2.1,((H2.out.frm0 hy).arrCell (i:=0) rfl 0).trans rfl⟩
  obtain ⟨c1,c2,c3⟩:=KA.out w2 (Frm.refl _ _);have HK1:Hid ((w2.alloc (.cells #[.int .u64 g,.int .u64 n,.int .u64 (ks.length:Nat)] 101 (0,0))).drew.heap[w2.heap.size]?=some (.cells #[.int .u64 g,.int .u64 n,.int .u64 (ks.length:Nat)] 101 (0,0))∧∀x,w0.Z x→x<(w2.alloc (.cells #[.int .u64 g,.int .u64 n,.int .u64 (ks.length:Nat)] 101 (0,0))).drew.heap.size):=hid ⟨Qb _ _,(H2.out.frm0 (((Frm.refl NoB w2).alloc (.cells #[.int .u64 g,.int .u64 n,.int .u64 (ks.length:Nat)] 101 (0,0))).drew)).zin⟩;have HK2:Hid (((w2.alloc (.cells #[.slice none 0 0] 76 (0,0))).alloc (.cells #[.int .u64 g,.int .u64 n,.int .u64 (ks.length:Nat)] 101 (0,0))).drew.heap[w2.heap.size+1]?=some (.cells #[.int .u64 g,.int .u64 n,.int .u64 (ks.length:Nat)] 101 (0,0))∧∀x,w0.Z x→x<((w2.alloc (.cells #[.slice none 0 0] 76 (0,0))).alloc (.cells #[.int .u64 g,.int .u64 n,.int .u64 (ks.length:Nat)] 101 (0,0))).drew.heap.size):=hid (by refine ⟨?_,(H2.out.frm0 ((((Frm.refl NoB w2).alloc (.cells #[.slice none 0 0] 76 (0,0))).alloc (.cells #[.int .u64 g,.int .u64 n,.int .u64 (ks.length:Nat)] 101 (0,0))).drew)).zin⟩;rw [←size_alloc w2 (.cells #[.slice none 0 0] 76 (0,0))];exact Qb _ _);have HK3:Hid (((w2.alloc (.cells #[.int .u64 g,.int .u64 n,.int .u64 (ks.length:Nat)] 101 (0,0))).alloc (.cells #[.slice none 0 0] 76 (0,0))).drew.heap[w2.heap.size]?=some (.cells #[.int .u64 g,.int .u64 n,.int .u64 (ks.length:Nat)] 101 (0,0))∧∀x,w0.Z x→x<((w2.alloc (.cells #[.int .u64 g,.int .u64 n,.int .u64 (ks.length:Nat)] 101 (0,0))).alloc (.cells #[.slice none 0 0] 76 (0,0))).drew.heap.size):=hid ⟨Ql _ (Qb _ _),(H2.out.frm0 ((((Frm.refl NoB w2).alloc (.cells #[.int .u64 g,.int .u64 n,.int .u64 (ks.length:Nat)] 101 (0,0))).alloc (.cells #[.slice none 0 0] 76 (0,0))).drew)).zin⟩;go_region_held3 (fun y=>y.cell? ⟨bj,0,none⟩=some (.pointer (some ⟨jb,0,none⟩))∧y.cell? ⟨jb,1,none⟩=some (.int .u64 g)∧y.cell? ⟨bn,0,none⟩=some (.int .u64 n))
   (first | (refine KA.out _ ?_;first | assumption | exact hF3 | exact hF3.alloc _ | exact hF3.setCell (.inr (Nat.le_succ _)) _ | exact hF3.setCell (.inr (Nat.le_refl _)) _ | exact (Frm.refl NoB w2).drew | exact ((Frm.refl NoB w2).drew).alloc _ | exact (((Frm.refl NoB w2).drew).alloc _).alloc _ | exact ⟨rfl,rfl,rfl,Nat.le_refl _,fun _ _ _=>rfl⟩))
   (first
    | (go_at_call 245;(with_reducible refine (HLD.out (w2.alloc (.cells #[.int .u64 g,.int .u64 n,.int .u64 (ks.length:Nat)] 101 (0,0))).drew w2.heap.size HK1.out).mono ?_);rintro e w3 ⟨vb,vo,vcap,rfl,hf3,hb3⟩;have hF3:Frm NoB w2 w3:=(((Frm.refl NoB w2).alloc (.cells #[.int .u64 g,.int .u64 n,.int .u64 (ks.length:Nat)] 101 (0,0))).drew).trans hf3 (fun _ _ e=>e);have hA:=hF3)
    | (go_at_call 245;(with_reducible refine (HLD.out ((w2.alloc (.cells #[.slice none 0 0] 76 (0,0))).alloc (.cells #[.int .u64 g,.int .u64 n,.int .u64 (ks.length:Nat)] 101 (0,0))).drew (w2.heap.size+1) HK2.out).mono ?_);rintro e w3 ⟨vb,vo,vcap,rfl,hf3,hb3⟩;have hF3:Frm NoB w2 w3:=((((Frm.refl NoB w2).alloc (.cells #[.slice none 0 0] 76 (0,0))).alloc (.cells #[.int .u64 g,.int .u64 n,.int .u64 (ks.length:Nat)] 101 (0,0))).drew).trans hf3 (fun _ _ e=>e);have hB:w3.heap[w2.heap.size]?=some (.cells #[.slice none 0 0] 76 (0,0)):=(hf3.block _ (by rw [World.size_drew,size_alloc,size_alloc];omega) (fun e=>e)).trans (Ql _ (Qb _ _));have hB1:w3.cell? ⟨w2.heap.size,0,none⟩=some (.slice none 0 0):=Qa hB;have hB2:w3.frozen? ⟨w2.heap.size,0,none⟩=false:=Qf hB)
    | (go_at_call 245;(with_reducible refine (HLD.out ((w2.alloc (.cells #[.int .u64 g,.int .u64 n,.int .u64 (ks.length:Nat)] 101 (0,0))).alloc (.cells #[.slice none 0 0] 76 (0,0))).drew w2.heap.size HK3.out).mono ?_);rintro e w3 ⟨vb,vo,vcap,rfl,hf3,hb3⟩;have hF3:Frm NoB w2 w3:=((((Frm.refl NoB w2).alloc (.cells #[.int .u64 g,.int .u64 n,.int .u64 (ks.length:Nat)] 101 (0,0))).alloc (.cells #[.slice none 0 0] 76 (0,0))).drew).trans hf3 (fun _ _ e=>e);have hC:w3.heap[w2.heap.size+1]?=some (.cells #[.slice none 0 0] 76 (0,0)):=(hf3.block _ (by rw [World.size_drew,size_alloc,size_alloc];omega) (fun e=>e)).trans (by rw [←size_alloc w2 (.cells #[.int .u64 g,.int .u64 n,.int .u64 (ks.length:Nat)] 101 (0,0))];exact Qb _ _);have hC1:w3.cell? ⟨w2.heap.size+1,0,none⟩=some (.slice none 0 0):=Qa hC;have hC2:w3.frozen? ⟨w2.heap.size+1,0,none⟩=false:=Qf hC))
  ·have hfin:St w0 _ (arr w3.heap.size #[.slice (some ⟨vb,vo,none⟩) 512 vcap] 76 Ki::byt (.slice (some ⟨vb,vo,none⟩) 512 vcap) (laidB QU [g,n,ks.length])::arr bn #[.int .u64 n] 101 JC::arr bj #[.pointer (some ⟨jb,0,none⟩)] 130 Kd::rs):=
    ((H2.out.frm0 hF3).make (Frm.refl _ _) (byt _ _) hb3 (fun _ h=>h.elim)).newArr #[.slice (some ⟨vb,vo,none⟩) 512 vcap] 76 Ki
   have HFIN:=hid hfin;clear hfin c1 c2 c3 hwk hF3 hf3 hb3;go_wp2_with fail;go_meet
   first | exact ⟨_,_,rfl,HFIN.out⟩ | (case rel=>exact ⟨_,_,rfl,HFIN.out⟩)
  ·have hfin:St w0 _ (arr (w2.heap.size+1) #[.slice (some ⟨vb,vo,none⟩) 512 vcap] 76 Ki::byt (.slice (some ⟨vb,vo,none⟩) 512 vcap) (laidB QU [g,n,ks.length])::arr bn #[.int .u64 n] 101 JC::arr bj #[.pointer (some ⟨jb,0,none⟩)] 130 Kd::rs):=
    ((H2.out.make hF3 (arr (w2.heap.size+1) #[.slice none 0 0] 76 Ki) hC (fun x hx=>by obtain rfl:x=w2.heap.size+1:=hx;omega)).make (Frm.refl _ _) (byt _ _) hb3 (fun _ h=>h.elim)).swap.setArr 0 rfl 0 _
   have HFIN:=hid hfin;clear hfin c1 c2 c3 hwk hF3 hf3 hb3 hC hC1 hC2;go_wp2_with fail;go_meet
   first | exact ⟨_,_,rfl,HFIN.out⟩ | (case rel=>exact ⟨_,_,rfl,HFIN.out⟩)
  ·have hfin:St w0 _ (arr w2.heap.size #[.slice (some ⟨vb,vo,none⟩) 512 vcap] 76 Ki::byt (.slice (some ⟨vb,vo,none⟩) 512 vcap) (laidB QU [g,n,ks.length])::arr bn #[.int .u64 n] 101 JC::arr bj #[.pointer (some ⟨jb,0,none⟩)] 130 Kd::rs):=
    ((H2.out.make hF3 (arr w2.heap.size #[.slice none 0 0] 76 Ki) hB (fun x hx=>by obtain rfl:x=w2.heap.size:=hx;exact Nat.le_refl _)).make (Frm.refl _ _) (byt _ _) hb3 (fun _ h=>h.elim)).swap.setArr 0 rfl 0 _
   have HFIN:=hid hfin;clear hfin c1 c2 c3 hwk hF3 hf3 hb3 hB hB1 hB2;go_wp2_with fail;go_meet
   first | exact ⟨_,_,rfl,HFIN.out⟩ | (case rel=>exact ⟨_,_,rfl,HFIN.out⟩)
 case rest=>
  obtain ⟨bh,v0,rfl,hst0⟩:=hcut;have HST0:=hid hst0;clear hst0 H2 HLD;go_wp2_with fail;go_loopw [7,8,9,27] (fun v7 _ _ t wr=> ∃(l:List (Nat×Nat)) (hv:Value),l.length≤ks.length∧t= .int .i64 l.length∧St w0 wr (QW 100 J6 1 v7 l.length (VK bj bn l)::arr bh #[hv] 76 Ki::byt hv (QV (laidB QU [g,n,ks.length]) 0 (ks.take l.length))::(YX ks vs l++(arr bn #[.int .u64 n] 101 JC::arr bj #[.pointer (some ⟨jb,0,none⟩)] 130 Kd::rs)))) (fun _ _ _ t _=>ks.length-(intOf t).toNat)
  case atStart=>exact ⟨[],_,Nat.zero_le _,rfl,HST0.out.rowNil _ _ _⟩
  case round=>
   clear HST0;obtain ⟨l,hv,hk,rfl,hst⟩:=hrel;have HST:=hid hst;clear hst;by_cases hlt:l.length<ks.length
   ·have hk0:(0:Int)≤(l.length:Int):=Qk _;have hk1:(l.length:Int)<(ks.length:Int):=by omega
    obtain ⟨x,hx⟩: ∃x,ks[l.length]?=some x:=⟨_,List.getElem?_eq_getElem hlt⟩;have hvi: ∀X:Res,∀pre:List Res,∀Y Z,(pre++(Y::Z::rs))[pre.length+2+iv]?=rs[iv]?:=fun X pre Y Z=>by
     rw [List.getElem?_append_right (by omega),show pre.length+2+iv-pre.length=iv+1+1 from by omega];rfl
    have hget:(QW 100 J6 1 u7 l.length (VK bj bn l)::arr bh #[hv] 76 Ki::byt hv (QV (laidB QU [g,n,ks.length]) 0 (ks.take l.length))::(YX ks vs l++(arr bn #[.int .u64 n] 101 JC::arr bj #[.pointer (some ⟨jb,0,none⟩)] 130 Kd::rs)))[(YX ks vs l).length+2+iv+3]?=some (VL (.slice va ks.length vc) (ks.map fun k:Nat=>(k:Int)) vs ds):=by
     rw [show (YX ks vs l).length+2+iv+3=(YX ks vs l).length+2+iv+1+1+1 from by omega,List.getElem?_cons_succ,List.getElem?_cons_succ,List.getElem?_cons_succ,hvi QkI];exact HL.out
    obtain ⟨gb,u,d,rfl,hgb,hu,hd,c1,c2,hbu⟩:=HST.out.chgsCell hget (j:=l.length) (k:=(x:Int)) (by rw [List.getElem?_map,hx];rfl);obtain ⟨ub,uo,uc,rfl,_⟩:=hbu.cells;obtain ⟨hvb,hvo,hvc,rfl,_⟩:=(HST.out.get (i:=2) rfl).cells;have hd0:(QV (laidB QU [g,n,ks.length]) 0 (ks.take l.length)).length=512:=VC _ _ _ (Vj _ _ _) (by rw [List.length_take];omega);have HTK:=hid (QbK (laidB QU [g,n,ks.length]) ks l.length x hx);obtain ⟨hd,hhd⟩: ∃hd,QV (laidB QU [g,n,ks.length]) 0 (ks.take l.length)=hd:=⟨_,rfl⟩;rw [hhd] at HST hd0 HTK;have HD0:=hid hd0;obtain ⟨n512,hn512⟩: ∃n,hd.length=n:=⟨_,rfl⟩;rw [hn512] at HST;have hxk:x<65536:=by have:=HMAY.out.home x (List.mem_of_getElem? hx);have:=HDN.out;omega
    have hx0:(0:Int)≤(x:Int):=Qk _;have hwx:IntKind.u64.wrap (x:Int)=(x:Int):=u64_in hx0 (by omega);obtain ⟨p,hp⟩: ∃p:Nat,32+4*l.length=p:=⟨_,rfl⟩;have hp2:32+4*(l.length:Int)=(p:Int):=by omega
    rw [hp] at HTK;have HP3:Hid (p≤508):=hid (by omega);have HBU:=hid hbu;have HU:=hid hu;have HX:=hid hx;have H6:=hid ((HST.out.newArr #[.int .i64 l.length] 3 Jj).newArr #[.int .i64 x,.slice (some ⟨ub,uo,none⟩) d.length uc] 274 VD);rw [size_alloc] at H6;obtain ⟨dl,hdl⟩: ∃m,d.length=m:=⟨_,rfl⟩;rw [hdl] at H6 c2;have HDL:=hid hdl;have c3:wr.cell? ⟨bh,0,none⟩=some (.slice (some ⟨hvb,hvo,none⟩) n512 hvc):=(HST.out.arrCell (i:=1) rfl 0).trans rfl;have hbh:bh<wr.heap.size:=lt_of_block (HST.out.get (i:=1) rfl);obtain ⟨w4,hw4⟩: ∃w4,w4=(wr.alloc (.cells #[.int .i64 (l.length:Int)] 3 (0,0))).alloc (.cells #[.int .i64 (x:Int),.slice (some ⟨ub,uo,none⟩) dl uc] 274 (0,0)):=⟨_,rfl⟩;have HPT:Hid (Calls prog 178 #[.slice (some ⟨hvb,hvo,none⟩) n512 hvc,.int .i64 p,.int .i64 4,.bool false,.int .u64 x] w4 fun e w'=> ∃vb vo vc,e= .returned (.tuple #[.slice (some ⟨vb,vo,none⟩) 512 vc,.bool true])∧St w0 w' (byt (.slice (some ⟨vb,vo,none⟩) 512 vc) (Qv hd p 4 x)::arr (wr.heap.size+1) #[.int .i64 x,.slice (some ⟨ub,uo,none⟩) dl uc] 274 VD::arr wr.heap.size #[.int .i64 l.length] 3 Jj::QW 100 J6 1 u7 l.length (VK bj bn l)::arr bh #[.slice (some ⟨hvb,hvo,none⟩) n512 hvc] 76 Ki::byt (.slice (some ⟨hvb,hvo,none⟩) n512 hvc) hd::(YX ks vs l++(arr bn #[.int .u64 n] 101 JC::arr bj #[.pointer (some ⟨jb,0,none⟩)] 130 Kd::rs)))):=hid (by
     rw [hw4];refine (YG _ _ hd p 4 x Ku (H6.out.get (i:=4) rfl) (by omega) (by omega) (by have:=HD0.out;have:=HP3.out;omega) (by rw [HD0.out];omega) (by omega)).mono ?_;rintro e w' ⟨hf,v',he,hb⟩;have hln:(Qv hd p 4 x).length=512:=(Qu _ _ _ _ (by have:=HD0.out;have:=HP3.out;omega)).trans HD0.out;obtain ⟨vb,vo,vc,rfl,_⟩:=hb.cells;rw [hln] at he hb;exact ⟨vb,vo,vc,he,H6.out.mkByt hf hb⟩)
    clear hdl hbu hu hx hp hxk hd0 hhd hget hvi hn512 HST;go_wp2_with fail;rw [←hw4];clear hw4 H6 c1 c2 c3 hwx;refine HPT.out.mono ?_;clear HPT;rintro e w5 ⟨vb,vo,vcc,rfl,h5⟩;have c3:w5.cell? ⟨bh,0,none⟩=some (.slice (some ⟨hvb,hvo,none⟩) n512 hvc):=(h5.arrCell (i:=4) rfl 0).trans rfl;have fz3:w5.frozen? ⟨bh,0,none⟩=false:=h5.arrFree (i:=4) rfl 0;have h6:=(h5.setArr 4 rfl 0 (.slice (some ⟨vb,vo,none⟩) 512 vcc)).sub ((((((List.sublist_cons_self _ _).cons_cons _).cons_cons _).cons_cons _).cons_cons _).cons_cons _);have h7:=h6.perm (rs':=QW 100 J6 1 u7 l.length (VK bj bn l)::arr bh #[.slice (some ⟨vb,vo,none⟩) 512 vcc] 76 Ki::byt (.slice (some ⟨vb,vo,none⟩) 512 vcc) (Qv hd p 4 x)::arr wr.heap.size #[.int .i64 l.length] 3 Jj::arr (wr.heap.size+1) #[.int .i64 x,.slice (some ⟨ub,uo,none⟩) dl uc] 274 VD::(YX ks vs l++(arr bn #[.int .u64 n] 101 JC::arr bj #[.pointer (some ⟨jb,0,none⟩)] 130 Kd::rs))) (by
     have e1:=(List.perm_append_comm (l₁:= [byt (.slice (some ⟨vb,vo,none⟩) 512 vcc) (Qv hd p 4 x),arr (wr.heap.size+1) #[.int .i64 x,.slice (some ⟨ub,uo,none⟩) dl uc] 274 VD,arr wr.heap.size #[.int .i64 l.length] 3 Jj]) (l₂:= [QW 100 J6 1 u7 l.length (VK bj bn l),arr bh #[.slice (some ⟨vb,vo,none⟩) 512 vcc] 76 Ki])).append_right (YX ks vs l++(arr bn #[.int .u64 n] 101 JC::arr bj #[.pointer (some ⟨jb,0,none⟩)] 130 Kd::rs));exact e1.trans (List.Perm.cons _ (List.Perm.cons _ (List.Perm.cons _ (List.Perm.swap _ _ _)))))
    have H7:=hid h7;clear h5 h6 h7;go_upto_region 8 with (fail)
    obtain ⟨w6,hw6⟩: ∃w6,w6=w5.setCell ⟨bh,0,none⟩ (.slice (some ⟨vb,vo,none⟩) 512 vcc):=⟨_,rfl⟩;rw [←hw6] at H7 ⊢;clear hw6 c3 fz3;generalize wr.heap.size+1=bc at*
    generalize wr.heap.size=bi at*
    have HO:=hid (World.ownsRow.alloc (H7.out.get (i:=0) rfl) (.cells #[.func (.func 345) #[] #[.pointer (some ⟨bj,0,none⟩),.pointer (some ⟨bn,0,none⟩),.pointer (some ⟨bi,0,none⟩),.pointer (some ⟨bc,0,none⟩)]] 100 (0,0)));have HN:Hid (∀(j:Nat) u,([.func (.func 345) #[] #[.pointer (some ⟨bj,0,none⟩),.pointer (some ⟨bn,0,none⟩),.pointer (some ⟨bi,0,none⟩),.pointer (some ⟨bc,0,none⟩)]]:List Value)[j]?=some u→(w6.alloc (.cells #[.func (.func 345) #[] #[.pointer (some ⟨bj,0,none⟩),.pointer (some ⟨bn,0,none⟩),.pointer (some ⟨bi,0,none⟩),.pointer (some ⟨bc,0,none⟩)]] 100 (0,0))).cell? ((⟨w6.heap.size,0,none⟩:Addr).add j)=some u):=hid (EV w6 _ _);obtain ⟨ii,hi0i,hz0,hz1,hz2⟩:=info_parts Qbs;have hmf: ∀(fn:Fn) (first cap:Array Value) (W:World),(Instr.makeFunc fn first cap).run prog W= .ok (.func fn first cap) W:=fun _ _ _ _=>rfl
    have hk60:(l.length:Int)≤60:=by omega
    go_wp2_with (at_builtin;refine wpList_append_own_at _ rfl _ _ 171 rfl 0 100 ii .nilFunc 1 8 underlying171 hi0i hz0 hz1 hz2 rfl (by decide) _ _ _ rfl HO.out ⟨w6.heap.size,0,none⟩ 1 1 [.func (.func 345) #[] #[.pointer (some ⟨bj,0,none⟩),.pointer (some ⟨bn,0,none⟩),.pointer (some ⟨bi,0,none⟩),.pointer (some ⟨bc,0,none⟩)]] rfl rfl HN.out ?c0 ?c1 ?c2 ?c3 ?_)
    case c0=>intro u hu;simp at hu;subst hu;rfl
    case c1=>simp only [maxLen];omega
    case c2=>omega
    case c3=>omega
    intro v8 w8 ho hg2 hnn hat;have h9:=H7.out.rowAppend 0 rfl (.cells #[.func (.func 345) #[] #[.pointer (some ⟨bj,0,none⟩),.pointer (some ⟨bn,0,none⟩),.pointer (some ⟨bi,0,none⟩),.pointer (some ⟨bc,0,none⟩)]] 100 (0,0)) ho hg2 (by rw [size_alloc];first | exact hat | (rw [size_alloc] at hat;exact hat));have H9:Hid (St w0 w8 (QW 100 J6 1 v8 ((bi,bc)::l).length (VK bj bn ((bi,bc)::l))::arr bh #[.slice (some ⟨vb,vo,none⟩) 512 vcc] 76 Ki::byt (.slice (some ⟨vb,vo,none⟩) 512 vcc) (QV (laidB QU [g,n,ks.length]) 0 (ks.take ((bi,bc)::l).length))::(YX ks vs ((bi,bc)::l)++(arr bn #[.int .u64 n] 101 JC::arr bj #[.pointer (some ⟨jb,0,none⟩)] 130 Kd::rs)))):=hid (by
     have e1:ks.getD l.length 0=x:=by rw [List.getD_eq_getElem?_getD,HX.out];rfl
     have e2:vs.getD l.length undef= .slice (some ⟨ub,uo,none⟩) dl uc:=by rw [List.getD_eq_getElem?_getD,HU.out,HDL.out];rfl
     show St w0 w8 (QW 100 J6 1 v8 (l.length+1) _::_::byt _ (QV _ 0 (ks.take (l.length+1)))::arr bi #[.int .i64 (l.length:Int)] 3 Jj::arr bc #[.int .i64 (ks.getD l.length 0:Nat),vs.getD l.length undef] 274 VD::_);rw [HTK.out,e1,e2];exact h9)
    clear ho hg2 hnn hat h9 HO HN hmf;go_wp2
    first | exact ⟨⟨(bi,bc)::l,_,hlt,by go_num,H9.out⟩,by simp [intOf];omega⟩ | (go_roundw;case rel=>first | exact ⟨(bi,bc)::l,_,hlt,by go_num,H9.out⟩ | ((repeat apply Exists.intro);exact ⟨⟨(bi,bc)::l,_,hlt,by go_num,H9.out⟩,rfl⟩);case measure=>simp [intOf];omega)
   ·have hk1: ¬(l.length:Int)<(ks.length:Int):=by omega
    have HLL:Hid (l.length=ks.length):=hid (by omega);have hk60:(l.length:Int)≤60:=by omega
    have hmf: ∀(fn:Fn) (first cap:Array Value) (W:World),(Instr.makeFunc fn first cap).run prog W= .ok (.func fn first cap) W:=fun _ _ _ _=>rfl
    have cj: ∀W X rs',rs'[ij]?=some (arr jb c 219 t1)→St w0 W (X::arr bh #[hv] 76 Ki::byt hv (QV (laidB QU [g,n,ks.length]) 0 (ks.take l.length))::(YX ks vs l++(arr bn #[.int .u64 n] 101 JC::arr bj #[.pointer (some ⟨jb,0,none⟩)] 130 Kd::rs')))→W.cell? ⟨bj,0,none⟩=some (.pointer (some ⟨jb,0,none⟩))∧W.cell? ⟨jb,0,none⟩=some (.pointer (some ⟨H.b,0,none⟩)):=fun W X rs' hij hW=>by
     have e1: ∀(q:Nat) (r:Res),(arr bn #[.int .u64 n] 101 JC::arr bj #[.pointer (some ⟨jb,0,none⟩)] 130 Kd::rs')[q]?=some r→(X::arr bh #[hv] 76 Ki::byt hv (QV (laidB QU [g,n,ks.length]) 0 (ks.take l.length))::(YX ks vs l++(arr bn #[.int .u64 n] 101 JC::arr bj #[.pointer (some ⟨jb,0,none⟩)] 130 Kd::rs')))[(YX ks vs l).length+q+1+1+1]?=some r:=fun q r hq=>by
      rw [List.getElem?_cons_succ,List.getElem?_cons_succ,List.getElem?_cons_succ,List.getElem?_append_right (by omega),show (YX ks vs l).length+q-(YX ks vs l).length=q from by omega];exact hq
     exact ⟨(hW.arrCell (e1 1 _ rfl) 0).trans rfl,(hW.arrCell (e1 (ij+2) _ hij) 0).trans HC.out.1⟩
    have HCJ:=hid cj;obtain ⟨c1,c2⟩:=cj wr _ _ HJ.out HST.out;clear cj;have H5:=hid (HST.out.rowLit 100 J6 1 #[.func (.func 142) #[.pointer (some ⟨jb,0,none⟩)] #[]] 1 (by decide) rfl);obtain ⟨ii,hi0i,hz0,hz1,hz2⟩:=info_parts Qbs;have HA:=hid (show (wr.alloc (.cells #[.func (.func 142) #[.pointer (some ⟨jb,0,none⟩)] #[]] 100 (0,0))).ownsRow 0 100 1 (.slice (some ⟨wr.heap.size,0,none⟩) 1 1) 1 [.func (.func 142) #[.pointer (some ⟨jb,0,none⟩)] #[]] from H5.out.get (i:=0) rfl);have HB:=hid (show (wr.alloc (.cells #[.func (.func 142) #[.pointer (some ⟨jb,0,none⟩)] #[]] 100 (0,0))).ownsRow 0 100 1 u7 l.length (VK bj bn l) from H5.out.get (i:=1) rfl);have HW1:=hid (Qcs bj bn l);go_wp2_with (at_builtin;refine U2 rfl _ _ 171 rfl 0 0 100 ii .nilFunc 1 8 underlying171 hi0i hz0 hz1 hz2 rfl (by decide) _ _ _ rfl HA.out _ _ _ rfl HB.out HW1.out ?d1 ?d2 ?d3 ?_)
    case d1=>simp only [maxLen];omega
    case d2=>omega
    try case d3=>omega
    intro v8 w8 ho hg2 hat;have h9:=H5.out.rowAppend0 0 rfl ho hg2 (by rw [size_alloc];exact hat);have H9:=hid ((show St w0 w8 (QW 100 J6 1 v8 (1+l.length) _::QW 100 J6 1 u7 l.length (VK bj bn l)::_) from h9).drop2nd);clear ho hg2 hat h9 HA HB c1 c2 HST H5;obtain ⟨c1,c2⟩:=HCJ.out _ _ _ HJ.out H9.out;obtain ⟨gb8,gc8,rfl⟩: ∃gb gc,v8= .slice (some ⟨gb,0,none⟩) (1+l.length) gc:=by
     have ho:w8.ownsRow 0 100 1 v8 (1+l.length) _:=H9.out.get (i:=0) rfl;rcases ho.2 with hx | ⟨gb,gc,_,hx,_⟩
     ·have:=hx.2;omega
     ·exact ⟨gb,gc,hx⟩
    have HOW:=hid (show ((w8.alloc (.cells #[.func (.func 143) #[.pointer (some ⟨H.b,0,none⟩)] #[],.func (.func 346) #[] #[.pointer (some ⟨bj,0,none⟩),.pointer (some ⟨bn,0,none⟩),.pointer (some ⟨bh,0,none⟩)],.func (.func 143) #[.pointer (some ⟨H.b,0,none⟩)] #[]] 100 (0,0))).drew).ownsRow 0 100 1 (.slice (some ⟨gb8,0,none⟩) (1+l.length) gc8) (1+l.length) (.func (.func 142) #[.pointer (some ⟨jb,0,none⟩)] #[]::VK bj bn l) from World.ownsRow.alloc (H9.out.get (i:=0) rfl) (.cells #[.func (.func 143) #[.pointer (some ⟨H.b,0,none⟩)] #[],.func (.func 346) #[] #[.pointer (some ⟨bj,0,none⟩),.pointer (some ⟨bn,0,none⟩),.pointer (some ⟨bh,0,none⟩)],.func (.func 143) #[.pointer (some ⟨H.b,0,none⟩)] #[]] 100 (0,0)));have HN:Hid (∀(j:Nat) u,([.func (.func 143) #[.pointer (some ⟨H.b,0,none⟩)] #[],.func (.func 346) #[] #[.pointer (some ⟨bj,0,none⟩),.pointer (some ⟨bn,0,none⟩),.pointer (some ⟨bh,0,none⟩)],.func (.func 143) #[.pointer (some ⟨H.b,0,none⟩)] #[]]:List Value)[j]?=some u→((w8.alloc (.cells #[.func (.func 143) #[.pointer (some ⟨H.b,0,none⟩)] #[],.func (.func 346) #[] #[.pointer (some ⟨bj,0,none⟩),.pointer (some ⟨bn,0,none⟩),.pointer (some ⟨bh,0,none⟩)],.func (.func 143) #[.pointer (some ⟨H.b,0,none⟩)] #[]] 100 (0,0))).drew).cell? ((⟨w8.heap.size,0,none⟩:Addr).add j)=some u):=hid fun j u hj=>by
     have e:((⟨w8.heap.size,0,none⟩:Addr).add j)=⟨w8.heap.size,j,none⟩:=by unfold Addr.add;split<;>simp_all
     rw [e];show (w8.alloc _).cell? _=_;rw [Qa (Qb _ _),←Array.getElem?_toList];exact hj
    have HC0:Hid (∀u∈([.func (.func 143) #[.pointer (some ⟨H.b,0,none⟩)] #[],.func (.func 346) #[] #[.pointer (some ⟨bj,0,none⟩),.pointer (some ⟨bn,0,none⟩),.pointer (some ⟨bh,0,none⟩)],.func (.func 143) #[.pointer (some ⟨H.b,0,none⟩)] #[]]:List Value),u.oneCell'=true):=hid (by intro u hu;simp at hu;rcases hu with rfl | rfl | rfl<;>rfl);have HC1:Hid (1+l.length+3≤maxLen):=hid (by simp only [maxLen];omega);have HC2:Hid ((1+l.length+3)*8≤140737488355328):=hid (by omega);have HJS:Hid ((rs.set a (dev H (QL (Qz g last om dm ks ds) D)))[ij]?=some (arr jb c 219 t1)):=hid (by rw [List.getElem?_set_ne (Ne.symm HQ.out.1)];exact HJ.out);have HTR:Hid (∀W v10,St w0 W (QW 100 J6 1 v10 (1+l.length+3) ((.func (.func 142) #[.pointer (some ⟨jb,0,none⟩)] #[]::VK bj bn l)++ [.func (.func 143) #[.pointer (some ⟨H.b,0,none⟩)] #[],.func (.func 346) #[] #[.pointer (some ⟨bj,0,none⟩),.pointer (some ⟨bn,0,none⟩),.pointer (some ⟨bh,0,none⟩)],.func (.func 143) #[.pointer (some ⟨H.b,0,none⟩)] #[]])::arr bh #[hv] 76 Ki::byt hv (QV (laidB QU [g,n,ks.length]) 0 (ks.take l.length))::(YX ks vs l++(arr bn #[.int .u64 n] 101 JC::arr bj #[.pointer (some ⟨jb,0,none⟩)] 130 Kd::rs)))→Calls prog 141 #[v10] W fun e w'=>e= .returned (.int .i64 (Jp (Qz g last om dm ks ds) D))∧St w0 w' (QW 100 J6 1 v10 (1+l.length+3) ((.func (.func 142) #[.pointer (some ⟨jb,0,none⟩)] #[]::VK bj bn l)++ [.func (.func 143) #[.pointer (some ⟨H.b,0,none⟩)] #[],.func (.func 346) #[] #[.pointer (some ⟨bj,0,none⟩),.pointer (some ⟨bn,0,none⟩),.pointer (some ⟨bh,0,none⟩)],.func (.func 143) #[.pointer (some ⟨H.b,0,none⟩)] #[]])::arr bh #[hv] 76 Ki::byt hv (QV (laidB QU [g,n,ks.length]) 0 (ks.take l.length))::(YX ks vs l++(arr bn #[.int .u64 n] 101 JC::arr bj #[.pointer (some ⟨jb,0,none⟩)] 130 Kd::rs.set a (dev H (QL (Qz g last om dm ks ds) D)))))):=hid (by
     intro W v10 hW;obtain ⟨gb,gc,rfl⟩: ∃gb gc,v10= .slice (some ⟨gb,0,none⟩) (1+l.length+3) gc:=by
      have ho:W.ownsRow 0 100 1 v10 (1+l.length+3) _:=hW.get (i:=0) rfl;rcases ho.2 with hx | ⟨gb,gc,_,hx,_⟩
      ·have:=hx.2;omega
      ·exact ⟨gb,gc,hx⟩
     obtain ⟨pre,hpre⟩: ∃pre,QW 100 J6 1 (.slice (some ⟨gb,0,none⟩) (1+l.length+3) gc) (1+l.length+3) ((.func (.func 142) #[.pointer (some ⟨jb,0,none⟩)] #[]::VK bj bn l)++ [.func (.func 143) #[.pointer (some ⟨H.b,0,none⟩)] #[],.func (.func 346) #[] #[.pointer (some ⟨bj,0,none⟩),.pointer (some ⟨bn,0,none⟩),.pointer (some ⟨bh,0,none⟩)],.func (.func 143) #[.pointer (some ⟨H.b,0,none⟩)] #[]])::arr bh #[hv] 76 Ki::byt hv (QV (laidB QU [g,n,ks.length]) 0 (ks.take l.length))::(YX ks vs l++ [arr bn #[.int .u64 n] 101 JC,arr bj #[.pointer (some ⟨jb,0,none⟩)] 130 Kd])=pre:=⟨_,rfl⟩;have hjoin: ∀rs',QW 100 J6 1 (.slice (some ⟨gb,0,none⟩) (1+l.length+3) gc) (1+l.length+3) ((.func (.func 142) #[.pointer (some ⟨jb,0,none⟩)] #[]::VK bj bn l)++ [.func (.func 143) #[.pointer (some ⟨H.b,0,none⟩)] #[],.func (.func 346) #[] #[.pointer (some ⟨bj,0,none⟩),.pointer (some ⟨bn,0,none⟩),.pointer (some ⟨bh,0,none⟩)],.func (.func 143) #[.pointer (some ⟨H.b,0,none⟩)] #[]])::arr bh #[hv] 76 Ki::byt hv (QV (laidB QU [g,n,ks.length]) 0 (ks.take l.length))::(YX ks vs l++(arr bn #[.int .u64 n] 101 JC::arr bj #[.pointer (some ⟨jb,0,none⟩)] 130 Kd::rs'))=pre++rs':=fun rs'=>by
      rw [←hpre];simp
     rw [hjoin] at hW;have hp0:pre[0]?=some (QW 100 J6 1 (.slice (some ⟨gb,0,none⟩) (1+l.length+3) gc) (1+l.length+3) ((.func (.func 142) #[.pointer (some ⟨jb,0,none⟩)] #[]::VK bj bn l)++ [.func (.func 143) #[.pointer (some ⟨H.b,0,none⟩)] #[],.func (.func 346) #[] #[.pointer (some ⟨bj,0,none⟩),.pointer (some ⟨bn,0,none⟩),.pointer (some ⟨bh,0,none⟩)],.func (.func 143) #[.pointer (some ⟨H.b,0,none⟩)] #[]])):=by rw [←hpre];rfl
     have hp1:pre[1]?=some (arr bh #[hv] 76 Ki):=by rw [←hpre];rfl
     have hp2:pre[2]?=some (byt hv (QV (laidB QU [g,n,ks.length]) 0 (ks.take l.length))):=by rw [←hpre];rfl
     have hpc: ∀(q:Nat) (r:Res),(YX ks vs l++ [arr bn #[.int .u64 n] 101 JC,arr bj #[.pointer (some ⟨jb,0,none⟩)] 130 Kd])[q]?=some r→pre[q+1+1+1]?=some r:=fun q r hq=>by rw [←hpre,List.getElem?_cons_succ,List.getElem?_cons_succ,List.getElem?_cons_succ];exact hq
     have hpn:pre[(YX ks vs l).length+0+1+1+1]?=some (arr bn #[.int .u64 n] 101 JC):=hpc _ _ (by rw [List.getElem?_append_right (by omega),Nat.sub_self];rfl);have hpj:pre[(YX ks vs l).length+1+1+1+1]?=some (arr bj #[.pointer (some ⟨jb,0,none⟩)] 130 Kd):=hpc _ _ (by rw [List.getElem?_append_right (by omega),Nat.add_sub_cancel_left];rfl);have hpk: ∀r,r∈YX ks vs l→∃q,pre[q]?=some r:=fun r hr=>by
      obtain ⟨q,hq⟩:=List.getElem?_of_mem hr;exact ⟨_,hpc q r (by rw [List.getElem?_append_left (List.getElem?_eq_some_iff.1 hq).1];exact hq)⟩
     clear hpre;have hlt: ∀(q:Nat) (r:Res),pre[q]?=some r→q<pre.length:=fun q r hq=>(List.getElem?_eq_some_iff.1 hq).1
     have hin: ∀(q:Nat) (r:Res) (rs':List Res),pre[q]?=some r→(pre++rs')[q]?=some r:=fun q r rs' hq=>by rw [List.getElem?_append_left (hlt q r hq)];exact hq
     have hrr: ∀(q:Nat) (r X:Res),rs[q]?=some r→q≠a→(pre++rs.set a X)[pre.length+q]?=some r:=fun q r X hq hne=>by
      rw [List.getElem?_append_right (by omega),Nat.add_sub_cancel_left,List.getElem?_set_ne (Ne.symm hne)];exact hq
     have hal:a<rs.length:=(List.getElem?_eq_some_iff.1 HR.out).1;have hs4:n%4=(last+1)%4:=by rw [HNN.out]
     have hn64:n<18446744073709551616:=by have:=HNN.out;have:=HLA.out;omega
     have hdl:ds.length=l.length:=by rw [HMAY.out.len,HLL.out]
     have hE60:=HO60.out;have hDo:=HO.out;have hD246:=HDN.out.1;obtain ⟨L,hLd⟩: ∃L,[Qi om dm]++((Ja ((last+1)%4) 0 ds).map (fun o=> [o])++ [[DOp.fl],[DOp.wr (Qp ((last+1)%4)) (JN g (last+1) ks)],[DOp.fl]])=L:=⟨_,rfl⟩;have hfl:L.flatten=Qz g last om dm ks ds:=by
      rw [←hLd,List.flatten_append,List.flatten_append,Ek];unfold Qz;simp
     have hflen:L.flatten.length≤123:=by
      rw [hfl];unfold Qz;simp only [List.length_append,Jo _ _ HLEN.out,Jk,List.length_cons,List.length_nil];omega
     have hLl:L.length=1+l.length+3:=by rw [←hLd];simp [Jk];omega
     have hL0:L.getD 0 []=Qi om dm:=by rw [←hLd];rfl
     have hLm: ∀j,j<l.length→∃d,ds[j]?=some d∧L.getD (j+1) []= [.wr (Qp ((last+1)%4)+1+j) d]:=fun j hj=>by
      obtain ⟨d,hb⟩: ∃d,ds[j]?=some d:=⟨_,List.getElem?_eq_getElem (by rw [hdl];exact hj)⟩;refine ⟨_,hb,?_⟩;have hdf:=Ev ((last+1)%4) ds 0 j _ hb;rw [Nat.zero_add] at hdf;rw [←hLd,List.getD_eq_getElem?_getD,List.getElem?_append_right (by simp),show j+1- [Qi om dm].length=j from by simp,List.getElem?_append_left (by simp [Jk];omega),List.getElem?_map,hdf];rfl
     have hLt: ∀k,L.getD (l.length+1+k) []= [[DOp.fl],[DOp.wr (Qp ((last+1)%4)) (JN g (last+1) ks)],[DOp.fl]].getD k []:=fun k=>by
      rw [←hLd,List.getD_eq_getElem?_getD,List.getElem?_append_right (by simp<;>omega),show l.length+1+k- [Qi om dm].length=l.length+k from by simp<;>omega,List.getElem?_append_right (by simp [Jk]<;>omega),show l.length+k-((Ja ((last+1)%4) 0 ds).map (fun o=> [o])).length=k from by simp [Jk]<;>omega,List.getD_eq_getElem?_getD]
     clear hLd;have hxsl:((.func (.func 142) #[.pointer (some ⟨jb,0,none⟩)] #[]::VK bj bn l):List Value).length=1+l.length:=by simp [Y5];omega
     refine ((Qdd (D:=D) hW a 0 HR.out hp0 (by omega) L hLl ?_).mono ?_)
     ·intro i hi;have hops: ∀E:DSt,E.ops≤D.ops+(L.take i).flatten.length→E.ops<2000000000:=fun E hE=>by
       have:=OM L i;omega
      rcases (by omega:i=0∨(1≤i∧i≤l.length)∨i=l.length+1+0∨i=l.length+1+1∨i=l.length+1+2) with rfl | ⟨hi1,hi2⟩ | rfl | rfl | rfl
      ·refine ⟨_,_,_,rfl,QaN,fun E W' hEn hEo hW'=>?_⟩;rw [hL0];exact QcU hW' (pre.length+a) (pre.length+ij) (pre.length+io) (pre.length+iq) (E1 _ _ _ _ hal) (hrr _ _ _ HJ.out HQ.out.1) (hrr _ _ _ HOV.out HQ.out.2.1) (hrr _ _ _ HMB.out HQ.out.2.2.1) HC.out.1 HC.out.2.2.1 HC.out.2.2.2.1 HC.out.2.2.2.2 rfl (by have:=HLA.out;omega) HLEN.out HO60.out (fun k hk=>by rw [hEn];exact HHO.out k hk) HB512.out (by simp at hEo;omega) (by have:=HQ.out.1;omega) (by have:=HQ.out.2.1;omega) (by have:=HQ.out.2.2.1;omega)
      ·obtain ⟨j,rfl⟩: ∃j,i=j+1:=⟨i-1,by omega⟩;obtain ⟨p,hf,hm1,hm2⟩:=QcK ks vs bj bn l j (by omega);obtain ⟨q1,hq1⟩:=hpk _ hm1;obtain ⟨q2,hq2⟩:=hpk _ hm2;obtain ⟨d,hd,hLd⟩:=hLm j (by omega);refine ⟨_,#[],#[.pointer (some ⟨bj,0,none⟩),.pointer (some ⟨bn,0,none⟩),.pointer (some ⟨p.1,0,none⟩),.pointer (some ⟨p.2,0,none⟩)],?_,Qki,fun E W' hEn hEo hW'=>?_⟩
       ·rw [List.getElem?_append_left (by rw [hxsl];omega),List.getElem?_cons_succ];exact hf
       ·rw [hLd];obtain ⟨I1,I2,I3,I4⟩:=hW'.get (i:=pre.length+iv) (hrr _ _ _ HL.out HQ.out.2.2.2);have hvl:j<vs.length:=by rw [I2,List.length_map];have:=HLL.out;omega
        have hu:Qc W' (vs.getD j undef) d Ku:=I4 j _ d (by rw [List.getD_eq_getElem?_getD,List.getElem?_eq_getElem hvl];rfl) hd;exact Qkx hW' (pre.length+a) (pre.length+ij) _ _ q1 q2 (E1 _ _ _ _ hal) (hrr _ _ _ HJ.out HQ.out.1) HC.out.1 (hin _ _ _ hpj) (hin _ _ _ hpn) (hin _ _ _ hq1) (hin _ _ _ hq2) hu (H512.out d (List.mem_of_getElem? hd)) hn64 hs4 (by omega) (by rw [hEn];exact hD246) (hops E hEo) (by have:=HQ.out.1;omega) (by have:=hlt _ _ hpj;omega) (by have:=hlt _ _ hpn;omega) (by have:=hlt _ _ hq1;omega) (by have:=hlt _ _ hq2;omega)
      ·refine ⟨_,#[.pointer (some ⟨H.b,0,none⟩)],#[],?_,UA,fun E W' hEn hEo hW'=>?_⟩
       ·rw [List.getElem?_append_right (by rw [hxsl];omega),hxsl,show l.length+1+0-(1+l.length)=0 from by omega];rfl
       ·rw [hLt 0];exact E3 hW' (pre.length+a) (E1 _ _ _ _ hal) (by have:=hops E hEo;omega)
      ·refine ⟨_,#[],#[.pointer (some ⟨bj,0,none⟩),.pointer (some ⟨bn,0,none⟩),.pointer (some ⟨bh,0,none⟩)],?_,Qj1,fun E W' hEn hEo hW'=>?_⟩
       ·rw [List.getElem?_append_right (by rw [hxsl];omega),hxsl,show l.length+1+1-(1+l.length)=1 from by omega];rfl
       ·rw [hLt 1];have hhd:QV (laidB QU [g,n,ks.length]) 0 (ks.take l.length)=JN g (last+1) ks:=by
         rw [HLL.out,List.take_length,HNN.out];rfl
        rw [hhd] at hp2;exact QkA hW' (pre.length+a) (pre.length+ij) _ _ 1 2 (E1 _ _ _ _ hal) (hrr _ _ _ HJ.out HQ.out.1) HC.out.1 (hin _ _ _ hpj) (hin _ _ _ hpn) (hin _ _ _ hp1) (hin _ _ _ hp2) (ER _ _ _ HMAY.out.few) hn64 hs4 (by rw [hEn];exact hD246) (hops E hEo) (by have:=HQ.out.1;omega) (by have:=hlt _ _ hpj;omega) (by have:=hlt _ _ hpn;omega) (by have:=hlt _ _ hp1;omega)
      ·refine ⟨_,#[.pointer (some ⟨H.b,0,none⟩)],#[],?_,UA,fun E W' hEn hEo hW'=>?_⟩
       ·rw [List.getElem?_append_right (by rw [hxsl];omega),hxsl,show l.length+1+2-(1+l.length)=2 from by omega];rfl
       ·rw [hLt 2];exact E3 hW' (pre.length+a) (E1 _ _ _ _ hal) (by have:=hops E hEo;omega)
     ·rintro e w' ⟨h1,h2⟩;rw [hfl] at h1 h2;rw [hjoin];exact ⟨h1,h2⟩)
    go_wp2_with fail;go_region_held3 (fun y=>y.cell? ⟨bj,0,none⟩=some (.pointer (some ⟨jb,0,none⟩))∧y.cell? ⟨jb,0,none⟩=some (.pointer (some ⟨H.b,0,none⟩)))
     (first | exact hS11 | (refine HCJ.out _ _ _ HJ.out (H9.out.frm0 ?_);first | exact Frm.refl _ _ | exact (Frm.refl NoB w8).drew | exact ((Frm.refl NoB w8).alloc _).drew | exact (Frm.refl NoB w8).alloc _ | exact ⟨rfl,rfl,rfl,Nat.le_refl _,fun _ _ _=>rfl⟩))
     (first
      | (refine Y9 rfl _ _ 171 rfl 0 100 ii .nilFunc 1 8 underlying171 hi0i hz0 hz1 hz2 rfl (by decide) _ _ _ rfl HOW.out ⟨w8.heap.size,0,none⟩ 3 3 [.func (.func 143) #[.pointer (some ⟨H.b,0,none⟩)] #[],.func (.func 346) #[] #[.pointer (some ⟨bj,0,none⟩),.pointer (some ⟨bn,0,none⟩),.pointer (some ⟨bh,0,none⟩)],.func (.func 143) #[.pointer (some ⟨H.b,0,none⟩)] #[]] rfl rfl HN.out HC0.out HC1.out HC2.out (Nat.zero_le _) ?_;intro v10 w10 ho hg2 hat;have h11:=(H9.out.frm0 ((Frm.refl NoB w8).drew)).rowAppend 0 rfl (.cells #[.func (.func 143) #[.pointer (some ⟨H.b,0,none⟩)] #[],.func (.func 346) #[] #[.pointer (some ⟨bj,0,none⟩),.pointer (some ⟨bn,0,none⟩),.pointer (some ⟨bh,0,none⟩)],.func (.func 143) #[.pointer (some ⟨H.b,0,none⟩)] #[]] 100 (0,0)) ho hg2 hat;have hS11:=HCJ.out _ _ _ HJ.out h11)
      | (go_at_call 141;refine (HTR.out _ _ h11).mono ?_;rintro e w12 ⟨rfl,h12⟩;have hS11:=HCJ.out _ _ _ HJS.out h12))
    all_goals
     have H12:=hid (h12.sub ((((((List.sublist_cons_self _ _).trans (List.sublist_cons_self _ _)).trans (List.sublist_append_right _ _)).trans (List.sublist_cons_self _ _)).trans (List.sublist_cons_self _ _)).trans (List.sublist_cons_self _ _)));clear h12 hS11;go_wp2;go_ret;exact ⟨rfl,H12.out⟩
def JSt.did (J:JSt) (ks:List Nat) (ds:List Blk):JSt:=⟨J.gen,J.last+1,false,ks,ds⟩
def JSt.died (J:JSt):JSt:=⟨J.gen,J.last,true,J.order,J.data⟩
def Oh (w0:Gnd) (rs:List Res) (a:Nat) (H:Hdl) (jb:Nat) (J:JSt) (D:DSt) (ks:List Nat) (ds:List Blk) (e:Ending) (w':World):Prop:=
 (Jp (Qz J.gen J.last J.order J.data ks ds) D=0∧e= .returned (.int .i64 0)∧∃jh':K9,jh'.jb=jb∧St w0 w' (jrn H jh' (J.did ks ds)::rs.set a (dev H (QL (Qz J.gen J.last J.order J.data ks ds) D))))∨
 (Jp (Qz J.gen J.last J.order J.data ks ds) D=9∧e= .returned (.int .i64 9)∧∃jh':K9,jh'.jb=jb∧St w0 w' (jrn H jh' J.died::rs.set a (dev H (QL (Qz J.gen J.last J.order J.data ks ds) D))))
structure JOk (n:Nat) (J:JSt):Prop where
 len:J.data.length=J.order.length
 few:J.order.length≤60
 home: ∀k∈J.order,k<n
 b512: ∀b∈J.data,b.length=512
 last:J.last+1<18446744073709551616
 gen:J.gen<18446744073709551616
theorem Qgp {w0:Gnd} {w:World} {rs:List Res} {H:Hdl} {jh:K9} {J:JSt} (h:St w0 w (jrn H jh J::rs)) (a iv:Nat) {D:DSt} (hr:rs[a]?=some (dev H D)) {v:Value} {ks:List Nat} {vs:List Value} {ds:List Blk} (hl:rs[iv]?=some (VL v (ks.map fun k:Nat=>(k:Int)) vs ds))
 (hJ:JOk D.n J) (hdead:J.dead=false) (hmay:W5 D.n ks ds) (hd512: ∀d∈ds,d.length=512) (hD:246≤D.n) (hn:D.n≤65536) (ho:D.ops<1000000000) (q:iv≠a):
 Calls prog 251 #[.pointer (some ⟨jh.jb,0,none⟩),v] w (Oh w0 rs a H jh.jb J D ks ds):=by
 obtain ⟨g,last,dead,om,dm⟩:=J;obtain ⟨jb,ov,mb⟩:=jh;obtain rfl:dead=false:=hdead;have h1:St w0 w (arr jb #[.pointer (some ⟨H.b,0,none⟩),.int .u64 g,.int .u64 last,.bool false,ov,.map (some mb)] 219 JF::J4 ov om::chg mb (last%4) dm::rs):=h.jOpen;clear h;have HWR:=hid (Qi2 h1 (a+3) 0 (iv+3) 1 2 hr rfl rfl rfl rfl rfl rfl rfl rfl hl hmay hd512 hJ.len hJ.few hJ.home hJ.b512 hJ.last hJ.gen hD hn ho (by omega) (by omega) (by omega) (by omega));have c0:w.cell? ⟨jb,0,none⟩=some (.pointer (some ⟨H.b,0,none⟩)):=(h1.arrCell (i:=0) rfl 0).trans rfl;have c3:w.cell? ⟨jb,3,none⟩=some (.bool false):=(h1.arrCell (i:=0) rfl 3).trans rfl;obtain ⟨va,vc,rfl⟩:=h1.chgsLen (i:=iv+3) hl;rw [List.length_map] at hl HWR;rw [List.length_map];have hkl:((ks.length:Nat):Int)≤60:=by have:=hmay.few;omega
 have HL:Hid (∀X,(rs.set a X)[iv]?=some (VL (.slice va ks.length vc) (ks.map fun k:Nat=>(k:Int)) vs ds)):=hid fun X=>by rw [List.getElem?_set_ne (Ne.symm q)];exact hl
 have HDL:=hid hmay.len;have H512:=hid hd512;have HLA:=hid hJ.last;obtain ⟨D2,hD2⟩: ∃D2,QL (Qz g last om dm ks ds) D=D2:=⟨_,rfl⟩;have HD2:=hid hD2;obtain ⟨rs2,hrs2⟩: ∃rs2,rs.set a (dev H D2)=rs2:=⟨_,rfl⟩;have HRS:=hid hrs2;have HW2:Hid (Calls prog 302 #[.pointer (some ⟨jb,0,none⟩),.slice va ks.length vc] w fun e w'=>e= .returned (.int .i64 (Jp (Qz g last om dm ks ds) D))∧St w0 w' (arr jb #[.pointer (some ⟨H.b,0,none⟩),.int .u64 g,.int .u64 last,.bool false,ov,.map (some mb)] 219 JF::J4 ov om::chg mb (last%4) dm::rs2)):=hid (HWR.out.mono fun e w' hx=>⟨hx.1,by
  have:=hx.2;simp only [List.set_cons_succ] at this;rw [hD2,hrs2] at this;exact this⟩)
 have HL2:Hid (rs2[iv]?=some (VL (.slice va ks.length vc) (ks.map fun k:Nat=>(k:Int)) vs ds)):=hid (hrs2▸HL.out _);clear h1 hr hl hJ hmay hd512 hD hn ho q HWR HL hD2 hrs2;go_enter func251,ntmps251;go_wp2_with fail;refine HW2.out.mono ?_;clear HW2 c0 c3;rintro e w2 ⟨he,h2⟩;have H2:=hid h2;clear h2;rcases Ym (Qz g last om dm ks ds) D with e0 | e9
 ·rw [e0] at he;subst he;have HE:=hid e0;clear e0;have c2:w2.cell? ⟨jb,2,none⟩=some (.int .u64 last):=(H2.out.arrCell (i:=0) rfl 2).trans rfl;have c4:w2.cell? ⟨jb,4,none⟩=some ov:=(H2.out.arrCell (i:=0) rfl 4).trans rfl;have c5:w2.cell? ⟨jb,5,none⟩=some (.map (some mb)):=(H2.out.arrCell (i:=0) rfl 5).trans rfl;have f2:w2.frozen? ⟨jb,2,none⟩=false:=H2.out.arrFree (i:=0) rfl 2;have f4:w2.frozen? ⟨jb,4,none⟩=false:=H2.out.arrFree (i:=0) rfl 4;have f5:w2.frozen? ⟨jb,5,none⟩=false:=H2.out.arrFree (i:=0) rfl 5;have hjl:jb<w2.heap.size:=lt_of_block (H2.out.get (i:=0) rfl);have hmk:=Qbp;obtain ⟨n,hnn⟩: ∃n,last+1=n:=⟨_,rfl⟩;have hla0:(0:Int)≤(last:Int):=Qk _;have hwn:IntKind.u64.wrap ((last:Int)+1)=(n:Int):=by have:=HLA.out;rw [u64_in (by omega) (by omega)];omega
  have hn64:n<18446744073709551616:=by have:=HLA.out;omega
  have HNN:=hid hnn;have HN64:=hid hn64;have H3:Hid (St w0 ((((w2.setCell ⟨jb,2,none⟩ (.int .u64 n)).setCell ⟨jb,4,none⟩ (.slice none 0 0)).setCell ⟨jb,5,none⟩ (.map (some w2.heap.size))).alloc (.map #[] 0)) (arr jb #[.pointer (some ⟨H.b,0,none⟩),.int .u64 g,.int .u64 n,.bool false,.slice none 0 0,.map (some w2.heap.size)] 219 JF::J4 (.slice none 0 0) []::chg w2.heap.size (n%4) []::rs2)):=hid (by
   have h7:=((((H2.out.setArr 0 rfl 2 (.int .u64 n)).setArr 0 rfl 4 (.slice none 0 0)).setArr 0 rfl 5 (.map (some w2.heap.size))).chgNew (n%4)).rowNil 3 Jj 1;rw [World.size_setCell,World.size_setCell,World.size_setCell] at h7;have h9:=h7.sub ((((List.drop_sublist 2 _).cons_cons _).cons_cons _).cons_cons _);exact h9.perm ((List.Perm.cons _ (List.Perm.swap _ _ _)).trans (List.Perm.swap _ _ _)))
  clear hnn hla0 hn64;go_wp2_with fail;clear c2 c4 c5 f2 f4 f5 hjl hmk hwn;generalize w2.heap.size=m2 at*
  have HSL:Hid (∀W,Calls prog 138 #[.int .u64 n] W fun e w'=>e= .returned (.int .i64 ((n%4:Nat):Int))∧w'=W):=hid fun W=>UR W n (n%4) HN64.out rfl
  obtain ⟨sl,hsl⟩: ∃sl,n%4=sl:=⟨_,rfl⟩;have hsl4:sl<4:=by omega
  rw [hsl] at H3 HSL;have HSS:=hid hsl;clear hsl;go_loopw [6,7,48] (fun _ _ t wr=> ∃(k:Nat) (ov':Value),k≤ks.length∧t= .int .i64 k∧St w0 wr (arr jb #[.pointer (some ⟨H.b,0,none⟩),.int .u64 g,.int .u64 n,.bool false,ov',.map (some m2)] 219 JF::J4 ov' (ks.take k)::chg m2 sl (ds.take k)::rs2)) (fun _ _ t _=>ks.length-(intOf t).toNat)
  case atStart=>exact ⟨0,_,Nat.zero_le _,rfl,H3.out⟩
  case round=>
   clear H3;obtain ⟨k,ov',hk,rfl,hst⟩:=hrel;have HST:=hid hst;clear hst;by_cases hlt:k<ks.length
   ·have hk0:(0:Int)≤(k:Int):=Qk _;have hk1:(k:Int)<(ks.length:Int):=by omega
    obtain ⟨x,hx⟩: ∃x,ks[k]?=some x:=⟨_,List.getElem?_eq_getElem hlt⟩;obtain ⟨gb,u,d,rfl,hgb,hu,hd,c1,c2,hbu⟩:=HST.out.chgsCell (i:=iv+3) HL2.out (j:=k) (k:=(x:Int)) (by rw [List.getElem?_map,hx];rfl);obtain ⟨ub,uo,uc,rfl,_⟩:=hbu.cells;obtain ⟨dl,hdl⟩: ∃m,d.length=m:=⟨_,rfl⟩;have HDD:=hid hd;have HX:=hid hx;have HDLL:=hid hdl;rw [hdl] at c2;have H6:=hid (HST.out.newArr #[.int .i64 x,.slice (some ⟨ub,uo,none⟩) dl uc] 274 VD);have HU:Hid (∀y Y rs',rs'[iv]?=rs2[iv]?→St w0 y (Y++rs')→Qc y (.slice (some ⟨ub,uo,none⟩) dl uc) d Ku):=hid fun y Y rs' he hy=>by
     obtain ⟨I1,I2,I3,I4⟩:=hy.get (i:=Y.length+iv) (by rw [List.getElem?_append_right (by omega),Nat.add_sub_cancel_left,he];exact HL2.out);rw [←HDLL.out];exact I4 k _ d hu HDD.out
    clear hbu hu hd hx hdl;go_upto_region 12 with (fail)
    obtain ⟨w5,hw5⟩: ∃w5,w5=wr.alloc (.cells #[.int .i64 x,.slice (some ⟨ub,uo,none⟩) dl uc] 274 (0,0)):=⟨_,rfl⟩;rw [←hw5] at H6 ⊢;clear hw5 c1 c2 HST;generalize wr.heap.size=bc at*
    go_cut [48] from 49 to 78 (fun t wx=>t= .int .i64 k∧∃ov'',St w0 wx (arr bc #[.int .i64 x,.slice (some ⟨ub,uo,none⟩) dl uc] 274 VD::arr jb #[.pointer (some ⟨H.b,0,none⟩),.int .u64 g,.int .u64 n,.bool false,ov'',.map (some m2)] 219 JF::J4 ov'' (ks.take (k+1))::chg m2 sl (ds.take k)::rs2))
    case first=>
     have c4:w5.cell? ⟨jb,4,none⟩=some ov':=(H6.out.arrCell (i:=1) rfl 4).trans rfl;have cb:w5.cell? ⟨bc,0,none⟩=some (.int .i64 x):=(H6.out.arrCell (i:=0) rfl 0).trans rfl;have hjl:jb<w5.heap.size:=lt_of_block (H6.out.get (i:=1) rfl);have hbl:bc<w5.heap.size:=lt_of_block (H6.out.get (i:=0) rfl);have HLK:Hid ((ks.take k).length=k):=hid (by rw [List.length_take];omega);have HO:=hid (show ((w5.alloc (.cells #[.int .i64 (x:Int)] 3 (0,0))).drew).ownsRow 0 3 1 ov' (ks.take k).length ((ks.take k).map QdI) from World.ownsRow.alloc (H6.out.get (i:=2) rfl) (.cells #[.int .i64 (x:Int)] 3 (0,0)));have HN:Hid (∀(j:Nat) u,([.int .i64 (x:Int)]:List Value)[j]?=some u→((w5.alloc (.cells #[.int .i64 (x:Int)] 3 (0,0))).drew).cell? ((⟨w5.heap.size,0,none⟩:Addr).add j)=some u):=hid (EV w5 _ _);have HC0:Hid (∀u∈([.int .i64 (x:Int)]:List Value),u.oneCell'=true):=hid (by intro u hu;simp at hu;subst hu;rfl);have HC1:Hid ((ks.take k).length+1≤maxLen):=hid (by rw [HLK.out];simp only [maxLen];omega);have HC2:Hid (((ks.take k).length+1)*8≤140737488355328):=hid (by rw [HLK.out];omega);have HTK:Hid (ks.take (k+1)=ks.take k++ [x]):=hid (by
      obtain ⟨h1,h2⟩:=List.getElem?_eq_some_iff.1 HX.out;rw [List.take_succ_eq_append_getElem h1,h2])
     obtain ⟨ii,hi0i,hz0,hz1,hz2⟩:=info_parts Qeg;have HAP:Hid (∀v' w',w'.ownsRow 0 3 1 v' ((ks.take k).length+1) ((ks.take k).map QdI++ [.int .i64 (x:Int)])→((w5.alloc (.cells #[.int .i64 (x:Int)] 3 (0,0))).drew).grownBy w' ov'.ownBlock→(v'.ownBlock=ov'.ownBlock∨v'.ownBlock=some ((w5.alloc (.cells #[.int .i64 (x:Int)] 3 (0,0))).drew).heap.size)→
      (∃va vc,v'= .slice (some ⟨va,0,none⟩) (k+1) vc)∧St w0 w' (arr bc #[.int .i64 x,.slice (some ⟨ub,uo,none⟩) dl uc] 274 VD::arr jb #[.pointer (some ⟨H.b,0,none⟩),.int .u64 g,.int .u64 n,.bool false,ov',.map (some m2)] 219 JF::J4 v' (ks.take (k+1))::chg m2 sl (ds.take k)::rs2)):=hid fun v' w' ho hg hat=>by
      refine ⟨?_,?_⟩
      ·rcases ho.2 with hx | ⟨va,vc,_,hx,_⟩
       ·have:=hx.2;omega
       ·exact ⟨va,vc,by rw [hx,HLK.out]⟩
      ·have h7:=(H6.out.frm0 ((Frm.refl NoB w5).drew)).rowAppend 2 rfl (.cells #[.int .i64 (x:Int)] 3 (0,0)) (m:=(ks.take (k+1)).length) (ys:=(ks.take (k+1)).map QdI) (by rw [HTK.out,List.length_append,List.map_append];exact ho) hg hat;exact h7
     go_region_law (refine Y9 rfl _ _ 64 rfl 0 3 ii (.int .i64 0) 1 8 underlying64 hi0i hz0 hz1 hz2 rfl (by decide) _ _ _ rfl HO.out ⟨w5.heap.size,0,none⟩ 1 1 [.int .i64 (x:Int)] rfl rfl HN.out HC0.out HC1.out HC2.out (Nat.zero_le _) ?_;intro v' w' ho hg hat;obtain ⟨⟨vg,vcc,rfl⟩,h7⟩:=HAP.out v' w' ho hg hat;clear ho hg hat;have c7:w'.cell? ⟨jb,4,none⟩=some ov':=(h7.arrCell (i:=1) rfl 4).trans rfl;have f7:w'.frozen? ⟨jb,4,none⟩=false:=h7.arrFree (i:=1) rfl 4)
     all_goals
      have H8:=hid (h7.setArr 1 rfl 4 (.slice (some ⟨vg,0,none⟩) (k+1) vcc));clear h7 c7 f7 c4 cb;go_wp2_with fail;go_meet
      first | exact ⟨rfl,_,H8.out⟩ | (case rel=>exact ⟨rfl,_,H8.out⟩)
    case rest=>
     obtain ⟨rfl,ov2,hst⟩:=hcut;have H7:=hid hst;clear hst H6;have HTD:Hid (ds.take (k+1)=ds.take k++ [d]):=hid (by
      obtain ⟨h1,h2⟩:=List.getElem?_eq_some_iff.1 HDD.out;rw [List.take_succ_eq_append_getElem h1,h2])
     have HKL:Hid (k=(ds.take k).length):=hid (by rw [List.length_take,HDL.out];omega);have KA:Hid (∀y,Frm NoB wc y→y.cell? ⟨jb,5,none⟩=some (.map (some m2))∧y.cell? ⟨jb,2,none⟩=some (.int .u64 n)∧y.cell? ⟨bc,1,none⟩=some (.slice (some ⟨ub,uo,none⟩) dl uc)):=hid fun y hy=>
      ⟨((H7.out.frm0 hy).arrCell (i:=1) rfl 5).trans rfl,((H7.out.frm0 hy).arrCell (i:=1) rfl 2).trans rfl,((H7.out.frm0 hy).arrCell (i:=0) rfl 1).trans rfl⟩
     have KB:Hid (∀y u1 u2,St w0 y (u1::arr bc #[.int .i64 x,.slice (some ⟨ub,uo,none⟩) dl uc] 274 VD::arr jb #[.pointer (some ⟨H.b,0,none⟩),.int .u64 g,.int .u64 n,.bool false,ov2,.map (some m2)] 219 JF::u2)→y.cell? ⟨jb,5,none⟩=some (.map (some m2))∧y.cell? ⟨jb,2,none⟩=some (.int .u64 n)∧y.cell? ⟨bc,1,none⟩=some (.slice (some ⟨ub,uo,none⟩) dl uc)):=hid fun y u1 u2 hy=>
      ⟨(hy.arrCell (i:=2) rfl 5).trans rfl,(hy.arrCell (i:=2) rfl 2).trans rfl,(hy.arrCell (i:=1) rfl 1).trans rfl⟩
     obtain ⟨c1,c2,c3⟩:=KA.out wc (Frm.refl _ _);have HCL:Hid (∀W,Frm NoB wc W→Calls prog 146 #[.slice (some ⟨ub,uo,none⟩) dl uc] W fun e w'=> ∃vb vo vc2 o2,e= .returned (.slice (some ⟨vb,vo,none⟩) 512 vc2)∧(Instr.mapUpdate 217 (.map (some m2)) (.agg #[.int .i64 sl,.int .i64 k]) (.slice (some ⟨vb,vo,none⟩) 512 vc2)).run prog w'= .ok () (setBlock w' m2 o2)∧Frm NoB wc w'∧
      St w0 (setBlock w' m2 o2) (byt (.slice (some ⟨vb,vo,none⟩) 512 vc2) d::arr bc #[.int .i64 x,.slice (some ⟨ub,uo,none⟩) dl uc] 274 VD::arr jb #[.pointer (some ⟨H.b,0,none⟩),.int .u64 g,.int .u64 n,.bool false,ov2,.map (some m2)] 219 JF::J4 ov2 (ks.take (k+1))::chg m2 sl (ds.take (k+1))::rs2)):=hid fun W hW=>by
      have hst:=H7.out.frm0 hW;have hb:=HU.out W [arr bc #[.int .i64 x,.slice (some ⟨ub,uo,none⟩) dl uc] 274 VD,arr jb #[.pointer (some ⟨H.b,0,none⟩),.int .u64 g,.int .u64 n,.bool false,ov2,.map (some m2)] 219 JF,J4 ov2 (ks.take (k+1)),chg m2 sl (ds.take k)] rs2 rfl hst;have h512:d.length=512:=H512.out d (List.mem_of_getElem? HDD.out);refine (Vn W _ d Ku hb (by omega)).mono ?_;rintro e w' ⟨hf,v',he,hb'⟩;obtain ⟨vb,vo,vc2,rfl,_⟩:=hb'.cells;rw [h512] at he hb';have h8:=hst.mkByt hf hb';obtain ⟨o2,q2,h9⟩:=h8.chgPut 4 rfl _ d (hb'.off hst.zin) (by have:=HKL.out;omega) (by omega) k HKL.out;rw [←HTD.out] at h9;exact ⟨vb,vo,vc2,o2,he,q2,hW.trans hf (fun _ _ e=>e),h9⟩
     clear HU;go_wp2_with fail;go_region_held3 (fun y=>y.cell? ⟨jb,5,none⟩=some (.map (some m2))∧y.cell? ⟨jb,2,none⟩=some (.int .u64 n)∧y.cell? ⟨bc,1,none⟩=some (.slice (some ⟨ub,uo,none⟩) dl uc))
      (first | exact hS9 | (refine KA.out _ ?_;first | assumption | exact (Frm.refl NoB wc).drew | exact ⟨rfl,rfl,rfl,Nat.le_refl _,fun _ _ _=>rfl⟩))
      (first
       | (go_at_call 138;refine (HSL.out _).mono ?_;rintro e w6 ⟨rfl,rfl⟩)
       | (go_at_call 146;refine (HCL.out _ (by first | exact (Frm.refl NoB wc).drew | exact Frm.refl _ _)).mono ?_;rintro e w7 ⟨vb,vo,vc2,o2,rfl,q2,hF7,h9⟩;have hS9:=KB.out _ _ _ h9))
     all_goals
      have H9:=hid (h9.drop 2);clear h9 hS9 q2 hF7 c1 c2 c3;go_wp2
      first | exact ⟨⟨k+1,_,hlt,by go_num,H9.out⟩,by simp [intOf];omega⟩ | (go_roundw;case rel=>first | exact ⟨k+1,_,hlt,by go_num,H9.out⟩ | ((repeat apply Exists.intro);exact ⟨⟨k+1,_,hlt,by go_num,H9.out⟩,rfl⟩);case measure=>simp [intOf];omega)
   ·have hk1: ¬(k:Int)<(ks.length:Int):=by omega
    have HKK:Hid (k=ks.length):=hid (by omega);go_wp2;go_ret;refine .inl ⟨HE.out,rfl,⟨jb,ov',m2⟩,rfl,?_⟩;rw [show QL (Qz g last om dm ks ds) D=D2 from HD2.out,HRS.out];refine St.jShut ?_;have h9:=HST.out;rw [HKK.out,List.take_length,←HDL.out,List.take_length,←HSS.out,←HNN.out] at h9;exact h9
 ·rw [e9] at he;subst he;have HE:=hid e9;have c3:w2.cell? ⟨jb,3,none⟩=some (.bool false):=(H2.out.arrCell (i:=0) rfl 3).trans rfl;have f3:w2.frozen? ⟨jb,3,none⟩=false:=H2.out.arrFree (i:=0) rfl 3;have H3:=hid (H2.out.setArr 0 rfl 3 (.bool true));clear e9;go_wp2;go_ret;refine .inr ⟨HE.out,rfl,⟨jb,ov,mb⟩,rfl,?_⟩;rw [show QL (Qz g last om dm ks ds) D=D2 from HD2.out,HRS.out];exact St.jShut H3.out
theorem QaR (n:Nat) (ks:List Int) (ds:List Blk): ∀j,Ul n ks ds j=true↔∀i,i<j→UB n ks ds i=true
 | 0=>⟨fun _ i h=>by omega,fun _=>rfl⟩
 | j+1=>by
   unfold Ul;rw [Bool.and_eq_true,QaR n ks ds j];constructor
   ·rintro ⟨h1,h2⟩ i hi;rcases Nat.lt_or_eq_of_le (Nat.le_of_lt_succ hi) with h | h
    ·exact h1 i h
    ·rw [h];exact h2
   ·exact fun h=>⟨fun i hi=>h i (by omega),h j (by omega)⟩
theorem Qj2 {n:Nat} {ks:List Nat} {ds:List Blk} (h:W5 n ks ds) (hd: ∀d∈ds,d.length=512):WB n (ks.map fun k:Nat=>(k:Int)) ds=0:=by
 unfold WB;have hm:Ul n (ks.map fun k:Nat=>(k:Int)) ds (ks.map fun k:Nat=>(k:Int)).length=true:=(QaR _ _ _ _).2 fun i hi=>by
  rw [List.length_map] at hi;have hki:ks[i]?=some ks[i]:=List.getElem?_eq_getElem hi;have hdi:ds[i]?=some (ds[i]'(by rw [h.len];exact hi)):=List.getElem?_eq_getElem _;have hho:=h.home _ (List.getElem_mem hi);unfold UB;rw [List.getD_eq_getElem?_getD,List.getElem?_map,hki,List.getD_eq_getElem?_getD,hdi];simp only [Option.map_some,Option.getD_some,Bool.and_eq_true,decide_eq_true_eq];refine ⟨⟨⟨by omega,by omega⟩,?_⟩,by simpa using hd _ (List.mem_of_getElem? hdi)⟩;rw [Bool.not_eq_true',←Bool.not_eq_true,List.contains_iff_mem];intro hm;obtain ⟨j,hj⟩:=List.getElem?_of_mem hm;rw [List.getElem?_take] at hj;split at hj
  ·rename_i hji
   rw [List.getElem?_map,List.getElem?_eq_getElem (by omega)] at hj;simp only [Option.map_some,Option.some.injEq] at hj;have hp:=List.pairwise_iff_getElem.1 (List.nodup_iff_pairwise_ne.1 h.nodup) j i (by omega) hi hji;exact hp (by omega)
  ·cases hj
 rw [if_pos hm,if_neg (by rw [List.length_map];have:=h.few;omega)]
section
variable {w0:Gnd} {w:World} {rs:List Res} {H:Hdl} {jh:K9} {J:JSt}
theorem Qkq (h:St w0 w (jrn H jh J::rs)) (a:Nat) {D:DSt} (hr:rs[a]?=some (dev H D)) (hJ:JOk D.n J) (ho:D.ops<1000000000) (k:Int) (hk0:245≤k) (hk1:k<(D.n:Int)):
 Calls prog 64 #[.pointer (some ⟨jh.jb,0,none⟩),.int .i64 k] w fun e w'=> ∃v,e= .returned (.tuple #[v,.int .i64 0])∧Frm NoB w w'∧Qc w' v (VZ J D k.toNat) (QR w):=
 QcB h.jOpen (a+3) 0 1 2 hr rfl rfl rfl rfl rfl rfl rfl rfl (by have:=hJ.last;omega) hJ.len hJ.few hJ.b512 ho k hk0 hk1
theorem Qjy (h:St w0 w (jrn H jh J::rs)) (a:Nat) {D:DSt} (hr:rs[a]?=some (dev H D)) (hJ:JOk D.n J) (ho:D.ops<1000000000) (k:Int) (hk0:245≤k) (hk1:k<(D.n:Int)):
 Calls prog 64 #[.pointer (some ⟨jh.jb,0,none⟩),.int .i64 k] w fun e w'=> ∃v,e= .returned (.tuple #[v,.int .i64 0])∧St w0 w' (byt v (VZ J D k.toNat)::jrn H jh J::rs):=by
 refine (Qip h.jOpen (a+3) 0 1 2 hr rfl rfl rfl rfl rfl rfl rfl rfl (by have:=hJ.last;omega) hJ.len hJ.few hJ.b512 ho k hk0 hk1).mono ?_;rintro e w' ⟨v,he,h2⟩;refine ⟨v,he,?_⟩;have h3:=h2.perm ((List.perm_append_comm (l₁:= [byt v (QH J.order J.data D.last k.toNat)]) (l₂:= [arr jh.jb (Ol H jh J) 219 JF,J4 jh.ov J.order,chg jh.mb (J.last%4) J.data])).append_right rs);exact (St.jShut h3).swap
theorem St.noChgs (h:St w0 w rs):St w0 w (VL (.slice none 0 0) [] [] []::rs):=
 h.make (Frm.refl _ _) (VL (.slice none 0 0) [] [] []) ⟨World.ownsRow_nil _ _ _ _,rfl,rfl,fun i u b hu _=>by simp at hu⟩ (fun _ hx=>by cases hx)
theorem QgB (h:St w0 w (jrn H jh J::rs)) (a iv:Nat) {D:DSt} (hr:rs[a]?=some (dev H D)) {v:Value} {ks:List Int} {vs:List Value} {ds:List Blk} (hl:rs[iv]?=some (VL v ks vs ds)) (hok: ∀k∈ks,okI k) (hlen:ks.length≤1000000) (hd: ∀d∈ds,d.length≤1000000):
 Calls prog 250 #[.pointer (some ⟨jh.jb,0,none⟩),v] w fun e w'=>e= .returned (.int .i64 (WB D.n ks ds))∧St w0 w' (jrn H jh J::rs):=
 (QkD h.jOpen (a+3) 0 (iv+3) hr rfl rfl hl hok hlen hd).mono fun _ _ ⟨h1,h2⟩=>⟨h1,h2.jShut⟩
theorem QbE (h:St w0 w (jrn H jh J::rs)) (a iv:Nat) {D:DSt} (hr:rs[a]?=some (dev H D)) {v:Value} (hl:rs[iv]?=some (VL v [] [] [])):
 Calls prog 187 #[.pointer (some ⟨jh.jb,0,none⟩),v] w fun e w'=>e= .returned (.int .i64 0)∧St w0 w' (jrn H jh J::rs):=by
 obtain ⟨va,vc,rfl⟩:=h.chgsLen (i:=iv+1) hl;have HM:=hid (QgB h a iv hr hl (fun _ h=>by cases h) (by simp) (fun _ h=>by cases h));rw [show WB D.n [] []=0 from rfl] at HM;clear h hr hl;simp only [List.length_nil] at HM ⊢;go_enter func187,ntmps187;go_wp2_with fail;refine HM.out.mono ?_;clear HM;rintro e w2 ⟨rfl,h2⟩;have H2:=hid h2;clear h2;go_wp2;go_ret;exact ⟨rfl,H2.out⟩
theorem QgZ (h:St w0 w (jrn H jh J::rs)) (a iv:Nat) {D:DSt} (hr:rs[a]?=some (dev H D)) {v:Value} {ks:List Nat} {vs:List Value} {ds:List Blk} (hl:rs[iv]?=some (VL v (ks.map fun k:Nat=>(k:Int)) vs ds))
 (hJ:JOk D.n J) (hdead:J.dead=false) (hmay:W5 D.n ks ds) (hd512: ∀d∈ds,d.length=512) (hD:246≤D.n) (hn:D.n≤65536) (ho:D.ops<1000000000) (hne:ks≠ []) (q:iv≠a):
 Calls prog 187 #[.pointer (some ⟨jh.jb,0,none⟩),v] w (Oh w0 rs a H jh.jb J D ks ds):=by
 obtain ⟨va,vc,rfl⟩:=h.chgsLen (i:=iv+1) hl;have HM:=hid (QgB h a iv hr hl (fun k hk=>by
  obtain ⟨x,hx,rfl⟩:=List.mem_map.1 hk;have:=hmay.home x hx;exact (Yx _).2 (by omega)) (by rw [List.length_map];have:=hmay.few;omega) (fun d hd=>by have:=hd512 d hd;omega))
 rw [Qj2 hmay hd512] at HM;have HC:Hid (∀W,St w0 W (jrn H jh J::rs)→Calls prog 251 #[.pointer (some ⟨jh.jb,0,none⟩),.slice va (ks.map fun k:Nat=>(k:Int)).length vc] W (Oh w0 rs a H jh.jb J D ks ds)):=hid fun W hW=>Qgp hW a iv hr hl hJ hdead hmay hd512 hD hn ho q
 obtain ⟨m,hm⟩: ∃m,(ks.map fun k:Nat=>(k:Int)).length=m:=⟨_,rfl⟩;rw [hm] at HM HC ⊢;have hb:((m:Int)==0)=false:=by
  rw [List.length_map] at hm;have:ks.length≠0:=fun e=>hne (List.eq_nil_of_length_eq_zero e)
  rw [beq_eq_false_iff_ne];omega
 clear h hr hl hJ hdead hmay hd512 hD hn ho hne q hm;go_enter func187,ntmps187;go_wp2_with fail;refine HM.out.mono ?_;clear HM;rintro e w2 ⟨rfl,h2⟩;have H2:=hid h2;clear h2;go_wp2_with fail;refine (HC.out _ H2.out).mono ?_;clear HC;rintro e w3 (⟨h1,rfl,jh',hjb,h3⟩ | ⟨h1,rfl,jh',hjb,h3⟩)
 ·have H1:=hid h1;have H3:=hid h3;have HJB:=hid hjb;clear h1 h3 hjb;go_wp2;go_ret;exact .inl ⟨H1.out,rfl,jh',HJB.out,H3.out⟩
 ·have H1:=hid h1;have H3:=hid h3;have HJB:=hid hjb;clear h1 h3 hjb;go_wp2;go_ret;exact .inr ⟨H1.out,rfl,jh',HJB.out,H3.out⟩
end
structure Live (n g m:Nat) (J:JSt) (D:DSt) (s:Nat→Blk):Prop where
 wf:D.Wf
 dn:D.n=n
 clean: ∀k,D.pend k= []
 gen:J.gen=g
 last:J.last≤m
 alive:J.dead=false
 disk: ∃o dt,Q2 n g J.last o dt s D.base∧Qje o dt D.base J.order J.data
theorem Live.ok {n g m:Nat} {J:JSt} {D:DSt} {s:Nat→Blk} (h:Live n g m J D s) (hg:g<18446744073709551616) (hm:m<18446744073709551615):JOk D.n J:=by
 obtain ⟨o,dt,hT,hK⟩:=h.disk;have hd:=hT.1.dt512 (fun k=>h.wf.base k);have hl:=h.last;rcases hK with ⟨e1,e2⟩ | ⟨e1,e2,_⟩
 ·exact ⟨by rw [e1,e2];exact hT.1.len,by rw [e1];exact hT.1.few,fun k hk=>by rw [e1] at hk;rw [h.dn];exact (hT.1.homes k hk).2,by rw [e2];exact hd,by omega,by rw [h.gen];exact hg⟩
 ·exact ⟨by rw [e1,e2];rfl,by rw [e1];exact Nat.zero_le _,fun k hk=>by rw [e1] at hk;(cases hk),fun b hb=>by rw [e2] at hb;(cases hb),by omega,by rw [h.gen];exact hg⟩
theorem Live.view {n g m:Nat} {J:JSt} {D:DSt} {s:Nat→Blk} (h:Live n g m J D s) (k:Nat) (h1:245≤k) (h2:k<n):VZ J D k=s k:=by
 obtain ⟨o,dt,hT,hK⟩:=h.disk;unfold VZ;rw [JQ h.clean];rcases hK with ⟨e1,e2⟩ | ⟨e1,e2,hs⟩
 ·rw [e1,e2];exact hT.2 k h1 h2
 ·rw [e1,e2,←hT.2 k h1 h2,EJ hT.1.len hT.1.nodup hs];unfold QH;rfl
theorem Live.tells {n g m:Nat} {J:JSt} {D:DSt} {s:Nat→Blk} (h:Live n g m J D s):OI n g m s D.base:=by
 obtain ⟨o,dt,hT,_⟩:=h.disk;exact ⟨_,o,dt,h.last,hT⟩
theorem Live.mono {n g m m':Nat} {J:JSt} {D:DSt} {s:Nat→Blk} (h:Live n g m J D s) (hm:m≤m'):Live n g m' J D s:=
 ⟨h.wf,h.dn,h.clean,h.gen,Nat.le_trans h.last hm,h.alive,h.disk⟩
theorem Live.congr {n g m:Nat} {J:JSt} {D:DSt} {s t:Nat→Blk} (h:Live n g m J D s) (hs: ∀k,245≤k→k<n→s k=t k):Live n g m J D t:=by
 obtain ⟨o,dt,hT,hK⟩:=h.disk;exact ⟨h.wf,h.dn,h.clean,h.gen,h.last,h.alive,o,dt,⟨hT.1,fun k h1 h2=>(hT.2 k h1 h2).trans (hs k h1 h2)⟩,hK⟩
theorem wOk {n g m:Nat} {J:JSt} {D:DSt} {s:Nat→Blk} (h:Live n g m J D s) {ks:List Nat} {ds:List Blk} (hl:W5 n ks ds) (hd: ∀d∈ds,d.length=512) (hn:246≤n) (hg:g<18446744073709551616) (hm:m<18446744073709551615):
 ∀op∈Qz J.gen J.last J.order J.data ks ds,op.ok D.n:=by
 intro op hop;have hJ:=h.ok hg hm;unfold Qz at hop;cases op with
 | fl=>trivial
 | wr k b=>
   rcases List.mem_append.1 hop with hop | hop
   ·rcases List.mem_append.1 hop with hop | hop
    ·rcases List.mem_append.1 hop with hop | hop
     ·obtain ⟨i,h1,h2⟩:=Ys _ _ _ _ hop;exact ⟨hJ.home k (List.mem_of_getElem? h1),hJ.b512 b (List.mem_of_getElem? h2)⟩
     ·obtain ⟨j,h1,h2⟩:=K5 _ _ _ _ _ hop;have hj:=(List.getElem?_eq_some_iff.1 h2).1;have h60:=hl.few;have h61:=hl.len;refine ⟨?_,hd b (List.mem_of_getElem? h2)⟩;rw [h1,h.dn];unfold Qp;have:(J.last+1)%4<4:=Nat.mod_lt _ (by omega);omega
    ·simp at hop
   ·simp at hop;obtain ⟨rfl,rfl⟩:=hop;refine ⟨?_,ER _ _ _ hl.few⟩;rw [h.dn];unfold Qp;have:(J.last+1)%4<4:=Nat.mod_lt _ (by omega);omega
theorem OO (g last:Nat) (om:List Nat) (dm:List Blk) (ks:List Nat) (ds:List Blk) (h:dm.length=om.length):(Qz g last om dm ks ds).length=om.length+ds.length+3:=by
 unfold Qz;simp only [List.length_append,Jo _ _ h,Jk,List.length_cons,List.length_nil]
structure Qkr (n g m:Nat) (s t:Nat→Blk) (D D':DSt):Prop where
 wf:D'.Wf
 dn:D'.n=n
 ops:D'.ops≤D.ops+123
 safe:Safe D' (fun C=>OI n g m s C∨OI n g m t C)
theorem Live.commit {n g m:Nat} {J:JSt} {D:DSt} {s:Nat→Blk} (h:Live n g m J D s) {ks:List Nat} {ds:List Blk} (hl:W5 n ks ds) (hd: ∀d∈ds,d.length=512) (h246:246≤n) (hn:n≤65536) (hg:g<18446744073709551616) (hm:m<18446744073709551615):
 Qkr n g (m+1) s (QH ks ds s) D (QL (Qz J.gen J.last J.order J.data ks ds) D)∧
 (Jp (Qz J.gen J.last J.order J.data ks ds) D=0→Live n g (m+1) (J.did ks ds) (QL (Qz J.gen J.last J.order J.data ks ds) D) (QH ks ds s)):=by
 obtain ⟨o,dt,hT,hK⟩:=h.disk;have hJ:=h.ok hg hm;have hlast:=h.last;have hcs:=Qc2 h.clean hT hK hl hn hg (by omega);have hw:(QL (Qz J.gen J.last J.order J.data ks ds) D).Wf:=Qbv _ _ h.wf (wOk h hl hd h246 hg hm);have hops:=Ko (Qz J.gen J.last J.order J.data ks ds) D;rw [OO _ _ _ _ _ _ hJ.len] at hops;have hf:=hJ.few;have hf2:=hl.few;have hf3:=hl.len;have hge:=h.gen;rw [hge] at hw hops ⊢;refine ⟨⟨hw,(Ea _ _).trans h.dn,by omega,hcs.1.mono fun C hC=>?_⟩,fun h0=>?_⟩
 ·rcases hC with hC | hC
  ·exact .inl ⟨_,o,dt,by omega,hC⟩
  ·exact .inr ⟨_,ks,ds,by omega,hC⟩
 ·obtain ⟨c1,c2⟩:=hcs.2 h0;exact ⟨hw,(Ea _ _).trans h.dn,c1,hge,Nat.succ_le_succ hlast,rfl,ks,ds,c2,.inl ⟨rfl,rfl⟩⟩
theorem oOk {n g last:Nat} {o:List Nat} {dt:List Blk} {D:DSt} (hw:D.Wf) (hn:D.n=n) (h:YM n g D.base last o dt): ∀op∈QK o dt,op.ok D.n:=by
 intro op hop;unfold QK at hop;cases op with
 | fl=>trivial
 | wr k b=>
   rcases List.mem_append.1 hop with hop | hop
   ·obtain ⟨i,h1,h2⟩:=Ys _ _ _ _ hop;exact ⟨by rw [hn];exact (h.homes k (List.mem_of_getElem? h1)).2,h.dt512 (fun k=>hw.base k) b (List.mem_of_getElem? h2)⟩
   ·simp at hop
theorem OI.opens {n g m:Nat} {D:DSt} {s:Nat→Blk} (hw:D.Wf) (hn:D.n=n) (hp: ∀k,D.pend k= []) (h:OI n g m s D.base): ∃last o dt,last≤m∧YM D.n g D.last last o dt∧
 (QL (QK o dt) D).Wf∧(QL (QK o dt) D).n=n∧(QL (QK o dt) D).ops≤D.ops+61∧Safe (QL (QK o dt) D) (OI n g m s)∧
 (Jp (QK o dt) D=0→Live n g m ⟨g,last,false,[],[]⟩ (QL (QK o dt) D) s):=by
 obtain ⟨last,o,dt,hl,hd,hs⟩:=h;have hT:Q2 n g last o dt s D.base:=⟨hd,hs⟩;have hS:Safe D (Q2 n g last o dt s):=Safe.clean hp hT;have hwf:=Qbv _ _ hw (oOk hw hn hd);have hops:=Ko (QK o dt) D;have hlen:(QK o dt).length=o.length+1:=by unfold QK;rw [List.length_append,Jo _ _ hd.len];rfl
 have hfew:=hd.few;refine ⟨last,o,dt,hl,by rw [hn,JQ hp];exact hd,hwf,(Ea _ _).trans hn,by omega,(Em hS).mono fun C hC=>⟨last,o,dt,hl,hC⟩,fun h0=>?_⟩;obtain ⟨c1,c2,c3⟩:=Qa3 (by rw [JQ hp];exact hT) hS h0;exact ⟨hwf,(Ea _ _).trans hn,c1,rfl,hl,rfl,o,dt,c2,.inr ⟨rfl,rfl,c3⟩⟩
theorem QfD (n:Nat) (hn:246≤n) (hn2:n≤65536):OI n 1 0 (fun _=>Qs) (YB (DSt.new n) 0 7).base∧(∀k,(YB (DSt.new n) 0 7).pend k= [])∧(YB (DSt.new n) 0 7).Wf:=by
 have hlast: ∀i k,k≠0→(YB (DSt.new n) 0 i).last k=Qs:=by
  intro i
  induction i with
  | zero=>intro k _;rfl
  | succ i ih=>
    intro k hk;show (VW 0 i (YB (DSt.new n) 0 i)).last k=Qs;unfold VW;split
    ·by_cases e:k=1+61*i
     ·subst e;exact V4 _ _ _
     ·rw [Vx _ _ e];exact ih k hk
    ·split
     ·rw [Vx _ _ hk];exact ih k hk
     ·exact ih k hk
 have hwf: ∀i,(YB (DSt.new n) 0 i).Wf:=by
  intro i
  induction i with
  | zero=>exact DSt.new_wf (by omega) hn2
  | succ i ih=>
    have hno:=(OY (DSt.new n) 0 rfl i).1;have hnn:(YB (DSt.new n) 0 i).n=n:=hno;show (VW 0 i (YB (DSt.new n) 0 i)).Wf;unfold VW;split
    ·exact Qbt (o:= .wr (1+61*i) Qs) ih ⟨by rw [hnn];omega,Q6⟩
    ·split
     ·exact Qbt (o:= .wr 0 (laidB YW [0+1])) ih ⟨by rw [hnn];omega,JY _ _ _ (Jh _ (by decide)) (by simp)⟩
     ·exact Qbt (o:= .fl) ih trivial
 have hpend: ∀k,(YB (DSt.new n) 0 7).pend k= []:=fun k=>Qfz _ _ k
 have hb:(YB (DSt.new n) 0 7).base=(YB (DSt.new n) 0 7).last:=(JQ hpend).symm;have hz:Yv 1 Qs=false:=by unfold Yv;rfl
 refine ⟨⟨0,[],[],Nat.zero_le _,⟨?_,?_,fun i hi hok=>?_,.inl ⟨rfl,rfl,rfl⟩,fun k hk=>by (cases hk),List.nodup_nil⟩,fun k h1 h2=>?_⟩,hpend,hwf 7⟩
 ·rw [hb,Wo];exact QdV 0
 ·rw [hb,Wo];exact Qhk 0 (by omega)
 ·rw [hb,hlast 7 (Qp i) (by unfold Qp;omega),hz] at hok;cases hok
 ·unfold QH;rw [hb];exact hlast 7 k (by omega)
theorem QeR {w0:Gnd} {w:World} {rs:List Res} (h:St w0 w rs) (a:Nat) {H:Hdl} {D:DSt} (hr:rs[a]?=some (dev H D)) {n g m:Nat} {s:Nat→Blk} (hw:D.Wf) (hn:D.n=n) (hp: ∀k,D.pend k= []) (hT:OI n g m s D.base) (h246:246≤n) (hm:m<18446744073709551615) (hg:g<18446744073709551616)
 (ho:D.ops<1000000000) (hlim:D.lim=none):
 Calls prog 63 #[.pointer (some ⟨H.b,0,none⟩)] w fun e w'=> ∃jh J' D',e= .returned (.tuple #[.pointer (some ⟨jh.jb,0,none⟩),.int .i64 0])∧St w0 w' (jrn H jh J'::rs.set a (dev H D'))∧Live n g m J' D' s∧D'.lim=none∧D'.ops≤D.ops+61:=by
 obtain ⟨last,o,dt,hl,hd,a1,a2,a3,a4,a5⟩:=hT.opens hw hn hp;refine (Qkm h a hr hd (by omega) (by omega) hg ho).mono ?_;have hno:=E5 (QK o dt) D hlim;rintro e w' (⟨h0,jh,he,hst⟩ | ⟨h9,_⟩)
 ·exact ⟨jh,_,_,he,hst,a5 h0,hno.2,a3⟩
 ·rw [hno.1] at h9;cases h9
theorem Qfo {w0:Gnd} {w:World} {rs:List Res} {H:Hdl} {jh:K9} {J:JSt} (h:St w0 w (jrn H jh J::rs)) (a iv:Nat) {D:DSt} (hr:rs[a]?=some (dev H D)) {v:Value} {ks:List Nat} {vs:List Value} {ds:List Blk} (hl:rs[iv]?=some (VL v (ks.map fun k:Nat=>(k:Int)) vs ds))
 {n g m:Nat} {s:Nat→Blk} (hL:Live n g m J D s) (hmay:W5 n ks ds) (hd512: ∀d∈ds,d.length=512) (h246:246≤n) (hn:n≤65536) (hm:m<18446744073709551615) (hg:g<18446744073709551616) (ho:D.ops<1000000000) (hlim:D.lim=none) (q:iv≠a):
 Calls prog 187 #[.pointer (some ⟨jh.jb,0,none⟩),v] w fun e w'=> ∃jh' J' D',jh'.jb=jh.jb∧e= .returned (.int .i64 0)∧St w0 w' (jrn H jh' J'::rs.set a (dev H D'))∧Live n g (m+1) J' D' (QH ks ds s)∧D'.lim=none∧D'.ops≤D.ops+123:=by
 have hdn:=hL.dn;by_cases hk:ks= []
 ·subst hk;have hds:ds= []:=List.eq_nil_of_length_eq_zero hmay.len;subst hds;have hvs:vs= []:=by
   have:=(h.get (i:=iv+1) hl).2.1;exact List.eq_nil_of_length_eq_zero (by simpa using this)
  subst hvs;refine (QbE h a iv hr hl).mono ?_;rintro e w' ⟨he,hst⟩;refine ⟨jh,J,D,rfl,he,?_,(hL.mono (Nat.le_succ m)).congr (fun k _ _=>by unfold QH;rfl),hlim,by omega⟩;have e1:rs.set a (dev H D)=rs:=by
   obtain ⟨h1,h2⟩:=List.getElem?_eq_some_iff.1 hr;rw [←h2];exact List.set_getElem_self h1
  rw [e1];exact hst
 ·obtain ⟨hA,hB⟩:=hL.commit hmay hd512 h246 hn hg hm;have hno:=E5 (Qz J.gen J.last J.order J.data ks ds) D hlim;refine (QgZ h a iv hr hl (hL.ok hg hm) hL.alive (by rw [hdn];exact hmay) hd512 (by omega) (by omega) ho hk q).mono ?_;rintro e w' (⟨h0,he,jh',hjb,hst⟩ | ⟨h9,_⟩)
  ·exact ⟨jh',_,_,hjb,he,hst,hB h0,hno.2,hA.ops⟩
  ·rw [hno.1] at h9;cases h9
theorem QiM:(prog.info? 274).map (fun i=>(i.zero,i.size,i.bytes))=some (some (.agg #[.int .i64 0,.slice none 0 0]),2,32):=by kernel_rfl
theorem St.chgsAppend {w0:Gnd} {w:World} {rs:List Res} (h:St w0 w rs) (i j:Nat) {v:Value} {ks:List Int} {vs:List Value} {ds:List Blk} (hr:rs[i]?=some (VL v ks vs ds)) {u:Value} {d:Blk} (hv:rs[j]?=some (byt u d)) (k:Int) (o:Obj) {v':Value} {w':World} {news:List Value}
 (hnews:news= [.int .i64 k,u]) (ho:w'.ownsRow 0 274 2 v' (ks.length+1) (flat ks vs++news)) (hg:(w.alloc o).grownBy w' v.ownBlock) (hat:v'.ownBlock=v.ownBlock∨v'.ownBlock=some (w.alloc o).heap.size):
 St w0 w' (rs.set i (VL v' (ks++ [k]) (vs++ [u]) (ds++ [d]))):=by
 subst hnews;obtain ⟨I1,I2,I3,I4⟩:=h.get hr;have hb:=h.get hv;have hf:Frm (VL v ks vs ds).M w w':=((Frm.refl _ w).alloc o).trans (Frm.ofGrown hg) (fun y _ e=>e);have hdry:=(VL v ks vs ds).dry _ w (h.get hr);have hkeep: ∀u' b',Qc w u' b' Ku→Qc w' u' b' Ku:=fun u' b' hu'=>hu'.frmZ hf (fun x _ hx=>hdry x hx)
 refine h.write i hr hf (VL v' (ks++ [k]) (vs++ [u]) (ds++ [d])) ⟨?_,by simp [I2],by simp [I3],fun q x b hx hb'=>?_⟩ (fun x hx=>?_)
 ·rw [List.length_append,List.length_singleton,QaS _ _ _ _ I2];exact ho
 ·rcases Nat.lt_trichotomy q vs.length with hq | hq | hq
  ·rw [List.getElem?_append_left hq] at hx;rw [List.getElem?_append_left (by omega)] at hb';exact hkeep _ _ (I4 q x b hx hb')
  ·subst hq;rw [List.getElem?_append_right (Nat.le_refl _),Nat.sub_self] at hx;rw [show vs.length=ds.length from by omega,List.getElem?_append_right (Nat.le_refl _),Nat.sub_self] at hb';simp at hx hb';subst hx hb';exact hkeep _ _ hb
  ·rw [List.getElem?_eq_none (by simp;omega)] at hx;cases hx
 ·rcases hat with e | e
  ·exact .inl (show v.ownBlock=some x from e▸(show v'.ownBlock=some x from hx))
  ·have hx:v'.ownBlock=some x:=hx;rw [e] at hx;have e':(w.alloc o).heap.size=x:=by injection hx
   have:=((Frm.refl NoB w).alloc o).size;exact .inr (by omega)
theorem Qen (w:World) (x y:Value) (t:TypeId) (j:Nat) (u:Value) (h:([x,y]:List Value)[j]?=some u):(w.alloc (.cells #[x,y] t (0,0))).cell? ((⟨w.heap.size,0,none⟩:Addr).add j)=some u:=by
 have e:((⟨w.heap.size,0,none⟩:Addr).add j)=⟨w.heap.size,j,none⟩:=by unfold Addr.add;split<;>simp_all
 rw [e,Qa (Qb _ _),←Array.getElem?_toList];exact h
abbrev WrL:=List (Int×Blk)
def look:WrL→Int→Option Blk
 | [],_=>none
 | p::r,k=>if p.1=k then some p.2 else look r k
def VP:WrL→Int→Blk→WrL
 | [],k,b=> [(k,b)]
 | p::r,k,b=>if p.1=k then (k,b)::r else p::VP r k b
theorem V8: ∀(l:WrL) (k:Int) (b:Blk),look (VP l k b) k=some b
 | [],k,b=>by unfold VP look;rw [if_pos rfl]
 | p::r,k,b=>by
   unfold VP;by_cases h:p.1=k
   ·rw [if_pos h];unfold look;rw [if_pos rfl]
   ·rw [if_neg h];unfold look;rw [if_neg h];exact V8 r k b
theorem Vy: ∀(l:WrL) {k j:Int} (b:Blk),j≠k→look (VP l k b) j=look l j
 | [],k,j,b,h=>by
   unfold VP look;rw [if_neg (Ne.symm h)];rfl
 | p::r,k,j,b,h=>by
   unfold VP;by_cases e:p.1=k
   ·rw [if_pos e];unfold look;rw [if_neg (Ne.symm h),if_neg (by rw [e];exact Ne.symm h)]
   ·rw [if_neg e];by_cases e2:p.1=j
    ·unfold look;rw [if_pos e2,if_pos e2]
    ·conv=>lhs;unfold look
     conv=>rhs;unfold look
     rw [if_neg e2,if_neg e2];exact Vy r b h
theorem Kr: ∀(l:WrL) (k:Int) (b:Blk),(VP l k b).length=if (look l k).isSome then l.length else l.length+1
 | [],k,b=>rfl
 | p::r,k,b=>by
   unfold VP look;by_cases h:p.1=k
   ·rw [if_pos h,if_pos h];rfl
   ·rw [if_neg h,if_neg h,List.length_cons,Kr r k b];split<;>rfl
theorem Y8: ∀(l:WrL) (k:Int) (b:Blk),(VP l k b).map (·.1)=if (look l k).isSome then l.map (·.1) else l.map (·.1)++ [k]
 | [],k,b=>rfl
 | p::r,k,b=>by
   unfold VP look;by_cases h:p.1=k
   ·rw [if_pos h,if_pos h];simp [h]
   ·rw [if_neg h,if_neg h,List.map_cons,Y8 r k b];split<;>rfl
theorem Km: ∀(l:WrL) (k:Int),(look l k).isSome=true↔k∈l.map (·.1)
 | [],k=>by simp [look]
 | p::r,k=>by
   unfold look;by_cases h:p.1=k
   ·rw [if_pos h];simp [h]
   ·rw [if_neg h,Km r k];simp [Ne.symm h]
theorem QfI {l:WrL} (h:(l.map (·.1)).Nodup) (k:Int) (b:Blk):((VP l k b).map (·.1)).Nodup:=by
 rw [Y8];split
 ·exact h
 ·rename_i hs
  refine List.nodup_append.2 ⟨h,by simp,fun a ha x hx=>?_⟩;simp at hx;rw [hx];rintro rfl;exact hs ((Km l a).2 ha)
theorem Qbk {P:Int×Blk→Prop}: ∀ {l:WrL} (k:Int) (b:Blk),(∀p∈l,P p)→P (k,b)→∀p∈VP l k b,P p
 | [],k,b,h,hk=>fun p hp=>by
   simp [VP] at hp;rw [hp];exact hk
 | q::r,k,b,h,hk=>fun p hp=>by
   unfold VP at hp;by_cases e:q.1=k
   ·rw [if_pos e] at hp;rcases List.mem_cons.1 hp with rfl | hp
    ·exact hk
    ·exact h p (by simp [hp])
   ·rw [if_neg e] at hp;rcases List.mem_cons.1 hp with rfl | hp
    ·exact h p (by simp)
    ·exact Qbk k b (fun p hp=>h p (by simp [hp])) hk p hp
theorem VR: ∀ {l:WrL} {k:Int} {b:Blk},look l k=some b→(k,b)∈l
 | [],k,b,h=>by simp [look] at h
 | p::r,k,b,h=>by
   unfold look at h;by_cases e:p.1=k
   ·rw [if_pos e] at h;injection h with h
    rw [←e,←h];exact List.mem_cons_self ..
   ·rw [if_neg e] at h;exact List.mem_cons_of_mem _ (VR h)
def Qbf (b:Blk):Value:= .agg (b.map B8).toArray
theorem aggZ:Qbf Qs= .agg zc:=by unfold Qbf;rw [QgC]
theorem Qa6 (W:World):(zeroValue 257).run prog W= .ok (.agg zc) W:=by kernel_rfl
theorem Qis (b:Blk) (hb:b.length=512):(prog.info? 257).map (·.size)=some ((b.map B8).toArray).size:=by
 rw [List.size_toArray,List.length_map,hb];kernel_rfl
theorem oneB (b:Blk):((b.map B8).toArray).all (·.oneCell')=true:=by
 rw [Array.all_eq_true_iff_forall_mem];intro v hv;rw [List.mem_toArray,List.mem_map] at hv;obtain ⟨x,_,rfl⟩:=hv;rfl
theorem QbF (W:World):(Instr.alloc 257 true (.tuple #[])).run prog W= .ok (.pointer (some ⟨W.heap.size,0,none⟩)) (W.alloc (.cells zc 257 (0,0))):=by
 simp only [Instr.alloc,Sem.run_bind,Qa6,Result.andThen_ok];rfl
theorem EC {ops:Array Oper} {rest:List Oper} {o:Oper} {a:Act} {w:World} {Q:Exit→Act→World→Prop} (hg:o.guard=none) (ho:o.op= .alloc 257)
 (h:wpList prog ops Q rest (a.put o.dst (.pointer (some ⟨w.heap.size,0,none⟩))) (w.alloc (.cells zc 257 (0,0)))):wpList prog ops Q (o::rest) a w:=
 Go.Great.wpList_runTo hg o.dst rfl _ _ (by
  unfold execOp;simp only [ho,Sem.run_bind,QbF,Result.andThen_ok];rfl) h
theorem El {ops:Array Oper} {rest:List Oper} {o:Oper} {a:Act} {w:World} {Q:Exit→Act→World→Prop} (hgd:o.guard=none) (x y:Operand) (ho:o.op= .store 257 x y) (g:Nat) (b:Blk) (hb:b.length=512) (hx:a.eval x= .pointer (some ⟨g,0,none⟩)) (hy:a.eval y=Qbf b) (old:Array Value) (hold:old.size=512)
 (hg:w.heap[g]?=some (.cells old 257 (0,0))) (h:wpList prog ops Q rest (a.put o.dst undef) (w.setRow g (b.map B8).toArray)):wpList prog ops Q (o::rest) a w:=
 wpList_store_row hgd _ x y ho g (b.map B8).toArray hx hy _ old hg (Qis b hb) (by rw [hold,List.size_toArray,List.length_map,hb]) (oneB b) h
theorem Ky (w:World) (b:Blk) (old:Array Value):(w.alloc (.cells old 257 (0,0))).setRow w.heap.size (b.map B8).toArray=w.alloc (.cells (b.map B8).toArray 257 (0,0)):=Kx w old _ _ _
theorem QdY (w:World) (b:Blk) (hb:b.length=512):Qc (w.alloc (.cells (b.map B8).toArray 257 (0,0))) (.slice (some ⟨w.heap.size,0,none⟩) 512 512) b (QR w):=by
 refine ⟨w.heap.size,0,512,_,by rw [hb],by rw [hb];exact Nat.le_refl _,IsC.ofA (Qb _ _),fun i hi=>?_,Nat.le_refl _⟩;rw [Nat.zero_add,List.getElem?_toArray,List.getElem?_map,List.getElem?_eq_getElem hi,List.getD_eq_getElem?_getD,List.getElem?_eq_getElem hi];rfl
def wrt (wb:Nat) (l:WrL):Res where
 M:=Q0 wb
 inv:=fun _ w=> ∃F,Qn JX okI w wb l.length F∧∀k,okI k→F k=(look l k).map Qbf
 lt:=fun _ w H x hx=>by obtain rfl:x=wb:=hx;obtain ⟨F,h,_⟩:=H;exact h.lt
 dry:=fun _ w H x hx c e=>by
  obtain rfl:x=wb:=hx;obtain ⟨F,⟨es,clock,h,_⟩,_⟩:=H;exact YO h c e
 keep:=fun _ w w' N H hf hd ha=>by
  obtain ⟨F,h,hb⟩:=H;exact ⟨F,h.of_block (hf.block wb h.lt (ha wb rfl)),hb⟩
 zone:=fun _ _ _ H _ _=>H
section
variable {w0:Gnd} {w:World} {rs:List Res}
theorem St.wrtNew (h:St w0 w rs):St w0 (w.alloc (.map #[] 0)) (wrt w.heap.size []::rs):=
 h.make ((Frm.refl _ _).alloc _) (wrt w.heap.size []) ⟨_,Qn.made w,fun k hk=>rfl⟩ (fun x hx=>by obtain rfl:x=w.heap.size:=hx;exact Nat.le_refl _)
theorem St.wrtLook (h:St w0 w rs) {i wb:Nat} {l:WrL} (hr:rs[i]?=some (wrt wb l)) {k:Int} (hk:okI k) (W:World) (hW:W.heap[wb]?=w.heap[wb]?):
 (Instr.lookup 242 (.map (some wb)) (.int .i64 k) true).run prog W= .ok (.tuple #[Qbf ((look l k).getD Qs),.bool (look l k).isSome]) W:=by
 obtain ⟨F,hm,hf⟩:=h.get hr;have:=hm.lookup_ok Yw underlying242 hk Qa6 W hW;rw [hf k hk] at this;rw [this];cases look l k with
 | none=>rw [Option.getD_none,←aggZ];rfl
 | some b=>rfl
theorem St.wrtGet (h:St w0 w rs) {i wb:Nat} {l:WrL} (hr:rs[i]?=some (wrt wb l)) {k:Int} (hk:okI k) {b:Blk} (hb:look l k=some b) (W:World) (hW:W.heap[wb]?=w.heap[wb]?):
 (Instr.lookup 242 (.map (some wb)) (.int .i64 k) false).run prog W= .ok (Qbf b) W:=by
 obtain ⟨F,hm,hf⟩:=h.get hr;have:=hm.lookup Yw underlying242 hk Qa6 W hW;rw [hf k hk,hb] at this;exact this
theorem St.wrtLen (h:St w0 w rs) {i wb:Nat} {l:WrL} (hr:rs[i]?=some (wrt wb l)) (ty:TypeId) (W:World) (hW:W.heap[wb]?=w.heap[wb]?):
 (Builtin.len_ #[242] ty #[.map (some wb)]).run prog W= .ok (goInt l.length) W:=by
 obtain ⟨F,hm,hf⟩:=h.get hr;exact hm.len underlying242 ty W hW
theorem St.wrtPut (h:St w0 w rs) (i:Nat) {wb:Nat} {l:WrL} (hr:rs[i]?=some (wrt wb l)) {k:Int} (hk:okI k) (b:Blk):
 ∃o,(∀W,W.heap[wb]?=w.heap[wb]?→(Instr.mapUpdate 242 (.map (some wb)) (.int .i64 k) (Qbf b)).run prog W= .ok () (setBlock W wb o))∧St w0 (setBlock w wb o) (rs.set i (wrt wb (VP l k b))):=by
 obtain ⟨F,hm,hf⟩:=h.get hr;obtain ⟨o,q1,q2⟩:=hm.update Yw underlying242 hk (Qbf b);refine ⟨o,q1,h.write i hr ((Frm.refl (Q0 wb) w).setBlock (.inl rfl) o) (wrt wb (VP l k b)) ⟨upd F k (some (Qbf b)),?_,fun x hx=>?_⟩ (fun _ hx=> .inl hx)⟩
 ·have h2:=q2 w hm.lt;rw [Kr];rw [hf k hk,Option.isSome_map] at h2;exact h2
 ·unfold upd;by_cases e:x=k
  ·subst e;rw [if_pos rfl,V8];rfl
  ·rw [if_neg e,hf x hx,Vy _ _ e]
theorem St.wrtClear (h:St w0 w rs) (i:Nat) {wb:Nat} {l:WrL} (hr:rs[i]?=some (wrt wb l)) (ty:TypeId):
 ∃o,(Builtin.clear_ #[242] ty #[.map (some wb)]).run prog w= .ok (.tuple #[]) (setBlock w wb o)∧St w0 (setBlock w wb o) (rs.set i (wrt wb [])):=by
 obtain ⟨F,hm,hf⟩:=h.get hr;obtain ⟨o,q1,q2⟩:=hm.clear underlying242 ty;exact ⟨o,q1 w rfl,h.write i hr ((Frm.refl (Q0 wb) w).setBlock (.inl rfl) o) (wrt wb []) ⟨_,q2 w hm.lt,fun x hx=>rfl⟩ (fun _ hx=> .inl hx)⟩
theorem Qji: ¬U8T (256:TypeId):=by decide
def QgF (jb:Nat) (op ov:Bool) (wb:Nat):Array Value:= #[.pointer (some ⟨jb,0,none⟩),.bool op,.bool ov,.map (some wb)]
abbrev cst (cb jb:Nat) (op ov:Bool) (wb:Nat):Res:=arr cb (QgF jb op ov wb) 256 Qji
end
section
variable {w0:Gnd} {w:World} {rs:List Res} {cb jb wb:Nat} {op ov:Bool} {l:WrL}
theorem QjD (h:St w0 w rs) (jb:Nat):
 Calls prog 148 #[.pointer (some ⟨jb,0,none⟩)] w fun e w'=> ∃cb wb,e= .returned (.pointer (some ⟨cb,0,none⟩))∧St w0 w' (cst cb jb false false wb::wrt wb []::rs):=by
 have hmk: ∀W,(Instr.makeMap 242 none).run prog W= .ok (.map (some W.heap.size)) (W.alloc (.map #[] 0)):=fun W=>rfl
 have H1:=hid ((h.wrtNew).newArr (QgF jb false false w.heap.size) 256 Qji);clear h;go_enter func148,ntmps148;go_wp2_with fail;go_ret;exact ⟨w.heap.size+1,w.heap.size,rfl,by have:=H1.out;rw [size_alloc] at this;exact this⟩
theorem WM (h:St w0 w (cst cb jb op ov wb::rs)):
 Calls prog 176 #[.pointer (some ⟨cb,0,none⟩)] w fun e w'=>w=w'∧e= .returned (.bool true):=by
 have c0:w.cell? ⟨cb,0,none⟩=some (.pointer (some ⟨jb,0,none⟩)):=(h.arrCell (i:=0) rfl 0).trans rfl;clear h;go_enter func176,ntmps176;go_wp2_with fail;go_ret;exact ⟨rfl,rfl⟩
theorem QbC (h:St w0 w (cst cb jb op ov wb::rs)):
 Calls prog 177 #[.pointer (some ⟨cb,0,none⟩)] w fun e w'=>w=w'∧e= .returned (.bool op):=by
 have c1:w.cell? ⟨cb,1,none⟩=some (.bool op):=(h.arrCell (i:=0) rfl 1).trans rfl;clear h;go_enter func177,ntmps177;go_wp2_with fail;go_ret;exact ⟨rfl,rfl⟩
theorem Qg3 (h:St w0 w (cst cb jb op ov wb::rs)):
 Calls prog 90 #[.pointer (some ⟨cb,0,none⟩)] w fun e w'=>e= .returned (.int .i64 (if op then 8 else 0))∧St w0 w' (cst cb jb true (if op then ov else false) wb::rs):=by
 have c1:w.cell? ⟨cb,1,none⟩=some (.bool op):=(h.arrCell (i:=0) rfl 1).trans rfl;have f1:w.frozen? ⟨cb,1,none⟩=false:=h.arrFree (i:=0) rfl 1;have f2:w.frozen? ⟨cb,2,none⟩=false:=h.arrFree (i:=0) rfl 2;have c2:w.cell? ⟨cb,2,none⟩=some (.bool ov):=(h.arrCell (i:=0) rfl 2).trans rfl;have HR:=hid (WM h);have H2:=hid ((h.setArr 0 rfl 1 (.bool true)).setArr 0 rfl 2 (.bool false));have H0:=hid h;clear h;go_enter func90,ntmps90;go_wp2_with fail;refine HR.out.mono ?_;rintro e w2 ⟨rfl,rfl⟩;cases op with
 | true=>
   go_wp2_with fail;go_ret;exact ⟨rfl,H0.out⟩
 | false=>
   go_wp2_with fail;go_ret;exact ⟨rfl,H2.out⟩
theorem Qi6 (h:St w0 w (cst cb jb op ov wb::wrt wb l::rs)):
 Calls prog 186 #[.pointer (some ⟨cb,0,none⟩)] w fun e w'=>e= .returned (.tuple #[])∧St w0 w' (cst cb jb false ov wb::wrt wb []::rs):=by
 have c1:w.cell? ⟨cb,1,none⟩=some (.bool op):=(h.arrCell (i:=0) rfl 1).trans rfl;have f1:w.frozen? ⟨cb,1,none⟩=false:=h.arrFree (i:=0) rfl 1;have h1:=h.setArr 0 rfl 1 (.bool false);have c3:(w.setCell ⟨cb,1,none⟩ (.bool false)).cell? ⟨cb,3,none⟩=some (.map (some wb)):=(h1.arrCell (i:=0) rfl 3).trans rfl;obtain ⟨o,q,h2⟩:=h1.wrtClear 1 rfl 0;have H2:=hid h2;clear h h1 h2;go_enter func186,ntmps186;go_wp2_with fail;go_end0;exact ⟨rfl,H2.out⟩
end
section
variable {w0:Gnd} {w:World} {rs:List Res} {cb wb:Nat} {op ov:Bool} {l:WrL} {H:Hdl} {jh:K9} {J:JSt}
def VQ (l:WrL) (v:Nat→Blk) (k:Int):Blk:=(look l k).getD (v k.toNat)
theorem Qi1 (h:St w0 w (cst cb jh.jb op ov wb::wrt wb l::jrn H jh J::rs)) (a:Nat) {D:DSt} (hr:rs[a]?=some (dev H D)) (hJ:JOk D.n J) (ho:D.ops<1000000000) (k:Int) (hk0:245≤k) (hk1:k<(D.n:Int)) (hn:D.n≤65536) (h512: ∀p∈l,p.2.length=512):
 Calls prog 202 #[.pointer (some ⟨cb,0,none⟩),.int .i64 k] w fun e w'=> ∃v,e= .returned (.tuple #[v,.int .i64 0])∧St w0 w' (byt v (VQ l (VZ J D) k)::cst cb jh.jb op ov wb::wrt wb l::jrn H jh J::rs):=by
 have hok:okI k:=(Yx k).2 (by omega);have hB:((look l k).getD Qs).length=512:=by
  cases hl:look l k with
  | none=>exact Q6
  | some b=>exact h512 _ (VR hl)
 obtain ⟨B,hBe⟩: ∃B,(look l k).getD Qs=B:=⟨_,rfl⟩;have hlk:=h.wrtLook (i:=1) rfl hok w rfl;rw [hBe] at hB hlk;have c0:w.cell? ⟨cb,0,none⟩=some (.pointer (some ⟨jh.jb,0,none⟩)):=(h.arrCell (i:=0) rfl 0).trans rfl;have c3:w.cell? ⟨cb,3,none⟩=some (.map (some wb)):=(h.arrCell (i:=0) rfl 3).trans rfl;have HR:=hid (WM h);have HN:=hid (Qb w (.cells zc 257 (0,0)));have hf3:Frm NoB w (w.alloc (.cells (B.map B8).toArray 257 (0,0))):=(Frm.refl _ _).alloc _;have H3:=hid (h.frm0 hf3);have HY:=hid ((h.mkByt hf3 (QdY w B hB)));have HJR:=hid (Qjy (show St w0 _ (jrn H jh J::cst cb jh.jb op ov wb::wrt wb l::rs) from H3.out.perm (List.perm_append_comm (l₁:= [_,_]) (l₂:= [_]) |>.append_right _)) (a+2) hr hJ ho k hk0 hk1);have c0':(w.alloc (.cells (B.map B8).toArray 257 (0,0))).cell? ⟨cb,0,none⟩=some (.pointer (some ⟨jh.jb,0,none⟩)):=(H3.out.arrCell (i:=0) rfl 0).trans rfl;obtain ⟨s,hs⟩: ∃s,(look l k).isSome=s:=⟨_,rfl⟩;rw [hs] at hlk;have HS:=hid hs;have HBE:=hid hBe;have HBB:=hid hB;clear h hr hJ ho hk0 hk1 hn h512 hok hB hBe hf3 H3 hs;go_enter func202,ntmps202;go_wp2_with fail;refine HR.out.mono ?_;rintro e w2 ⟨rfl,rfl⟩;go_upto_region 4 with (first | refine EC rfl rfl ?_ | refine El rfl _ _ rfl w.heap.size B HBB.out rfl rfl zc Kv HN.out ?_)
 rw [Ky];clear hlk c0 c3 HR HN;obtain ⟨w3,hw3⟩: ∃w3,w3=w.alloc (.cells (B.map B8).toArray 257 (0,0)):=⟨_,rfl⟩;rw [←hw3] at HY HJR c0' ⊢;clear hw3;generalize w.heap.size=nb at*
 cases s with
 | true=>
   go_wp2_with fail;go_ret2;refine ⟨_,rfl,?_⟩;have e:VQ l (VZ J D) k=B:=by
    unfold VQ;rw [←HBE.out];cases hl:look l k with
    | none=>have:=HS.out;rw [hl] at this;cases this
    | some b=>rfl
   rw [e];exact HY.out
 | false=>
   have e:VQ l (VZ J D) k=VZ J D k.toNat:=by
    unfold VQ;cases hl:look l k with
    | none=>rfl
    | some b=>have:=HS.out;rw [hl] at this;cases this
   have HE:=hid e;clear e;go_wp2_with fail;refine HJR.out.mono ?_;clear HJR;rintro e w4 ⟨v,rfl,h4⟩;have H4:=hid h4;clear h4;go_wp2;go_ret2;refine ⟨_,rfl,?_⟩;rw [HE.out];exact H4.out.perm (List.Perm.cons _ (List.perm_append_comm (l₁:= [_]) (l₂:= [_,_]) |>.append_right _))
theorem Qd0 {vb vo vc n:Nat} (hn:n=512) (W:World):(Instr.arrayAt 257 (.slice (some ⟨vb,vo,none⟩) n vc)).run prog W= .ok (.pointer (some ⟨vb,vo,none⟩)) W:=by
 subst hn;unfold Instr.arrayAt;rw [Sem.run_bind,run_underlying underlying257 W];rfl
theorem Qc.rangeB {w:World} {vb vo n vc:Nat} {d:Blk} {R:Nat→Prop} (h:Qc w (.slice (some ⟨vb,vo,none⟩) n vc) d R):w.rangeAt vb vo (d.map B8):=by
 obtain ⟨b',o',cap',c,e,h2,h3,h4,h5⟩:=h;injection e with e1 e2 e3
 injection e1 with e1
 injection e1 with e1 e4
 subst e1 e4;intro j u hu;rw [List.getElem?_map] at hu;cases hd:d[j]? with
 | none=>rw [hd] at hu;cases hu
 | some x=>
   rw [hd] at hu;have hj:=(List.getElem?_eq_some_iff.1 hd).1;have:=h4 j hj;rw [List.getD_eq_getElem?_getD,hd] at this;rw [h3.cell,this];exact hu
theorem QdG (h:St w0 w (cst cb jh.jb true ov wb::wrt wb l::jrn H jh J::rs)) (a j:Nat) {D:DSt} (hr:rs[a]?=some (dev H D)) {v:Value} {d:Blk} (hv:rs[j]?=some (byt v d)) (hd:d.length=512) (hJ:JOk D.n J) (ho:D.ops<1000000000) (k:Int) (hk0:245≤k) (hk1:k<(D.n:Int)) (hn:D.n≤65536) (hL:l.length≤1000) (h512: ∀p∈l,p.2.length=512):
 Calls prog 92 #[.pointer (some ⟨cb,0,none⟩),.int .i64 k,v] w fun e w'=>
  ((((look l k).isSome=true∨l.length<60)∧e= .returned (.int .i64 0)∧St w0 w' (cst cb jh.jb true ov wb::wrt wb (VP l k d)::jrn H jh J::rs))∨
   (look l k=none∧60≤l.length∧e= .returned (.int .i64 2)∧St w0 w' (cst cb jh.jb true true wb::wrt wb l::jrn H jh J::rs))):=by
 have hok:okI k:=(Yx k).2 (by omega);have hB:((look l k).getD Qs).length=512:=by
  cases hl:look l k with
  | none=>exact Q6
  | some b=>exact h512 _ (VR hl)
 obtain ⟨vb,vo,vc,rfl,_⟩:=(h.get (i:=j+3) hv).cells;rw [hd] at hv ⊢;have c0:w.cell? ⟨cb,0,none⟩=some (.pointer (some ⟨jh.jb,0,none⟩)):=(h.arrCell (i:=0) rfl 0).trans rfl;have HO:=hid (QbC h);have HJR:=hid (Qjy (show St w0 _ (jrn H jh J::cst cb jh.jb true ov wb::wrt wb l::rs) from h.perm (List.perm_append_comm (l₁:= [_,_]) (l₂:= [_]) |>.append_right _)) (a+2) hr hJ ho k hk0 hk1);have HV:=hid hv;have HBB:=hid hB;have HOK:=hid hok;have HD:=hid hd;have hl1:((l.length:Nat):Int)≤1000:=by omega
 have hl0:(0:Int)≤((l.length:Nat):Int):=Qk _;clear h hr hv hJ ho hk0 hk1 hn h512 hok hB hd hL;go_enter func92,ntmps92;go_wp2_with fail;refine HO.out.mono ?_;rintro e w2 ⟨rfl,rfl⟩;clear HO;go_wp2_with fail;refine HJR.out.mono ?_;clear HJR c0;rintro e w3 ⟨v3,rfl,h3⟩;have H3:=hid (show St w0 w3 (cst cb jh.jb true ov wb::wrt wb l::jrn H jh J::rs) from (h3.drop 1).perm (List.perm_append_comm (l₁:= [_]) (l₂:= [_,_]) |>.append_right _));clear h3;obtain ⟨B,hBe⟩: ∃B,(look l k).getD Qs=B:=⟨_,rfl⟩;obtain ⟨s,hs⟩: ∃s,(look l k).isSome=s:=⟨_,rfl⟩;have hlk:=H3.out.wrtLook (i:=1) rfl HOK.out w3 rfl;rw [hBe,hs] at hlk;rw [hBe] at HBB;have HS:=hid hs;have c3:w3.cell? ⟨cb,3,none⟩=some (.map (some wb)):=(H3.out.arrCell (i:=0) rfl 3).trans rfl;have HN:=hid (Qb w3 (.cells zc 257 (0,0)));clear hBe hs;go_upto_region 7 with (first | refine EC rfl rfl ?_ | refine El rfl _ _ rfl w3.heap.size B HBB.out rfl rfl zc Kv HN.out ?_)
 rw [Ky];have H4:=hid (H3.out.frm0 ((Frm.refl NoB w3).alloc (.cells (B.map B8).toArray 257 (0,0))));obtain ⟨w4,hw4⟩: ∃w4,w4=w3.alloc (.cells (B.map B8).toArray 257 (0,0)):=⟨_,rfl⟩;rw [←hw4] at H4 ⊢;clear hw4 hlk c3 HN H3;generalize w3.heap.size=nb at*
 have c3:w4.cell? ⟨cb,3,none⟩=some (.map (some wb)):=(H4.out.arrCell (i:=0) rfl 3).trans rfl;have hln:=fun ty=>H4.out.wrtLen (i:=1) rfl ty w4 rfl
 have hput:((look l k).isSome=true∨l.length<60)→Hid (∃o,(Instr.mapUpdate 242 (.map (some wb)) (.int .i64 k) (.agg (d.map B8).toArray)).run prog w4.drew= .ok () (setBlock w4.drew wb o)∧St w0 (setBlock w4.drew wb o) (cst cb jh.jb true ov wb::wrt wb (VP l k d)::jrn H jh J::rs)):=fun _=>hid (by
  obtain ⟨o,q1,q2⟩:=(H4.out.frm0 ((Frm.refl NoB w4).drew)).wrtPut 1 rfl HOK.out d;exact ⟨o,q1 w4.drew rfl,q2⟩)
 have HPUT:=hid hput;clear hput;have KA:Hid (∀y,Frm NoB w4 y→y.cell? ⟨cb,3,none⟩=some (.map (some wb))∧y.rangeAt vb vo (d.map B8)):=hid fun y hy=>
  ⟨((H4.out.frm0 hy).arrCell (i:=0) rfl 3).trans rfl,Qc.rangeB ((H4.out.frm0 hy).get (i:=j+3) HV.out)⟩
 by_cases hroom:(look l k).isSome=true∨l.length<60
 ·obtain ⟨o,q,h5⟩:=(HPUT.out hroom).out;have H5:=hid h5;have hS5:(setBlock w4.drew wb o).cell? ⟨cb,3,none⟩=some (.map (some wb))∧(setBlock w4.drew wb o).rangeAt vb vo (d.map B8):=⟨(h5.arrCell (i:=0) rfl 3).trans rfl,Qc.rangeB (h5.get (i:=j+3) HV.out)⟩;have HRM:=hid hroom;clear h5 HPUT;have hU:prog.underlying 257=some (.array 512 5):=underlying257;have hI:(prog.info? 257).map (·.size)=some (d.map B8).length:=by rw [List.length_map,HD.out];kernel_rfl
  have hsp:=fun W=>Qd0 (vb:=vb) (vo:=vo) (vc:=vc) rfl W
  obtain ⟨k1,k2⟩:=KA.out w4 (Frm.refl _ _);cases s with
  | true=>
    clear hroom;go_upto_region 10 with (fail)
    go_region_held3 (fun y=>y.cell? ⟨cb,3,none⟩=some (.map (some wb))∧y.rangeAt vb vo (d.map B8))
     (first | exact hS5 | (refine KA.out _ ?_;first | assumption | exact (Frm.refl NoB w4).drew))
     (first
      | fail
      | fail)
    all_goals
     go_wp2;go_ret;exact .inl ⟨HRM.out,rfl,H5.out⟩
  | false=>
    have h60: ¬(60:Int)≤((l.length:Nat):Int):=by
     have:=HS.out;rcases hroom with h | h
     ·rw [h] at this;cases this
     ·omega
    clear hroom;go_upto_region 10 with (fail)
    go_region_held3 (fun y=>y.cell? ⟨cb,3,none⟩=some (.map (some wb))∧y.rangeAt vb vo (d.map B8))
     (first | exact hS5 | (refine KA.out _ ?_;first | assumption | exact (Frm.refl NoB w4).drew))
     (first
      | fail
      | fail)
    all_goals
     go_wp2;go_ret;exact .inl ⟨HRM.out,rfl,H5.out⟩
 ·have hs:s=false:=by
   have:=HS.out;cases s with
   | true=>exact absurd (.inl this) hroom
   | false=>rfl
  subst hs;have h60:(60:Int)≤((l.length:Nat):Int):=by
   have: ¬l.length<60:=fun h=>hroom (.inr h)
   omega
  have HNO:=hid hroom;clear hroom HPUT KA;have c2:w4.cell? ⟨cb,2,none⟩=some (.bool ov):=(H4.out.arrCell (i:=0) rfl 2).trans rfl;have f2:w4.frozen? ⟨cb,2,none⟩=false:=H4.out.arrFree (i:=0) rfl 2;have H5:=hid (H4.out.setArr 0 rfl 2 (.bool true));go_wp2_with fail;go_ret;refine .inr ⟨?_,?_,rfl,H5.out⟩
  ·have:=HS.out;cases hl:look l k with
   | none=>rfl
   | some b=>rw [hl] at this;cases this
  ·have: ¬l.length<60:=fun h=>HNO.out (.inr h)
   omega
end
theorem Qe9 (b:Nat) (w:World):
 Calls prog 185 #[.map (some b)] w fun e w'=>e= .returned (.func (.func 249) #[] #[.pointer (some ⟨w.heap.size,0,none⟩)])∧w'=w.alloc (.cells #[.map (some b)] 242):=
 (callsIn_wide (n:=5)).1 (AnyZI.keys_in Tryz.keysB Fence.wide 5 trivial rfl (some b) w)
theorem Qc3 (b n:Nat) (f:Int→Option Value) (w:World) (h:Qn JX okI w b n f) (hn:n≤1000000000):
 Calls prog 70 #[.func (.func 249) #[] #[.pointer (some ⟨w.heap.size,0,none⟩)]] (w.alloc (.cells #[.map (some b)] 242)) fun e w'=>
  ∃v ks,e= .returned v∧O5 f n ks∧UZ w' 3 v (ks.map JX) (QR w)∧Frm NoB w w':=by
 obtain ⟨D,hown,hsz,hnd,hlen,hm⟩:=h.owns (by unfold maxLen;omega);have hbl:=hown.lt;have hseq:SeqGives Fence.wide 2 prog 249 #[.pointer (some ⟨w.heap.size,0,none⟩)] encZ (fun ss=>ss.Perm (intKeys D)) (Maps.size D) (w.alloc (.cells #[.map (some b)] 242)):=
  AnyZI.keys_gives (ρ:=Tryz.keysB_ren) { Tryz.keysB with } Fence.wide _ trivial rfl (by omega) w.heap.size b n D _ (by simp) (by simp) (by
   obtain ⟨es,clock,hb,Ft,hs,hD⟩:=hown;exact ⟨es,clock,(Below.heap_alloc _ _ b hbl).trans hb,Ft,hs,hD⟩)
 have cS:=AnyZI.sorted_in Tryz.sortedA Fence.wide 5 trivial trivial trivial trivial rfl (by omega) (Qj9 _) (enters_of func152 (by kernel_rfl) rfl) 249 #[.pointer (some ⟨w.heap.size,0,none⟩)] trivial (enters_of func249 (by kernel_rfl) rfl) _ _ (by rw [hsz];unfold maxLen;omega) (by rw [hsz];omega) _ hseq;change CallsIn _ _ prog 70 _ _ _ at cS;refine ((callsIn_wide (n:=5)).1 cS).mono ?_;rintro e w' ⟨v,ss,rfl,hS,hrow,hnil,hb⟩;refine ⟨v,_,rfl,Qad hS hnd hlen hm,?_,?_⟩
 ·rcases UZ.of_owns hrow with h1 | ⟨blk,off,cap,c,h1,h2,h3,h4,h5⟩
  ·exact .inl h1
  ·exact .inr ⟨blk,off,cap,c,h1,h2,h3,h4,by simp at h5;unfold QR;omega⟩
 ·exact ((Frm.refl NoB w).alloc _).trans (Frm.ofBelow hb rfl NoB) (fun _ _ e=>e)
def Qdu (v:Value) (ks:List Int):Res where
 M:=fun x=>v.ownBlock=some x
 inv:=fun _ w=>UZ w 3 v (ks.map JX) Ku
 lt:=fun _ w H x hx=>by
  rcases H with ⟨rfl,_⟩ | ⟨blk,off,cap,c,rfl,_,h3,_⟩
  ·cases hx
  ·obtain rfl:blk=x:=by simpa [Value.ownBlock] using hx
   exact lt_of_block h3
 dry:=fun _ w H x hx c e=>by
  rcases H with ⟨rfl,_⟩ | ⟨blk,off,cap,c',rfl,_,h3,_⟩
  ·cases hx
  ·obtain rfl:blk=x:=by simpa [Value.ownBlock] using hx
   exact Yf h3 Jj c e
 keep:=fun _ w w' N H hf hd ha=>by
  rcases H with h | ⟨blk,off,cap,c,rfl,h2,h3,h4,h5⟩
  ·exact .inl h
  ·exact .inr ⟨blk,off,cap,c,rfl,h2,(hf.block blk (lt_of_block h3) (ha blk rfl)).trans h3,h4,h5⟩
 zone:=fun _ _ _ H _ _=>H
theorem QjZ {Z:Nat→Prop} {w:World} {v:Value} {ks:List Int} (h:(Qdu v ks).inv Z w): ∃a cap,v= .slice a ks.length cap:=by
 obtain ⟨a,cap,e,_⟩:=UZ.cases h;rw [List.length_map] at e;exact ⟨a,cap,e⟩
theorem St.mkKeys {w0:Gnd} {w w':World} {rs:List Res} (h:St w0 w rs) (hf:Frm NoB w w') {v:Value} {ks:List Int} (hb:UZ w' 3 v (ks.map JX) (QR w)):St w0 w' (Qdu v ks::rs):=
 h.make hf (Qdu v ks) (by
  rcases hb with h | ⟨blk,off,cap,c,h1,h2,h3,h4,h5⟩
  ·exact .inl h
  ·exact .inr ⟨blk,off,cap,c,h1,h2,h3,h4,trivial⟩) (fun x hx=>by
  rcases hb with ⟨rfl,_⟩ | ⟨blk,off,cap,c,rfl,h2,h3,h4,h5⟩
  ·cases hx
  ·obtain rfl:blk=x:=by simpa [Value.ownBlock,Qdu] using hx
   exact h5)
end Go.Proofs.YtlemndledcmhiaaGreatDoor
