/-
  The catalog, from the device up, part 9.
-/
import Derived.Test.YtlemndledcmhiaaGreatDoorV8
import Derived.Shelf.SlIterI.Collect
import Derived.RangeFuncNested
import Derived.Shelf.SlSortCmp.NoneTotal
namespace Go.Proofs.YtlemndledcmhiaaGreatDoor
set_option linter.unusedVariables false
set_option linter.unusedSimpArgs false
set_option maxHeartbeats 8000000
set_option maxRecDepth 100000
open Tryz
open Lib (hid)
open Go.ChangeMaps Go.MapKept Go.RowKit
theorem W1 (w:World) (base:Nat) (v:Value) (bs:Blk) (ty:TypeId) (h:Ji w base v bs) (hl:bs.length≤100000) (hb:base≤w.heap.size):
 ∃v' w',(Builtin.append_ #[76,3] ty #[v,.int .i64 8]).run prog w= .ok v' w'∧Ji w' base v' (bs++QQ 8)∧Frm (QiX v) w w':=by
 obtain ⟨i0,hi0,hz0,hz1,hz2⟩:=info_parts V7;have hint:prog.underlying 3=some (.int .i64):=underlying3;have hmap:(bs++QQ 8).map B8=bs.map B8++List.replicate 8 (.int .u8 0):=by rw [List.map_append];rfl
 have hlen:(bs++QQ 8).length=bs.length+8:=by rw [List.length_append];rfl
 have grown: ∀(old:Nat),old<bs.length+8→Ji (w.drew.alloc (.cells ((bs.map B8).toArray++Builtin.zeroCells (Value.int .u8 0).cells 8++Builtin.zeroCells (Value.int .u8 0).cells (grownCap w (bs.length+8) old 5-(bs.length+8))) 5)) base
  (.slice (some ⟨w.heap.size,0,none⟩) (bs.length+8) (grownCap w (bs.length+8) old 5)) (bs++QQ 8):=by
  intro old ho;have hge:=grownCap_ge w (bs.length+8) old 5;have hcm:grownCap w (bs.length+8) old 5≤maxLen:=grownCap_le_maxLen w (bs.length+8) old 5 (by simp only [maxLen];omega);refine ⟨by rw [List.length_map,Nat.mul_one],.inr ⟨w.heap.size,_,_,by rw [hlen],hb,heap_alloc_new w.drew _,by rw [hlen];exact hge,hcm,?_,?_⟩⟩
  ·simp only [Array.size_append,List.size_toArray,size_zeroCells,List.length_map];show bs.length+8*1+(grownCap w (bs.length+8) old 5-(bs.length+8))*1=_;omega
  ·simp only [Array.toList_append,Er,hlen,Nat.mul_one];rw [hmap];have:((bs.map B8)++List.replicate 8 (Value.int .u8 0)).length=bs.length+8:=by simp
   rw [←this];exact List.take_left
 rcases h.2 with ⟨rfl,h0⟩ | ⟨g,cap,cur,rfl,hbg,hg,hnc,hcm,hcs,htake⟩
 ·have hx:bs= []:=List.eq_nil_of_length_eq_zero h0;subst hx;have hr:=Lib.run_append_nil_zeros (P:=prog) w 76 3 ty 5 i0 (.int .u8 0) .i64 .i64 underlying76 hint hi0 hz0 8 (by omega) (by rw [hz1];omega) (by omega) (by rw [hz2];omega);refine ⟨_,_,hr,?_,((Frm.refl _ w).drew).alloc _⟩;have:=grown 0 (by show 0<8;omega)
  simpa using this
 ·by_cases hroom:bs.length+8≤cap
  ·have hcs:cur.size=cap:=by rw [hcs,Nat.mul_one]
   have htake:cur.toList.take bs.length=bs.map B8:=by rw [Nat.mul_one] at htake;exact htake
   have hst:=run_storeCells_at (P:=prog) g bs.length 5 (List.replicate 8 (.int .u8 0)) 0 cur w hg (by simp;omega) (by intro x hx;rw [List.eq_of_mem_replicate hx];rfl);have hadd:(⟨g,0,none⟩:Addr).add bs.length=⟨g,bs.length,none⟩:=by unfold Addr.add;split<;>simp_all
   have hzc:(Builtin.zeroCells (Value.int .u8 0).cells 8).toList= [Value.int .u8 0,Value.int .u8 0,Value.int .u8 0,Value.int .u8 0,Value.int .u8 0,Value.int .u8 0,Value.int .u8 0,Value.int .u8 0]:=Er 8;have hst2:(storeCells ((⟨g,0,none⟩:Addr).add bs.length) [Value.int .u8 0,Value.int .u8 0,Value.int .u8 0,Value.int .u8 0,Value.int .u8 0,Value.int .u8 0,Value.int .u8 0,Value.int .u8 0]).run prog w= .ok () (w.setRow g (cur.toList.take bs.length++ [Value.int .u8 0,Value.int .u8 0,Value.int .u8 0,Value.int .u8 0,Value.int .u8 0,Value.int .u8 0,Value.int .u8 0,Value.int .u8 0]++cur.toList.drop (bs.length+8)).toArray):=by rw [hadd];exact hst
   have hr:(Builtin.append_ #[76,3] ty #[.slice (some ⟨g,0,none⟩) bs.length cap,.int .i64 8]).run prog w= .ok (.slice (some ⟨g,0,none⟩) (bs.length+8) cap) (w.setRow g (cur.toList.take bs.length++ [Value.int .u8 0,Value.int .u8 0,Value.int .u8 0,Value.int .u8 0,Value.int .u8 0,Value.int .u8 0,Value.int .u8 0,Value.int .u8 0]++cur.toList.drop (bs.length+8)).toArray):=by
    have hw:IntKind.i64.wrap (8:Int)=8:=by decide
    have h48i: ¬(281474976710656<8*(i0.bytes:Int)):=by rw [hz2];omega
    have hns: ¬(8*i0.size=0):=by rw [hz1];omega
    simp only [Builtin.append_,run_underlying underlying76,run_underlying hint,sizeOf,typeInfo,zeroValue,hi0,hz0,hz1,asInt,asIntOf,hw,hroom];simp [run_underlying hint,hw,h48i,hi0,hz0,hz1,hz2,hns,hzc,hroom,hst2,asInt,asIntOf,typeInfo,zeroValue,sizeOf]
   refine ⟨_,_,hr,⟨by rw [List.length_map,Nat.mul_one],.inr ⟨g,cap,_,by rw [hlen],hbg,setRow_heap w g cur _ _ _ hg,by rw [hlen];exact hroom,hcm,?_,?_⟩⟩,?_⟩
   ·simp only [List.size_toArray,List.length_append,List.length_take,List.length_drop,Array.length_toList,List.length_cons,List.length_nil];omega
   ·rw [htake,hmap,hlen,Nat.mul_one];have:((bs.map B8)++List.replicate 8 (Value.int .u8 0)).length=bs.length+8:=by simp
    rw [←this];exact List.take_left
   ·exact Qif (by simp) rfl rfl rfl rfl fun k hk hne=>setRow_other w g k _ hne
  ·have hold:(Builtin.firstCells i0.size bs.length (.slice (some ⟨g,0,none⟩) bs.length cap)).run prog w.drew= .ok (bs.map B8).toArray w.drew:=
    run_firstCells_some (P:=prog) w.drew i0.size bs.length ⟨g,0,none⟩ bs.length cap (bs.map B8) (by rw [hz1];simp) (by
     intro j u hj;have:=h.cells (g:=g) rfl j u hj
     simpa using this)
   have hr:=Lib.run_append_grow_zeros (P:=prog) w 76 3 ty 5 i0 (.int .u8 0) .i64 .i64 underlying76 hint hi0 hz0 (some ⟨g,0,none⟩) bs.length cap (bs.map B8) hold 8 (by omega) (by rw [hz1];omega) (by omega) (by omega) (by rw [hz2];omega) (by rw [hz2];have:=nextslicecap_le (need:=bs.length+8) (old:=cap) (by omega);omega);exact ⟨_,_,hr,grown cap (by omega),((Frm.refl _ w).drew).alloc _⟩
theorem QfE (w:World) (v:Value) (bs:List UInt8) (R:Nat→Prop) (hv:Qc w v bs R) (hl:bs.length≤140737488355328):
 Calls prog 146 #[v] w fun e w'=>Frm NoB w w'∧∃v',e= .returned v'∧Ji w' w.heap.size v' bs:=by
 obtain ⟨i0,hi0,hz0,hz1,hz2⟩:=info_parts V7;obtain ⟨blk,off,cap,rfl,hcap,hcell,_⟩:=hv.cells;have hnil:=Lib.run_eql_slice_nil (P:=prog);have hlt:blk<w.heap.size:=by
  obtain ⟨blk',off',cap',c',e1,_,h3,_⟩:=hv;cases e1;exact h3.lt
 have hown:(w.alloc (.cells #[] 5 (0,0))).ownsRow w.heap.size 5 1 (.slice (some ⟨w.heap.size,0,none⟩) 0 0) 0 []:=
  ⟨rfl,.inr ⟨w.heap.size,0,#[],rfl,Nat.le_refl _,Qb _ _,Nat.le_refl _,Nat.zero_le _,rfl,rfl⟩⟩
 have hcell': ∀j u,(bs.map B8)[j]?=some u→(w.alloc (.cells #[] 5 (0,0))).cell? ((⟨blk,off,none⟩:Addr).add j)=some u:=fun j u hj=>by
  rw [←hcell j u hj];refine World.cell?_of_block (w:=w) (Below.heap_alloc w _ _ ?_);unfold Addr.add;split<;>exact hlt
 have HC:=hid hcell';have HO:=hid hown;have HV:=hid hv;have h1: ∀u∈bs.map B8,u.oneCell'=true:=by intro u hu;obtain ⟨x,_,rfl⟩:=List.mem_map.1 hu;rfl
 clear hcell hcell' hown hv;go_enter func146,ntmps146;go_wp2_with (at_builtin;refine wpList_append_own _ rfl _ _ 76 rfl w.heap.size 5 i0 (.int .u8 0) 1 1 underlying76 hi0 hz0 hz1 hz2 rfl (by decide) _ _ _ rfl HO.out ⟨blk,off,none⟩ bs.length cap (bs.map B8) rfl ?c0 HC.out h1 ?c1 ?c2 ?c3 ?_)
 case c0=>simp
 case c1=>simp only [maxLen];omega
 case c2=>omega
 case c3=>simp
 intro v' w' ho hg hn;have hb:Ji w' w.heap.size v' bs:=by
  first | exact ho | simpa [Ji] using ho
 have HB:=hid hb;have hf:Frm NoB w w':=((Frm.refl NoB w).alloc _).trans (Frm.ofGrown hg) (fun x hx e=>by simp [Value.ownBlock] at e;omega);have HF:=hid hf;clear hb ho hg hn hf;go_wp2;go_ret;exact ⟨HF.out,v',rfl,HB.out⟩
theorem Ji.put {w:World} {base g n cap:Nat} {bs:Blk} (h:Ji w base (.slice (some ⟨g,0,none⟩) n cap) bs) (j:Nat) (hj:j<bs.length) (y:UInt8):
 Ji (w.setCell ⟨g,0+j,none⟩ (B8 y)) base (.slice (some ⟨g,0,none⟩) n cap) (bs.set j y):=by
 rcases h.2 with ⟨e,_⟩ | ⟨g',cap',cur,e,h2,h3,h4,h5,h6,h7⟩
 ·cases e
 ·injection e with e1 e2 e3
  injection e1 with e1
  injection e1 with e1
  subst e1 e2 e3;refine ⟨by rw [List.length_map,Nat.mul_one],.inr ⟨g,cap,cur.setIfInBounds (0+j) (B8 y),by rw [List.length_set],h2,Qh (i:=0+j) (B8 y) h3,by rw [List.length_set];exact h4,h5,by rw [Array.size_setIfInBounds];exact h6,?_⟩⟩;rw [List.length_set,Array.toList_setIfInBounds,Nat.zero_add,List.take_set,h7,List.map_set]
theorem Qh1 (n j:Nat) (h:j<8):(be8 n)[j]?=some (UInt8.ofNat (n/256 ^ (7-j))):=by
 unfold be8;rw [List.getElem?_reverse (by rw [QT];exact h),QT,show 8-1-j=7-j by omega];exact UJ 8 n (7-j) (by omega)
def Uf (bs:Blk) (p n i:Nat):Blk:=bs.take (p+8-i)++(be8 n).drop (8-i)++bs.drop (p+8)
theorem Vi (bs:Blk) (p n i:Nat) (hi:i≤8) (h:p+8≤bs.length):(Uf bs p n i).length=bs.length:=by
 unfold Uf;rw [List.length_append,List.length_append,List.length_take,List.length_drop,List.length_drop,U9];omega
theorem Ou (bs:Blk) (p n i k:Nat) (hi:i≤8) (h:p+8≤bs.length):(Uf bs p n i)[k]?=if p+8-i≤k∧k<p+8 then (be8 n)[k-p]? else bs[k]?:=by
 unfold Uf;have h1:(bs.take (p+8-i)).length=p+8-i:=by rw [List.length_take];omega
 have h2:((be8 n).drop (8-i)).length=i:=by rw [List.length_drop,U9];omega
 rw [List.append_assoc,List.getElem?_append,h1];split
 ·rw [if_neg (by omega),List.getElem?_take,if_pos (by omega)]
 ·rw [List.getElem?_append,h2];split
  ·rw [if_pos (by omega),List.getElem?_drop]
   congr 1
   omega
  ·rw [if_neg (by omega),List.getElem?_drop]
   congr 1
   omega
theorem Qdx (bs:Blk) (p n:Nat) (h:p+8≤bs.length):Uf bs p n 0=bs:=by
 apply List.ext_getElem?;intro k;rw [Ou _ _ _ _ _ (by omega) h,if_neg (by omega)]
theorem QdF (bs:Blk) (p n i:Nat) (hi:i<8) (h:p+8≤bs.length):Uf bs p n (i+1)=(Uf bs p n i).set (p+(7-i)) (UInt8.ofNat (n/256 ^ i)):=by
 apply List.ext_getElem?;intro k;rw [Ou _ _ _ _ _ (by omega) h,List.getElem?_set,Vi _ _ _ _ (by omega) h,Ou _ _ _ _ _ (by omega) h];by_cases e:p+(7-i)=k
 ·subst e;rw [if_pos (by omega),if_pos rfl,if_pos (by omega),show p+(7-i)-p=7-i by omega,Qh1 _ _ (by omega),show 7-(7-i)=i by omega]
 ·rw [if_neg e];by_cases hk:p+8-i≤k∧k<p+8
  ·rw [if_pos hk,if_pos (by omega)]
  ·rw [if_neg hk,if_neg (by omega)]
theorem QcF (w:World) (v:Value) (bs:List UInt8) (p n:Nat) (R:Nat→Prop) (hv:Qc w v bs R) (h4:p+8≤bs.length) (h5:bs.length≤140737488355328) (hn:n<18446744073709551616):
 Calls prog 178 #[v,.int .i64 p,.int .i64 8,.bool true,.int .u64 n] w fun e w'=>Frm NoB w w'∧∃v',e= .returned (.tuple #[v',.bool true])∧Ji w' w.heap.size v' (Uf bs p n 8):=by
 have HV:=hid hv;have HN:=hid hn;obtain ⟨a,cap,rfl,hcell⟩:=hv.sliceOf;clear hcell hv hn;go_enter func178,ntmps178;go_wp2_with fail;refine (VY _ _ _ _ _ _ (by omega) (by omega) (by omega) (by omega) (by omega)).mono ?_;rintro e w2 ⟨rfl,rfl⟩;go_wp2_with fail;refine (QfE w _ bs R HV.out h5).mono ?_;rintro e w1 ⟨hf,v1,rfl,hb1⟩;have HF:=hid hf;obtain ⟨g,cap1,rfl,hgb⟩: ∃g cap1,v1= .slice (some ⟨g,0,none⟩) bs.length cap1∧w.heap.size≤g:=by
  rcases hb1.2 with ⟨_,e⟩ | ⟨g,cap1,cur,e,h2,_⟩
  ·omega
  ·exact ⟨g,cap1,e,h2⟩
 have HB:=hid hb1;have HFR:Hid (w.heap.size≤g):=hid hgb;clear hf hb1 hgb;go_wp2_with fail;go_loopw [13,14,23] (fun _ _ ti wr=> ∃i:Nat,i≤8∧ti= .int .i64 i∧Frm NoB w wr∧Ji wr w.heap.size (.slice (some ⟨g,0,none⟩) bs.length cap1) (Uf bs p n i)) (fun _ _ ti _=>8-(intOf ti).toNat)
 case atStart=>exact ⟨0,Nat.zero_le _,rfl,HF.out,by rw [Qdx _ _ _ h4];exact HB.out⟩
 case round=>
  clear HF HB;obtain ⟨i,hi,rfl,hf,hb⟩:=hrel;have HF:=hid hf;have HB:=hid hb;clear hf hb;by_cases hlt:i<8
  ·have hi0:(0:Int)≤(i:Int):=Qk _;have hi1:(i:Int)<8:=by omega
   obtain ⟨k,hk⟩: ∃k:Nat,p+(7-i)=k:=⟨_,rfl⟩;have e0:(8:Int)-1-(i:Int)=((7-i:Nat):Int):=by omega
   have e1:((p:Int)+((7:Int)-(i:Int)))=(k:Int):=by omega
   have e2:((p:Int)+((8:Int)-1-(i:Int)))=(k:Int):=by omega
   have hk1:(k:Int)<(bs.length:Int):=by omega
   have hk2:(k:Int)<140737488355328:=by omega
   have hk0:(0:Int)≤(k:Int):=Qk _;have HK:=hid hk;obtain ⟨s,hs⟩: ∃s:Int,8*(i:Int)=s:=⟨_,rfl⟩;have hs0:0≤s:=by omega
   have hs1:s≤56:=by omega
   have hws:IntKind.i64.wrap (8*(i:Int))=s:=by rw [hs];exact IntWalk.i64_in (by omega) (by omega)
   have hsn: ¬s<0:=by omega
   have hsh:=Qev n i s hs;clear hs;have hb8:=Qc4 (n/256 ^ i);have HY:=hid (QdF bs p n i hlt h4);generalize n/256 ^ i=q at*
   generalize UInt8.ofNat q=y at*
   have hbs:Uf bs p n i≠ []:=fun e=>by
    have:=Vi bs p n i (by omega) h4;rw [e] at this;have:0=bs.length:=this;omega
   have hcell: ∃u,wr.cell? ⟨g,k,none⟩=some u:=by
    obtain ⟨a',cap',e,hcl⟩:=(HB.out.bytes hbs).sliceOf;injection e with e1 e2 e3
    subst e1;obtain ⟨b',o',e',_,hc⟩:=hcl (p+(7-i)) _ (List.getElem?_eq_getElem (by rw [Vi _ _ _ _ (by omega) h4];omega));injection e' with e'
    injection e' with e1 e2
    subst e1 e2;rw [Nat.zero_add] at hc;exact ⟨_,by rw [←hk];exact hc⟩
   obtain ⟨u,hcell⟩:=hcell;have hfree:wr.frozen? ⟨g,k,none⟩=false:=by
    rcases HB.out.2 with ⟨e,_⟩ | ⟨g',cap',cur,e,h2,h3,_⟩
    ·cases e
    ·injection e with e1 e2 e3
     injection e1 with e1
     injection e1 with e1
     subst e1;exact Qf h3
   clear hk hbs;go_wp2;have HB2:=HB.out.put (p+(7-i)) (by rw [Vi _ _ _ _ (by omega) h4];omega) y;rw [←HY.out,HK.out,Nat.zero_add] at HB2;exact ⟨⟨i+1,hlt,by go_num,HF.out.setCell (.inr HFR.out) _,HB2⟩,by simp [intOf];omega⟩
  ·obtain rfl:i=8:=by omega
   go_wp2;go_ret2;exact ⟨HF.out,_,rfl,HB.out⟩
def Ua (bs:Blk) (p i:Nat):Nat:=EZ ((bs.drop p).take i).reverse
theorem QbV (bs:Blk) (p i:Nat) (y:UInt8) (hy:bs[p+i]?=some y):Ua bs p (i+1)=Ua bs p i*256+y.toNat:=by
 unfold Ua;have h:(bs.drop p)[i]?=some y:=by rw [List.getElem?_drop];exact hy
 rw [List.take_add_one,h,Option.toList_some,List.reverse_append,List.reverse_singleton,List.singleton_append];show y.toNat+256*_=_;omega
theorem Qe4 (bs:Blk) (p i:Nat) (h:p+i≤bs.length):Ua bs p i<256 ^ i:=by
 unfold Ua;have h1:=W0 ((bs.drop p).take i).reverse;have h2:((bs.drop p).take i).reverse.length=i:=by rw [List.length_reverse,List.length_take,List.length_drop];omega
 rwa [h2] at h1
theorem Qcp (w:World) (v:Value) (bs:List UInt8) (p:Nat) (hv:Jw w v bs) (h4:p+8≤bs.length) (h5:bs.length<4611686018427387904):
 Calls prog 147 #[v,.int .i64 p,.int .i64 8,.bool true] w fun e w'=>w=w'∧e= .returned (.tuple #[.int .u64 (EE bs p),.bool true]):=by
 obtain ⟨a,cap,rfl,hcell⟩:=hv;have HC:=hid hcell;clear hcell;go_enter func147,ntmps147;go_wp2_with fail;refine (VY _ _ _ _ _ _ (by omega) (by omega) (by omega) (by omega) (by omega)).mono ?_;rintro e w2 ⟨rfl,rfl⟩;go_wp2_with fail;go_loopw [8,10,11,18] (fun tv _ _ ti wr=>wr=w∧∃i:Nat,i≤8∧ti= .int .i64 i∧tv= .int .u64 (Ua bs p i)) (fun _ _ _ ti _=>8-(intOf ti).toNat)
 case atStart=>exact ⟨rfl,0,Nat.zero_le _,rfl,rfl⟩
 case round=>
  obtain ⟨rfl,i,hi,rfl,rfl⟩:=hrel;by_cases hlt:i<8
  ·have hi0:(0:Int)≤(i:Int):=Qk _;have hi1:(i:Int)<8:=by omega
   obtain ⟨y,hy⟩: ∃y,bs[p+i]?=some y:=⟨_,List.getElem?_eq_getElem (by omega)⟩;obtain ⟨blk,off,rfl,hb,hc0⟩:=HC.out (p+i) y hy;obtain ⟨k,hk⟩: ∃k:Nat,p+i=k:=⟨_,rfl⟩;have hc:wr.cell? ⟨blk,off+k,none⟩=some (.int .u8 y.toNat):=by rw [←hk];exact hc0
   have hk1:(k:Int)<(bs.length:Int):=by omega
   have hk2:(k:Int)<4611686018427387904:=by omega
   have hk0:(0:Int)≤(k:Int):=Qk _;have HS:=hid (QbV bs p i y hy);have hx1:=Nat.lt_of_lt_of_le (Qe4 bs p i (by omega)) (Qgv i (by omega));clear hy hc0;generalize Ua bs p i=x at*
   have hyl:=y.toNat_lt;have e1:((p:Int)+(i:Int))=(k:Int):=by omega
   clear hk;have hw:IntKind.u64.wrap ((x:Int)*256)=(x:Int)*256:=u64_in (by omega) (by omega);have hwy:IntKind.u64.wrap (y.toNat:Int)=(y.toNat:Int):=u64_in (by omega) (by omega);have hor:Go.bits .or .u64 ((x:Int)*256) (y.toNat:Int)=((Ua bs p (i+1):Nat):Int):=by rw [HS.out];exact Qeu x y.toNat hx1 (by omega)
   go_wp2;exact ⟨⟨trivial,i+1,hlt,by go_num,rfl⟩,by simp [intOf];omega⟩
  ·obtain rfl:i=8:=by omega
   have hT:Ua bs p 8=EE bs p:=rfl;rw [hT];go_wp2;go_ret2;exact ⟨rfl,rfl⟩
def Qah (v:Int):Nat:=(v%18446744073709551616).toNat
theorem QeW (v:Int):Qah v<18446744073709551616:=by unfold Qah;omega
theorem QfA (v:Int):IntKind.u64.wrap v=(Qah v:Int):=by
 have:IntKind.u64.wrap v=v%18446744073709551616:=by simp [IntKind.wrap,IntKind.bits,IntKind.signed]
 rw [this];unfold Qah;omega
theorem QgR (v:Int) (h0: -9223372036854775808≤v) (h1:v≤9223372036854775807):IntKind.i64.wrap (Qah v:Int)=v:=by
 rw [IntKind.wrap_i64];unfold Qah;omega
def be (v:Int):Blk:=be8 (Qah v)
theorem Vr (v:Int):(be v).length=8:=U9 _
theorem QfC (bs z:Blk) (n:Nat) (hz:z.length=8):Uf (bs++z) bs.length n 8=bs++be8 n:=by
 unfold Uf;rw [show bs.length+8-8=bs.length by omega,List.take_left,Nat.sub_self,List.drop_zero,List.drop_of_length_le (by rw [List.length_append];omega),List.append_nil]
theorem QcH (a b:Blk) (v:Int) (h0: -9223372036854775808≤v) (h1:v≤9223372036854775807):IntKind.i64.wrap (EE (a++be v++b) a.length:Int)=v:=by
 have:EE (a++be v++b) a.length=Qah v:=by
  unfold EE be be8;rw [List.append_assoc,List.drop_left,List.take_append_of_le_length (by rw [List.length_reverse,QT];omega),List.take_of_length_le (by rw [List.length_reverse,QT];omega),List.reverse_reverse];exact V6 8 (Qah v) (QeW v)
 rw [this];exact QgR v h0 h1
theorem Qjm (w:World) (base:Nat) (v:Value) (bs:Blk) (x:Int) (h:Ji w base v bs) (hl:bs.length≤100000) (hb:base≤w.heap.size):
 Calls prog 191 #[v,.int .i64 x] w fun e w'=> ∃v',e= .returned v'∧Ji w' w.heap.size v' (bs++be x)∧Frm (QiX v) w w':=by
 obtain ⟨v1,w1,hr,h1,hf1⟩:=W1 w base v bs 76 h hl hb;obtain ⟨a,cap,rfl⟩:=h.slice;have hlen1:(bs++QQ 8).length=bs.length+8:=by rw [List.length_append];rfl
 have HP:=hid (QcF w1 v1 (bs++QQ 8) bs.length (Qah x) _ (h1.bytes (fun e=>by have:=congrArg List.length e;rw [hlen1] at this;cases this)) (by rw [hlen1];omega) (by rw [hlen1];omega) (QeW x));have hx:=QfA x;have HF1:=hid hf1;have HB1:Hid (w.heap.size≤w1.heap.size):=hid hf1.size;have HR:=hid hr;clear h h1 hf1 hr;go_enter func191,ntmps191;go_wp2_with (at_builtin;refine Lib.wpList_append_run _ rfl _ _ _ _ rfl _ _ rfl rfl _ _ HR.out ?_);refine HP.out.mono ?_;rintro e w2 ⟨hf2,v2,rfl,h2⟩;have H2:Hid (Ji w2 w.heap.size v2 (bs++be x)):=hid (by rw [QfC _ _ _ (QA 8)] at h2;exact h2.mono HB1.out);have HF2:=hid (HF1.out.trans hf2 (fun _ _ e=>e.elim));clear h2 hf2 HP HF1;go_wp2;go_ret;exact ⟨v2,rfl,H2.out,HF2.out⟩
theorem Qjh (w:World) (v:Value) (bs:Blk) (p:Nat) (h:Jw w v bs) (h4:p+8≤bs.length) (hl:bs.length≤100000):
 Calls prog 123 #[v,.int .i64 p] w fun e w'=>w=w'∧e= .returned (.int .i64 (IntKind.i64.wrap (EE bs p:Int))):=by
 have HG:=hid (Qcp w v bs p h h4 (by omega));clear h;generalize EE bs p=q at*
 obtain ⟨z,hz⟩: ∃z,IntKind.i64.wrap (q:Int)=z:=⟨_,rfl⟩;rw [hz];go_enter func123,ntmps123;go_wp2_with fail;refine HG.out.mono ?_;rintro e w2 ⟨rfl,rfl⟩;go_wp2;go_ret;exact ⟨rfl,rfl⟩
theorem Wi (W:World):(zeroValue 95).run prog W= .ok (.agg kc0) W:=by kernel_rfl
theorem WI (c:Array Value) (h:c.size=51):(prog.info? 95).map (·.size)=some c.size:=by rw [h];kernel_rfl
theorem QgP {ops:Array Oper} {rest:List Oper} {o:Oper} {a:Act} {w:World} {Q:Exit→Act→World→Prop} (hw:Region.wanted o (yielded ops a.tmps)=true) (x:Operand) (ho:o.op= .load 95 x) (g:Nat) (hx:a.eval x= .pointer (some ⟨g,0,none⟩)) (c:Array Value) (hc:c.size=51)
 (hg:w.heap[g]?=some (.cells c 95 (0,0))) (h:wpList prog ops Q rest (a.put o.dst (.agg c)) w):wpList prog ops Q (o::rest) a w:=
 BigFrame.wpList_want hw fun K hK=>wp_load_row _ x ho g hx _ c _ _ hg underlying95 rfl (WI c hc) (hK _ _ h)
theorem E4 {ops:Array Oper} {rest:List Oper} {o:Oper} {a:Act} {w:World} {Q:Exit→Act→World→Prop} (hgd:o.guard=none) (x y:Operand) (ho:o.op= .store 95 x y) (g:Nat) (b:Blk) (hb:b.length=51) (hx:a.eval x= .pointer (some ⟨g,0,none⟩)) (hy:a.eval y= .agg (b.map B8).toArray) (old:Array Value) (hold:old.size=51)
 (hg:w.heap[g]?=some (.cells old 95 (0,0))) (h:wpList prog ops Q rest (a.put o.dst undef) (w.setRow g (b.map B8).toArray)):wpList prog ops Q (o::rest) a w:=
 wpList_store_row hgd _ x y ho g (b.map B8).toArray hx hy _ old hg (WI _ (by simp [hb])) (by rw [hold];simp [hb]) (Qjk b) h
theorem QfK (w:World) (s:ByteArray) (hs:s.size≤50):
 Calls prog 42 #[.string s] w fun e w'=>e= .returned (.agg (Jb s))∧Frm NoB w w':=by
 obtain ⟨g,hg⟩: ∃g,w.heap.size=g:=⟨_,rfl⟩;have hb0:=Qb w (.cells kc0 95 (0,0));have hf0:=(Frm.refl NoB w).alloc (.cells kc0 95 (0,0));obtain ⟨y,hy⟩: ∃y,w.alloc (.cells kc0 95 (0,0))=y:=⟨_,rfl⟩;have HG:=hid hg;rw [hy,hg] at hb0;rw [hy] at hf0;have d0:y.cell? ⟨g,0,none⟩=some (.int .u8 0):=(Qa hb0).trans rfl;have f0:y.frozen? ⟨g,0,none⟩=false:=Qf hb0;have hb1:=Qh (i:=0) (.int .u8 (s.size:Nat)) hb0;have hf1:Frm NoB w (y.setCell ⟨g,0,none⟩ (.int .u8 (s.size:Nat))):=hf0.setCell (.inr (by rw [←hg];exact Nat.le_refl _)) _;obtain ⟨y1,hy1⟩: ∃y1,y.setCell ⟨g,0,none⟩ (.int .u8 (s.size:Nat))=y1:=⟨_,rfl⟩;rw [hy1] at hb1 hf1;have hcp:=fun ty c=>Lib.run_copy_row_string (P:=prog) y1 76 9 ty 5 g 1 50 c s _ 95 underlying76 (by kernel_rfl) hb1 hs (by rw [Array.size_setIfInBounds];show 1+s.size≤51;omega)
 rw [Qay s hs] at hcp;have hsz:(Jb s).size=51:=by unfold Jb;simp [Qr s hs]
 have hb2:=setRow_heap y1 g _ (Jb s) _ _ hb1;have hf2:Frm NoB w (y1.setRow g (Jb s)):=hf1.setRowNew (by rw [hg];exact Nat.le_refl _) _;have hs0:(0:Int)≤((s.size:Nat):Int):=Qk _;have hs1:((s.size:Nat):Int)≤50:=by omega
 have HY:=hid (And.intro hy hy1);have HB2:=hid hb2;have HF2:=hid hf2;have HSZ:=hid hsz;clear hb0 hf0 hb1 hf1 hb2 hf2 hsz hy hy1 hg;go_enter func42,ntmps42;go_upto_region 1 with (refine Qg rfl _ _ Wi rfl ?_)
 rw [HY.out.1,HG.out];go_upto_region 2 with fail
 rw [HY.out.2];clear d0 f0;go_upto_region 3 with fail
 have HB3:=hid (setRow_heap (y1.setRow g (Jb s)) g _ (Jb s) _ _ HB2.out);have HF3:=hid (HF2.out.setRowNew (by rw [HG.out];exact Nat.le_refl _) (Jb s));go_wp2_with (first | (refine QgP rfl _ rfl g rfl _ HSZ.out HB2.out ?_) | (refine E4 rfl _ _ rfl g (Qj s) (Qr s hs) rfl rfl _ HSZ.out HB2.out ?_));have hld:=run_loadVar_row (P:=prog) ((y1.setRow g (Jb s)).setRow g (Jb s)) g 95 95 (Jb s) (0,0) _ HB3.out underlying95 rfl (WI _ HSZ.out);exact bodyPost_ret (v:= .agg (Jb s)) (YC results42 _ _ ⟨g,0,none⟩ rfl _ hld) rfl ⟨rfl,HF3.out⟩
theorem Qe6:prog.keyType 95=true:=by kernel_rfl
theorem QaG:prog.cellsOf 95=51:=by kernel_rfl
theorem Qdj (b:Blk) (h:okK b): ∃l,keyOf prog 95 (JA b)=some l:=by
 obtain ⟨d,hd⟩:=Ez;have hl:b.length=51:=h;unfold keyOf JA;simp only [underlying95];rw [if_pos (by simp [Qe6,Value.formed,underlying95,QaG,hl]),hd];unfold Program.keyLits;simp only [underlying95,Value.cells];rw [if_pos (by rw [QaG];simp [hl])];obtain ⟨ys,hys⟩:=Ww (fun i=>prog.keyLits (d+1) 5 (((b.map B8).toArray.toList.drop (i*prog.cellsOf 5)).take (prog.cellsOf 5))) (List.range 51) fun i hi=>by
  have hi:=List.mem_range.1 hi;rw [QeU,Nat.mul_one];refine ⟨[.int .u8 ((b[i]'(by omega)).toNat:Int)],?_⟩;have e:((b.map B8).drop i).take 1= [B8 (b[i]'(by omega))]:=by
   rw [List.drop_eq_getElem_cons (by rw [List.length_map];omega)];simp
  rw [e];exact WQ d _
 rw [hys];exact ⟨_,rfl⟩
theorem YU:JK prog 95 JA okK:=by
 have K:WideMaps.KeyLaw prog 95:=deep_law_laid UE (m:=2) (by omega) (by decide+kernel) (by kernel_rfl) (by kernel_rfl);refine ⟨Go.Maps.Keyed.of_law K,fun a ha=>Qdj a ha,fun a b h=>?_⟩;have h1:(a.map B8)=(b.map B8):=by
  unfold JA at h;injection h with h
  exact congrArg Array.toList h |> fun h=>by simpa using h
 have: ∀(a b:Blk),a.map B8=b.map B8→a=b:=fun a=>by
  induction a with
  | nil=>intro b h;cases b with
    | nil=>rfl
    | cons y b=>cases h
  | cons x a ih=>intro b h;cases b with
    | nil=>cases h
    | cons y b=>
      rw [List.map_cons,List.map_cons,List.cons.injEq] at h;have h2:B8 x=B8 y:=h.1;have:(x.toNat:Int)=y.toNat:=by unfold B8 at h2;injection h2
      rw [ih b h.2,UInt8.toNat_inj.1 (by omega:x.toNat=y.toNat)]
 exact this a b h1
structure Tp where
 nm:ByteArray
 id:Int
 parts:Int
 seg:Int
 byt:Int
 age:Int
 comp:Bool
 delay:Int
deriving DecidableEq
def tpz (nm:ByteArray) (a b c d e:Int) (f:Bool) (g:Int):Array Value:= #[.string nm,.int .i64 a,.int .i64 b,.int .i64 c,.int .i64 d,.int .i64 e,.bool f,.int .i64 g]
abbrev tp0:Array Value:=tpz ByteArray.empty 0 0 0 0 0 false 0
def stz (c d e:Int) (f:Bool) (g:Int):Array Value:= #[.int .i64 c,.int .i64 d,.int .i64 e,.bool f,.int .i64 g]
def n7z (a b c d e f g:Int):Array Value:= #[.int .i64 a,.int .i64 b,.int .i64 c,.int .i64 d,.int .i64 e,.int .i64 f,.int .i64 g]
def Tp.cells (t:Tp):Array Value:=tpz t.nm t.id t.parts t.seg t.byt t.age t.comp t.delay
def JH (b:Bool):Int:=if b then 1 else 0
def Tp.nums (t:Tp):List Int:= [t.id,t.parts,t.seg,t.byt,t.age,JH t.comp,t.delay]
theorem Jd: ¬U8T (31:TypeId):=by decide
theorem Qkw: ¬U8T (29:TypeId):=by decide
theorem JU (W:World):(zeroValue 31).run prog W= .ok (.agg (tp0)) W:=by kernel_rfl
theorem Qhx (W:World):(zeroValue 194).run prog W= .ok (.agg (n7z 0 0 0 0 0 0 0)) W:=by kernel_rfl
theorem Jz (nm:ByteArray) (a b c d e:Int) (f:Bool) (g:Int):(prog.info? 31).map (·.size)=some (tpz nm a b c d e f g).size:=by kernel_rfl
theorem QdC (a b c d e f g:Int):(prog.info? 194).map (·.size)=some (n7z a b c d e f g).size:=by kernel_rfl
theorem Uc (nm:ByteArray) (a b c d e:Int) (f:Bool) (g:Int):((tpz nm a b c d e f g).all fun x=>x.oneCell')=true:=by simp [tpz,Value.oneCell']
theorem QkB (a b c d e f g:Int):((n7z a b c d e f g).all fun x=>x.oneCell')=true:=by simp [n7z,Value.oneCell']
theorem JE {ops:Array Oper} {rest:List Oper} {o:Oper} {a:Act} {w:World} {Q:Exit→Act→World→Prop} (hgd:o.guard=none) (x y:Operand) (ho:o.op= .store 31 x y) (g:Nat) (nm:ByteArray) (p1 p2 p3 p4 p5:Int) (p6:Bool) (p7:Int) (hx:a.eval x= .pointer (some ⟨g,0,none⟩)) (hy:a.eval y= .agg (tpz nm p1 p2 p3 p4 p5 p6 p7)) (old:Array Value) (hold:old.size=8)
 (hg:w.heap[g]?=some (.cells old 31 (0,0))) (h:wpList prog ops Q rest (a.put o.dst undef) (w.setRow g (tpz nm p1 p2 p3 p4 p5 p6 p7))):wpList prog ops Q (o::rest) a w:=
 wpList_store_row hgd _ x y ho g (tpz nm p1 p2 p3 p4 p5 p6 p7) hx hy _ old hg (Jz _ _ _ _ _ _ _ _) (by rw [hold];rfl) (Uc _ _ _ _ _ _ _ _) h
theorem Of {ops:Array Oper} {rest:List Oper} {o:Oper} {a:Act} {w:World} {Q:Exit→Act→World→Prop} (hw:Region.wanted o (yielded ops a.tmps)=true) (x:Operand) (ho:o.op= .load 31 x) (g:Nat) (hx:a.eval x= .pointer (some ⟨g,0,none⟩)) (nm:ByteArray) (p1 p2 p3 p4 p5:Int) (p6:Bool) (p7:Int)
 (hg:w.heap[g]?=some (.cells (tpz nm p1 p2 p3 p4 p5 p6 p7) 31 (0,0))) (h:wpList prog ops Q rest (a.put o.dst (.agg (tpz nm p1 p2 p3 p4 p5 p6 p7))) w):wpList prog ops Q (o::rest) a w:=
 BigFrame.wpList_want hw fun K hK=>wp_load_row _ x ho g hx _ _ _ _ hg underlying31 rfl (Jz _ _ _ _ _ _ _ _) (hK _ _ h)
theorem Qep {ops:Array Oper} {rest:List Oper} {o:Oper} {a:Act} {w:World} {Q:Exit→Act→World→Prop} (hgd:o.guard=none) (x y:Operand) (ho:o.op= .store 194 x y) (g:Nat) (p1 p2 p3 p4 p5 p6 p7:Int) (hx:a.eval x= .pointer (some ⟨g,0,none⟩)) (hy:a.eval y= .agg (n7z p1 p2 p3 p4 p5 p6 p7)) (old:Array Value) (hold:old.size=7)
 (hg:w.heap[g]?=some (.cells old 194 (0,0))) (h:wpList prog ops Q rest (a.put o.dst undef) (w.setRow g (n7z p1 p2 p3 p4 p5 p6 p7))):wpList prog ops Q (o::rest) a w:=
 wpList_store_row hgd _ x y ho g (n7z p1 p2 p3 p4 p5 p6 p7) hx hy _ old hg (QdC _ _ _ _ _ _ _) (by rw [hold];rfl) (QkB _ _ _ _ _ _ _) h
theorem QfR (w:World) (nm:ByteArray) (p1 p2 p3 p4 p5:Int) (p6:Bool) (p7:Int):
 Calls prog 192 #[.agg (tpz nm p1 p2 p3 p4 p5 p6 p7)] w fun e w'=>e= .returned (.agg (n7z p1 p2 p3 p4 p5 (JH p6) p7))∧Frm NoB w w':=by
 have hb0:=Qb w (.cells (tpz nm p1 p2 p3 p4 p5 p6 p7) 31 (0,0));have hf0:=(Frm.refl NoB w).alloc (.cells (tpz nm p1 p2 p3 p4 p5 p6 p7) 31 (0,0));obtain ⟨y,hy⟩: ∃y,w.alloc (.cells (tpz nm p1 p2 p3 p4 p5 p6 p7) 31 (0,0))=y:=⟨_,rfl⟩;obtain ⟨g,hg⟩: ∃g,w.heap.size=g:=⟨_,rfl⟩;rw [hy,hg] at hb0;rw [hy] at hf0;have hb1:=Ql (.cells (n7z 0 0 0 0 0 0 0) 194 (0,0)) hb0;have hn1:=Qb y (.cells (n7z 0 0 0 0 0 0 0) 194 (0,0));have hf1:=hf0.alloc (.cells (n7z 0 0 0 0 0 0 0) 194 (0,0));obtain ⟨z,hz⟩: ∃z,y.alloc (.cells (n7z 0 0 0 0 0 0 0) 194 (0,0))=z:=⟨_,rfl⟩;obtain ⟨k,hk⟩: ∃k,y.heap.size=k:=⟨_,rfl⟩;rw [hz] at hb1 hn1 hf1;rw [hk] at hn1;have hkg:w.heap.size≤k:=by rw [←hk];exact hf0.size
 have hf2:Frm NoB w (z.setRow k (n7z p1 p2 p3 p4 p5 (JH p6) p7)):=hf1.setRowNew hkg _;have hn2:=setRow_heap z k _ (n7z p1 p2 p3 p4 p5 (JH p6) p7) _ _ hn1;have c1:z.cell? ⟨g,1,none⟩=some (.int .i64 p1):=(Qa hb1).trans rfl;have c2:z.cell? ⟨g,2,none⟩=some (.int .i64 p2):=(Qa hb1).trans rfl;have c3:z.cell? ⟨g,3,none⟩=some (.int .i64 p3):=(Qa hb1).trans rfl;have c4:z.cell? ⟨g,4,none⟩=some (.int .i64 p4):=(Qa hb1).trans rfl;have c5:z.cell? ⟨g,5,none⟩=some (.int .i64 p5):=(Qa hb1).trans rfl;have c6:z.cell? ⟨g,6,none⟩=some (.bool p6):=(Qa hb1).trans rfl;have c7:z.cell? ⟨g,7,none⟩=some (.int .i64 p7):=(Qa hb1).trans rfl;have HN1:=hid hn1;have HF2:=hid hf2;have HN2:=hid hn2;have HY:=hid (And.intro (And.intro hy hg) (And.intro hz hk));clear hb0 hf0 hb1 hn1 hf1 hf2 hn2 hy hg hz hk hkg;go_enter func192,ntmps192;go_upto_region 1 with (refine Qg rfl _ _ Qhx rfl ?_)
 rw [HY.out.1.1,HY.out.1.2,HY.out.2.1,HY.out.2.2];cases p6 with
 | true=>
   go_wp2_with (refine Qep rfl _ _ rfl k p1 p2 p3 p4 p5 1 p7 rfl rfl _ rfl HN1.out ?_);have hld:=run_loadVar_row (P:=prog) (z.setRow k (n7z p1 p2 p3 p4 p5 1 p7)) k 194 194 (n7z p1 p2 p3 p4 p5 1 p7) (0,0) _ HN2.out underlying194 rfl (QdC _ _ _ _ _ _ _);exact bodyPost_ret (v:= .agg (n7z p1 p2 p3 p4 p5 1 p7)) (YC results192 _ _ ⟨k,0,none⟩ rfl _ hld) rfl ⟨rfl,HF2.out⟩
 | false=>
   go_wp2_with (refine Qep rfl _ _ rfl k p1 p2 p3 p4 p5 0 p7 rfl rfl _ rfl HN1.out ?_);have hld:=run_loadVar_row (P:=prog) (z.setRow k (n7z p1 p2 p3 p4 p5 0 p7)) k 194 194 (n7z p1 p2 p3 p4 p5 0 p7) (0,0) _ HN2.out underlying194 rfl (QdC _ _ _ _ _ _ _);exact bodyPost_ret (v:= .agg (n7z p1 p2 p3 p4 p5 0 p7)) (YC results192 _ _ ⟨k,0,none⟩ rfl _ hld) rfl ⟨rfl,HF2.out⟩
theorem QhS (w:World) (nm:ByteArray) (p1 p2 p3 p4 p5 p6 p7:Int):
 Calls prog 124 #[.string nm,.agg (n7z p1 p2 p3 p4 p5 p6 p7)] w fun e w'=>e= .returned (.agg (tpz nm p1 p2 p3 p4 p5 (decide (p6=1)) p7))∧Frm NoB w w':=by
 have hb0:=Qb w (.cells (n7z p1 p2 p3 p4 p5 p6 p7) 194 (0,0));have hf0:=(Frm.refl NoB w).alloc (.cells (n7z p1 p2 p3 p4 p5 p6 p7) 194 (0,0));obtain ⟨y,hy⟩: ∃y,w.alloc (.cells (n7z p1 p2 p3 p4 p5 p6 p7) 194 (0,0))=y:=⟨_,rfl⟩;obtain ⟨g,hg⟩: ∃g,w.heap.size=g:=⟨_,rfl⟩;rw [hy,hg] at hb0;rw [hy] at hf0;have hb1:=Ql (.cells (tp0) 31 (0,0)) hb0;have hn1:=Qb y (.cells (tp0) 31 (0,0));have hf1:=hf0.alloc (.cells (tp0) 31 (0,0));obtain ⟨z,hz⟩: ∃z,y.alloc (.cells (tp0) 31 (0,0))=z:=⟨_,rfl⟩;obtain ⟨k,hk⟩: ∃k,y.heap.size=k:=⟨_,rfl⟩;rw [hz] at hb1 hn1 hf1;rw [hk] at hn1;have hkg:w.heap.size≤k:=by rw [←hk];exact hf0.size
 have hf2:Frm NoB w (z.setRow k (tpz nm p1 p2 p3 p4 p5 (decide (p6=1)) p7)):=hf1.setRowNew hkg _;have hn2:=setRow_heap z k _ (tpz nm p1 p2 p3 p4 p5 (decide (p6=1)) p7) _ _ hn1;have c1:z.cell? ⟨g,0,none⟩=some (.int .i64 p1):=(Qa hb1).trans rfl;have c2:z.cell? ⟨g,1,none⟩=some (.int .i64 p2):=(Qa hb1).trans rfl;have c3:z.cell? ⟨g,2,none⟩=some (.int .i64 p3):=(Qa hb1).trans rfl;have c4:z.cell? ⟨g,3,none⟩=some (.int .i64 p4):=(Qa hb1).trans rfl;have c5:z.cell? ⟨g,4,none⟩=some (.int .i64 p5):=(Qa hb1).trans rfl;have c6:z.cell? ⟨g,5,none⟩=some (.int .i64 p6):=(Qa hb1).trans rfl;have c7:z.cell? ⟨g,6,none⟩=some (.int .i64 p7):=(Qa hb1).trans rfl;have HN1:=hid hn1;have HF2:=hid hf2;have HN2:=hid hn2;have HY:=hid (And.intro (And.intro hy hg) (And.intro hz hk));clear hb0 hf0 hb1 hn1 hf1 hf2 hn2 hy hg hz hk hkg;go_enter func124,ntmps124;go_upto_region 1 with (refine Qg rfl _ _ JU rfl ?_)
 rw [HY.out.1.1,HY.out.1.2,HY.out.2.1,HY.out.2.2];clear HY;go_wp2_with (refine JE rfl _ _ rfl k nm p1 p2 p3 p4 p5 (decide (p6=1)) p7 rfl rfl _ rfl HN1.out ?_);have hld:=run_loadVar_row (P:=prog) (z.setRow k (tpz nm p1 p2 p3 p4 p5 (decide (p6=1)) p7)) k 31 31 (tpz nm p1 p2 p3 p4 p5 (decide (p6=1)) p7) (0,0) _ HN2.out underlying31 rfl (Jz _ _ _ _ _ _ _ _);exact bodyPost_ret (v:= .agg (tpz nm p1 p2 p3 p4 p5 (decide (p6=1)) p7)) (YC results124 _ _ ⟨k,0,none⟩ rfl _ hld) rfl ⟨rfl,HF2.out⟩
theorem Qiw:(prog.info? 31).map (fun i=>(i.zero,i.size,i.bytes))=some (some (.agg (tp0)),8,72):=by kernel_rfl
def QI (l:List Tp):List Value:=l.flatMap fun t=>t.cells.toList
theorem QO (l:List Tp):(QI l).length=l.length*8:=by
 unfold QI
 induction l with
 | nil=>rfl
 | cons t l ih=>rw [List.flatMap_cons,List.length_append,ih,List.length_cons];show 8+_=_;omega
def ApT (n0:Nat) (w:World) (xs:List Tp) (W:World):Prop:=
 (∃v,Boxed W n0 37 v∧W.ownsRow n0 31 8 v xs.length (QI xs)∧True)∧Below n0 w W
def AxT (n0:Nat) (g:Nat) (lb:Array Value) (x:Tp) (a:Act) (W:World):Prop:=
 ∃k,n0<k∧a= { tmps:= #[.slice none 0 0,.func (.func g) #[] lb,.pointer (some ⟨n0,0,none⟩),undef,.slice none 0 0,.pointer (some ⟨k,0,none⟩),.func (.func g) #[] lb,.agg x.cells,undef,undef,undef,undef,undef],defers:= [] }∧W.heap[k]?=some (.cells x.cells 31 (0,0))
theorem Qdi (w:World) (g:Nat) (lb:Array Value) (eg: ∀args w,(callFunc g args).run prog w= .ok (.enter g args) w) (S:List Tp→Prop) (N:Nat) (hN:N≤1000000)
 (hseq:SeqStopsK Fence.wide 4 prog g lb (fun t:Tp=> #[.agg t.cells]) KeepsWalks S (fun _=>True) N w):
 CallsIn Fence.wide 5 prog 196 #[.slice none 0 0,.func (.func g) #[] lb] w fun e w'=> ∃(v:Value) (ss:List Tp),e= .returned v∧S ss∧w'.ownsRow w.heap.size 31 8 v ss.length (QI ss)∧Below w.heap.size w w':=by
 refine callsIn_of_wp_marks func196 rfl trivial ?_ rfl;simp only [ntmps196,List.size_toArray,List.length_cons,List.length_nil,Nat.reduceAdd,Nat.reduceSub,Array.replicate_succ,Array.replicate_zero,List.push_toArray,List.append_toArray,List.nil_append,List.cons_append]
 gi_wp2
 have hI:OwnFrom (w.alloc (.cells #[.slice none 0 0] 37 (0,0))).heap.size (ApT w.heap.size w):=by
  have h1:=(holdsRow_own w.heap.size w.heap.size 37 31 8 (fun xs:List Tp=>xs.length) QI (fun _ _=>True)).from (w.alloc (.cells #[.slice none 0 0] 37 (0,0))).heap.size
  exact h1.and (ownFrom_below (Nat.le_refl _) (by simp))
 refine wpIn_rangeFunc_ownH (F:=Fence.wide) rfl (by omega) rfl trivial eg hseq walksK_t walksK_b ((Below.refl _ w).alloc (Nat.le_refl _) _) (fun _=>rfl) (ApT w.heap.size w) (fun _ _ _=>False) hI (fun _ _ _ _ _ h _ _=>h) ?start (AxT w.heap.size g lb) ?own ?assign ?body ?done ?stop
 case start=>exact ⟨⟨_,Boxed.new _ _ _,World.ownsRow_nil _ _ _ _,trivial⟩,(Below.refl _ w).alloc (Nat.le_refl _) _⟩
 case own=>
  rintro x a'-W W' row ⟨k,h1,h2,h3⟩ hg hr;refine ⟨k,h1,h2,(hg.block k (lt_of_block h3) fun e=>?_).trans h3⟩;obtain ⟨_,o,ho,hc⟩:=hr k e.symm;rw [h3] at ho;cases ho;cases hc
 case stop=>intro D c pre W _ _ h;exact h.elim
 case assign=>
  intro l pre x W K hp hK;obtain ⟨nm,p1,p2,p3,p4,p5,p6,p7⟩:=x;have e: ∀(T:Array Value) (y:Value),((#[7]:Array Tmp).zip #[y]).foldl (fun t (p,v)=>t.setIfInBounds p v) T=T.setIfInBounds 7 y:=fun T y=>by simp
  have e:=e #[.slice none 0 0,.func (.func g) #[] lb,.pointer (some ⟨w.heap.size,0,none⟩),undef,.slice none 0 0,undef,.func (.func g) #[] lb,undef,undef,undef,undef,undef,undef] (.agg (tpz nm p1 p2 p3 p4 p5 p6 p7));refine (congrArg (fun t=>Code.wpIn _ _ _ _ _ { tmps:=t,defers:= [] } W) e).mpr ?_;show Code.wpIn _ _ _ _ _ { tmps:= #[.slice none 0 0,.func (.func g) #[] lb,.pointer (some ⟨w.heap.size,0,none⟩),undef,.slice none 0 0,undef,.func (.func g) #[] lb,.agg #[.string nm,.int .i64 p1,.int .i64 p2,.int .i64 p3,.int .i64 p4,.int .i64 p5,.bool p6,.int .i64 p7],undef,undef,undef,undef,undef],defers:= [] } W;have HK:=hid hK;have HP:=hid hp;have HI:=hid hI;clear hK hp hseq hI eg
  gi_wp2_with gi_round_op_a
  refine HK.out _ _ ((KeepsOthers.alloc _ _).from _) (KeepsWalks.alloc _ _) (HI.out.alloc _ HP.out) ⟨W.heap.size,?_,rfl,Qb _ _⟩;obtain ⟨⟨v,hv,_⟩,_⟩:=HP.out;exact hv.lt
 case body=>
  rintro l pre ⟨nm,p1,p2,p3,p4,p5,p6,p7⟩ a' W hl-⟨⟨v,hv,hrow,-⟩,hb⟩ ⟨k,hk,rfl,hbk⟩ hlen;obtain ⟨i0,hi0,hz0,hz1,hz2⟩:=info_parts Qiw;have hbk:W.heap[k]?=some (.cells #[.string nm,.int .i64 p1,.int .i64 p2,.int .i64 p3,.int .i64 p4,.int .i64 p5,.bool p6,.int .i64 p7] 31 (0,0)):=hbk;have c0:W.cell? ⟨k,0,none⟩=some (.string nm):=(Qa hbk).trans rfl;have c1:W.cell? ⟨k,1,none⟩=some (.int .i64 p1):=(Qa hbk).trans rfl;have c2:W.cell? ⟨k,2,none⟩=some (.int .i64 p2):=(Qa hbk).trans rfl;have c3:W.cell? ⟨k,3,none⟩=some (.int .i64 p3):=(Qa hbk).trans rfl;have c4:W.cell? ⟨k,4,none⟩=some (.int .i64 p4):=(Qa hbk).trans rfl;have c5:W.cell? ⟨k,5,none⟩=some (.int .i64 p5):=(Qa hbk).trans rfl;have c6:W.cell? ⟨k,6,none⟩=some (.bool p6):=(Qa hbk).trans rfl;have c7:W.cell? ⟨k,7,none⟩=some (.int .i64 p7):=(Qa hbk).trans rfl;have d0:W.cell? ⟨w.heap.size,0,none⟩=some v:=hv.cell;have HV:=hid hv;have HR:=hid hrow;have HB:=hid hb;have HL:=hid (And.intro hl hlen);clear hv hrow hb hl hlen hseq hI eg hbk;have hnew: ∀(j:Nat) (u:Value),([.string nm,.int .i64 p1,.int .i64 p2,.int .i64 p3,.int .i64 p4,.int .i64 p5,.bool p6,.int .i64 p7]:List Value)[j]?=some u→(W.alloc (.cells #[.string nm,.int .i64 p1,.int .i64 p2,.int .i64 p3,.int .i64 p4,.int .i64 p5,.bool p6,.int .i64 p7] 31 (0,0))).cell? ((⟨W.heap.size,0,none⟩:Addr).add j)=some u:=fun j u hj=>by
   rw [show (⟨W.heap.size,0,none⟩:Addr).add j=⟨W.heap.size,j,none⟩ by unfold Addr.add;split<;>simp_all];exact (Qa (Qb W (.cells #[.string nm,.int .i64 p1,.int .i64 p2,.int .i64 p3,.int .i64 p4,.int .i64 p5,.bool p6,.int .i64 p7] 31 (0,0)))).trans (by rw [←hj,←Array.getElem?_toList])
  have HNEW:=hid hnew;clear hnew
  gi_wp2_with (first
   | (gi_at_builtin;refine wpListIn_append_own _ rfl _ _ 37 rfl w.heap.size 31 i0 (.agg (tp0)) 8 72 underlying37 hi0 hz0 hz1 hz2 rfl (by decide) v pre.length (QI pre) rfl (HR.out.alloc _) ⟨W.heap.size,0,none⟩ 1 1 [.string nm,.int .i64 p1,.int .i64 p2,.int .i64 p3,.int .i64 p4,.int .i64 p5,.bool p6,.int .i64 p7] rfl rfl HNEW.out (by simp [Value.oneCell']) (by have:=HL.out.2;simp only [maxLen];omega) (by have:=HL.out.2;omega) (by have:=HB.out.size;simp;omega) ?_;intro v' w1 hown' hgrow hnil;obtain ⟨g',cap',rfl⟩:=ownsRow_succ hown';obtain ⟨hv1,hv2,hr2,hk2,hb2⟩:=HV.out.appended (by decide) HR.out HB.out.size (Nat.le_refl _) hown' hgrow;have e1:=hv1.cell;have e2:=hv1.frozen;clear c0 c1 c2 c3 c4 c5 c6 c7 d0;go_frame)
   | gi_round_op_a)
  refine ⟨hk2.from _,⟨hk2.size,fun k o hk ho=>hk2.same k o hk (Obj.not_cells_of_walk ho)⟩,⟨_,hv2,?_,trivial⟩,HB.out.trans hb2⟩;have e3:QI (pre++ [⟨nm,p1,p2,p3,p4,p5,p6,p7⟩])=QI pre++ [.string nm,.int .i64 p1,.int .i64 p2,.int .i64 p3,.int .i64 p4,.int .i64 p5,.bool p6,.int .i64 p7]:=by unfold QI;rw [List.flatMap_append];rfl
  rw [e3,List.length_append];exact hr2
 case done=>
  rintro D ys W hD hS ⟨⟨v,hv,hrow,-⟩,hB⟩ hK;have hc:=hv.cell;have HS:=hid (And.intro hS (And.intro hrow hB));clear hS hrow hB hseq eg hI
  gi_wp2
  refine ⟨by simp,.inl ⟨_,_,rfl,run_takeDeferred hK,?_⟩⟩;exact ⟨_,results_tmp rfl _ _ _,v,ys,rfl,HS.out.1,ownsRow_putObj HS.out.2.1 _ hK rfl,HS.out.2.2.trans (belowK_b (w:=w) (Nat.le_refl _) W D _ _ (by simp at hD;omega) hK rfl rfl)⟩
section
variable {α:Type} {mk:α→Value} {ok:α→Prop} {P:Program} {k t e:TypeId} {w:World} {b r nn cnt:Nat} {f:α→Option Value} {left:α→Prop} {F:Fence} {n:Nat} {o:Oper} {a:Act} {ops:Array Oper} {rest:List Oper} {Q:Exit→Act→World→Prop}
theorem EU (hg:o.guard=none) (m:Operand) (t:TypeId) (hop:o.op=Op.range t m) (k e:TypeId) (ht:P.underlying t=some (.map k e)) (hm:a.eval m= .map (some b)) (h:Qn mk ok w b nn f)
 (hK: ∀o',o'.isCells=false→QG mk ok (w.alloc o') b w.heap.size nn f (fun a=>(f a).isSome) nn→wpListIn F n P ops Q rest (a.put o.dst (.pointer (some ⟨w.heap.size,0,none⟩))) (w.alloc o')):wpListIn F n P ops Q (o::rest) a w:=by
 refine wpListIn_plain hg fun K' hK'=>?_
 obtain ⟨o',hrun,hr⟩:=h.range ht;have hc:o'.isCells=false:=by
  obtain ⟨es,clock,seen,_,_,_,_,_,h6,_⟩:=hr;rw [Qb w o'] at h6;injection h6 with h6
  rw [h6];rfl
 unfold Oper.wpIn;refine ⟨by simp [Oper.about,hop],?_⟩;rw [Oper.semAt_plain F _ _ (by rw [hop];intro c hc';cases hc')];simp [execOp,hop,hm,hrun,Result.andThen];exact hK' _ _ (hK o' hc hr)
theorem Oo (hg:o.guard=none) (it:Operand) (hop:o.op=Op.next it false) (K:JK P k mk ok) (hit:a.eval it= .pointer (some ⟨r,0,none⟩)) (h:QG mk ok w b r nn f left cnt)
 (hDone:(∀a,ok a→¬left a)→wpListIn F n P ops Q rest (a.put o.dst (.tuple #[.bool false])) w)
 (hMore: ∀x v w' cnt',ok x→left x→f x=some v→QG mk ok w' b r nn f (fun y=>left y∧y≠x) cnt'→cnt'<cnt→Frm (Q0 r) w w'→w'.heap.size=w.heap.size→
  (Instr.entry (.pointer (some ⟨r,0,none⟩))).run P w'= .ok (.tuple #[mk x,v]) w'→wpListIn F n P ops Q rest (a.put o.dst (.tuple #[.bool true,mk x,v])) w'):wpListIn F n P ops Q (o::rest) a w:=by
 refine wpListIn_plain hg fun K' hK'=>?_
 unfold Oper.wpIn;refine ⟨by simp [Oper.about,hop],?_⟩;rw [Oper.semAt_plain F _ _ (by rw [hop];intro c hc';cases hc')];rcases h.next K o.type with ⟨h0,hrun⟩ | ⟨x,v,w',cnt',h1,h2,h3,hrun,h4,h5,h6,h7,h8⟩
 ·simp [execOp,hop,hit,hrun,Result.andThen];exact hK' _ _ (hDone h0)
 ·simp [execOp,hop,hit,hrun,Result.andThen];exact hK' _ _ (hMore x v w' cnt' h1 h2 h3 h4 h5 h6 h7 h8)
theorem QG.walk (h:QG mk ok w b r nn f left cnt): ∃o:Obj,w.heap[r]?=some o∧o.isWalk=true:=by
 obtain ⟨es,clock,seen,_,_,_,_,_,h6,_⟩:=h;exact ⟨_,h6,rfl⟩
theorem QG.walks {w':World} (h:QG mk ok w b r nn f left cnt) (hk:KeepsWalks w w'):QG mk ok w' b r nn f left cnt:=by
 obtain ⟨es,clock,seen,h1,h2,h3,h4,h5,h6,h7⟩:=h;exact ⟨es,clock,seen,hk.same _ _ h1 rfl,h2,h3,h4,h5,hk.same _ _ h6 rfl,h7⟩
end
theorem Qe5 {r:Nat} {w w':World} (h:Frm (Q0 r) w w'):w.grownBy w' (some r):=
 ⟨h.os,h.tape,h.output,h.size,fun k hk hne=>h.block k hk fun e=>hne (by rw [show k=r from e])⟩
def tpV (M:Blk→Option Tp):Blk→Option Value:=fun a=>(M a).map fun t=> .agg t.cells
def Qjr (M:Blk→Option Tp) (ss:List Tp):Prop:= ∃ks:List Blk,ks.Nodup∧(∀a,a∈ks↔okK a∧(M a).isSome=true)∧ss.map some=ks.map M
theorem Qi5 (w:World) (Bm b nn:Nat) (M:Blk→Option Tp) (hBm:Bm<w.heap.size) (hm:w.cell? ⟨Bm,0,none⟩=some (.map (some b))) (hmap:Qn JA okK w b nn (tpV M)):
 SeqStopsK Fence.wide 4 prog 197 #[.pointer (some ⟨Bm,0,none⟩)] (fun t:Tp=> #[.agg t.cells]) KeepsWalks (Qjr M) (fun _=>True) nn w:=by
 intro l J Jx W hW hJ hJx hY h0;have hm0:W.cell? ⟨Bm,0,none⟩=some (.map (some b)):=(hW.cell (p:=⟨Bm,0,none⟩) hBm).trans hm;have hmp:Qn JA okK W b nn (tpV M):=by
  obtain ⟨es,clock,h1,h2,h3,h4,h5⟩:=hmap;exact ⟨es,clock,(hW.block b (lt_of_block h1)).trans h1,h2,h3,h4,h5⟩
 refine callsIn_of_wp func197 rfl trivial ?_ rfl;simp only [ntmps197,List.size_toArray,List.length_cons,List.length_nil,Nat.reduceAdd,Nat.reduceSub,Array.replicate_succ,Array.replicate_zero,List.push_toArray,List.append_toArray,List.nil_append,List.cons_append];have HM:=hid (And.intro hmp (And.intro hJ hJx));have HY:=hid hY;have H0:=hid h0;clear hmap hm hmp hJ hJx hY h0 hW hBm
 gi_wp2_with (first
  | (gi_at_range;refine EU rfl _ 91 rfl 95 31 underlying91 rfl HM.out.1 ?_;intro o' ho' hrg0)
  | gi_in)
 have HRG:=hid hrg0;have HJ0:Hid (J [] (W.alloc o')):=hid (HM.out.2.1 [] W _ none H0.out (World.grownBy_alloc W o' none) (fun r e=>by cases e));clear hrg0 hm0
 gi_loopw [4] (fun _ wr=> ∃(left:Blk→Prop) (cnt:Nat) (ss:List Tp) (ks:List Blk),QG JA okK wr b W.heap.size nn (tpV M) left cnt∧J ss wr∧ss.length+cnt≤nn∧ks.Nodup∧(∀a,okK a→((tpV M a).isSome=true↔left a∨a∈ks))∧(∀a∈ks,okK a∧¬left a)∧ss.map some=ks.map M)
  (fun _ wr=>wr.rangeLeft b W.heap.size)
 case atStart=>
  exact ⟨_,_,[],[],HRG.out,HJ0.out,by simp,List.nodup_nil,fun a _=>by simp,fun a ha=>by simp at ha,rfl⟩
 case round=>
  obtain ⟨left,cnt,ss,ks,hrg,hJs,hcs,hnd,hall,hks,hss⟩:=hrel;have HR:=hid hrg;have HS:=hid (And.intro hJs (And.intro hcs (And.intro hnd (And.intro hall (And.intro hks hss)))));clear hrg hJs hcs hnd hall hks hss HRG HJ0
  gi_wp2_with (first
   | (gi_at_next;refine Oo rfl _ rfl YU rfl HR.out ?_ ?_)
   | gi_in)
  ·intro hd;have HD:=hid hd;clear hd
   gi_wp2
   go_end0;refine ⟨⟨_,rfl⟩,.inl ⟨ss,⟨ks,HS.out.2.2.1,fun a=>?_,HS.out.2.2.2.2.2⟩,HS.out.1⟩⟩;constructor
   ·intro ha;have hok:=(HS.out.2.2.2.2.1 a ha).1;have:=(HS.out.2.2.2.1 a hok).2 (.inr ha);exact ⟨hok,by unfold tpV at this;rw [Option.isSome_map] at this;exact this⟩
   ·rintro ⟨hok,hs⟩;rcases (HS.out.2.2.2.1 a hok).1 (by unfold tpV;rw [Option.isSome_map];exact hs) with h | h
    ·exact absurd h (HD.out a hok)
    ·exact h
  ·intro x v w2 cnt2 hok hlx hfx hrg2 hlt hfr hsz hen;obtain ⟨nm,p1,p2,p3,p4,p5,p6,p7,ht,rfl⟩: ∃nm p1 p2 p3 p4 p5 p6 p7,M x=some ⟨nm,p1,p2,p3,p4,p5,p6,p7⟩∧v= .agg #[.string nm,.int .i64 p1,.int .i64 p2,.int .i64 p3,.int .i64 p4,.int .i64 p5,.bool p6,.int .i64 p7]:=by
    unfold tpV at hfx;cases hM:M x with
    | none=>rw [hM] at hfx;cases hfx
    | some t=>
      obtain ⟨nm,p1,p2,p3,p4,p5,p6,p7⟩:=t;rw [hM] at hfx;injection hfx with hfx
      exact ⟨nm,p1,p2,p3,p4,p5,p6,p7,rfl,hfx.symm⟩
   have hJ2:J ss w2:=HM.out.2.1 ss wr w2 (some W.heap.size) HS.out.1 (Qe5 hfr) (fun r e=>by cases e;exact ⟨Nat.le_refl _,HR.out.walk⟩);have hJ3:J ss (w2.alloc (.cells #[.string nm,.int .i64 p1,.int .i64 p2,.int .i64 p3,.int .i64 p4,.int .i64 p5,.bool p6,.int .i64 p7] 31 (0,0))):=HM.out.2.1 ss w2 _ none hJ2 (World.grownBy_alloc _ _ none) (fun r e=>by cases e);obtain ⟨fn,tmps,assign,body,hy,hRD⟩:=HY.out ss ⟨nm,p1,p2,p3,p4,p5,p6,p7⟩ _ hJ3 (by have:=HS.out.2.1;omega);have hy:(Instr.yield l #[.agg #[.string nm,.int .i64 p1,.int .i64 p2,.int .i64 p3,.int .i64 p4,.int .i64 p5,.bool p6,.int .i64 p7]]).run prog (w2.alloc (.cells #[.string nm,.int .i64 p1,.int .i64 p2,.int .i64 p3,.int .i64 p4,.int .i64 p5,.bool p6,.int .i64 p7] 31 (0,0)))= .ok (.round l fn tmps assign body) (w2.alloc (.cells #[.string nm,.int .i64 p1,.int .i64 p2,.int .i64 p3,.int .i64 p4,.int .i64 p5,.bool p6,.int .i64 p7] 31 (0,0))):=hy;have HR2:=hid hrg2;have HRD:=hid hRD;have HX:=hid (And.intro hok (And.intro hlx (And.intro ht hlt)));clear hok hlx ht hlt hfx hrg2 hfr hsz hJ2 hJ3 hRD
   gi_wp2
   refine HRD.out.mono ?_;clear HRD;rintro e W3 (⟨rfl,hJ3,hk3⟩ | ⟨rfl,hJx⟩)
   ·have HR3:=hid ((HR2.out.walks (KeepsWalks.alloc _ (.cells #[.string nm,.int .i64 p1,.int .i64 p2,.int .i64 p3,.int .i64 p4,.int .i64 p5,.bool p6,.int .i64 p7] 31 (0,0)))).walks hk3);have HJ3:=hid hJ3;clear hJ3 hk3 HR2 hy
    gi_wp2
    go_roundw
    case rel=>
     refine ⟨_,cnt2,ss++ [⟨nm,p1,p2,p3,p4,p5,p6,p7⟩],ks++ [x],HR3.out,HJ3.out,?_,?_,fun a ha=>?_,fun a ha=>?_,?_⟩
     ·have:=HS.out.2.1;have:=HX.out.2.2.2;rw [List.length_append];simp;omega
     ·rw [List.nodup_append];exact ⟨HS.out.2.2.1,by simp,fun a ha b hb e=>by
       have hb:b=x:=by simpa using hb
       subst e;subst hb;exact (HS.out.2.2.2.2.1 a ha).2 HX.out.2.1⟩
     ·rw [HS.out.2.2.2.1 a ha,List.mem_append,List.mem_singleton];by_cases e:a=x
      ·subst e;simp [HX.out.2.1]
      ·simp [e]
     ·rcases List.mem_append.1 ha with h | h
      ·exact ⟨(HS.out.2.2.2.2.1 a h).1,fun h2=>(HS.out.2.2.2.2.1 a h).2 h2.1⟩
      ·have:a=x:=by simpa using h
       subst this;exact ⟨HX.out.1,fun h2=>h2.2 rfl⟩
     ·rw [List.map_append,List.map_append,HS.out.2.2.2.2.2];simp [HX.out.2.2.1]
    case measure=>rw [HR3.out.left_eq,HR.out.left_eq];exact HX.out.2.2.2
   ·have HJx:=hid hJx;clear hJx HR2 hy
    gi_wp2
    exact bodyPost_ret (v:= .tuple #[]) (by simp [results,results197,go_sem]) rfl ⟨⟨_,rfl⟩,.inr ⟨_,trivial,HJx.out⟩⟩
theorem QeQ (w:World) (mb:Option Nat):Calls prog 108 #[.map mb] w fun e w'=>e= .returned (.func (.func 197) #[] #[.pointer (some ⟨w.heap.size,0,none⟩)])∧w'=w.alloc (.cells #[.map mb] 91 (0,0)):=by
 have hmf: ∀(fn:Fn) (first cap:Array Value) (W:World),(Instr.makeFunc fn first cap).run prog W= .ok (.func fn first cap) W:=fun _ _ _ _=>rfl
 go_enter func108,ntmps108;go_wp2_with fail;go_ret;exact ⟨rfl,rfl⟩
theorem QbW (w:World) (g:Nat) (lb:Array Value) (eg: ∀args w,(callFunc g args).run prog w= .ok (.enter g args) w) (S:List Tp→Prop) (N:Nat) (hN:N≤1000000)
 (hseq:SeqStopsK Fence.wide 4 prog g lb (fun t:Tp=> #[.agg t.cells]) KeepsWalks S (fun _=>True) N w):
 Calls prog 107 #[.func (.func g) #[] lb] w fun e w'=> ∃(v:Value) (ss:List Tp),e= .returned v∧S ss∧w'.ownsRow w.heap.size 31 8 v ss.length (QI ss)∧Below w.heap.size w w':=by
 have HA:=hid ((callsIn_wide (n:=5)).1 (Qdi w g lb eg S N hN hseq));clear hseq eg;go_enter func107,ntmps107;go_wp2_with fail;refine HA.out.mono ?_;rintro e w2 ⟨v,ss,rfl,h⟩;have H:=hid h;clear h HA;go_wp2;go_ret;exact ⟨v,ss,rfl,H.out⟩
instance:Inhabited Tp:=⟨⟨ByteArray.empty,0,0,0,0,0,false,0⟩⟩
def QD (a b:ByteArray):Bool:=Op.bytesLess a.toList b.toList
def U3 (a b:ByteArray):Int:=if QD a b then-1 else if a.toList==b.toList then 0 else 1
def QgQ (x y:Tp):Int:=U3 x.nm y.nm
theorem Qb9 (w:World) (a b:ByteArray):Calls prog 111 #[.string a,.string b] w fun e w'=>w=w'∧e= .returned (.int .i64 (U3 a b)):=by
 have hN: ∀(s:ByteArray),Calls prog 200 #[.string s] w fun e w'=>w=w'∧e= .returned (.bool false):=fun s=>by
  go_enter func200,ntmps200;go_wp2_with fail;go_ret;exact ⟨rfl,rfl⟩
 go_enter func111,ntmps111;go_wp2_with fail;refine (hN a).mono ?_;rintro e w1 ⟨rfl,rfl⟩;go_wp2_with fail;refine (hN b).mono ?_;rintro e w1 ⟨rfl,rfl⟩;go_wp2_with fail
 ·have h:Op.bytesLess a.toList b.toList=true:=by assumption
  go_ret;refine ⟨rfl,?_⟩;rw [show U3 a b= -1 by unfold U3 QD;rw [if_pos h]];rfl
 ·have h1:Op.bytesLess a.toList b.toList=false:=by assumption
  have h2:(!a.toList==b.toList)=true:=by assumption
  go_ret;refine ⟨rfl,?_⟩;rw [show U3 a b=1 by unfold U3 QD;rw [if_neg (by rw [h1];decide),if_neg (by intro h;rw [h] at h2;cases h2)]];rfl
 ·have h1:Op.bytesLess a.toList b.toList=false:=by assumption
  have h2:(!a.toList==b.toList)=false:=by assumption
  go_ret;refine ⟨rfl,?_⟩;rw [show U3 a b=0 by unfold U3 QD;rw [if_neg (by rw [h1];decide),if_pos (by simpa using h2)]];rfl
theorem Qcj (w:World) (nm nm':ByteArray) (p1 p2 p3 p4 p5 p7 q1 q2 q3 q4 q5 q7:Int) (p6 q6:Bool):Calls prog 110 #[.agg (tpz nm p1 p2 p3 p4 p5 p6 p7),.agg (tpz nm' q1 q2 q3 q4 q5 q6 q7)] w fun e w'=>e= .returned (.int .i64 (U3 nm nm'))∧w'=(w.alloc (.cells (tpz nm p1 p2 p3 p4 p5 p6 p7) 31 (0,0))).alloc (.cells (tpz nm' q1 q2 q3 q4 q5 q6 q7) 31 (0,0)):=by
 have b1:=Ql (.cells (tpz nm' q1 q2 q3 q4 q5 q6 q7) 31 (0,0)) (Qb w (.cells (tpz nm p1 p2 p3 p4 p5 p6 p7) 31 (0,0)));have b2:=Qb (w.alloc (.cells (tpz nm p1 p2 p3 p4 p5 p6 p7) 31 (0,0))) (.cells (tpz nm' q1 q2 q3 q4 q5 q6 q7) 31 (0,0));have e2:(w.alloc (.cells (tpz nm p1 p2 p3 p4 p5 p6 p7) 31 (0,0))).heap.size=w.heap.size+1:=by simp
 rw [e2] at b2;obtain ⟨y,hy⟩: ∃y,(w.alloc (.cells (tpz nm p1 p2 p3 p4 p5 p6 p7) 31 (0,0))).alloc (.cells (tpz nm' q1 q2 q3 q4 q5 q6 q7) 31 (0,0))=y:=⟨_,rfl⟩;rw [hy] at b1 b2 ⊢;have c1:y.cell? ⟨w.heap.size,0,none⟩=some (.string nm):=(Qa b1).trans rfl;have c2:y.cell? ⟨w.heap.size+1,0,none⟩=some (.string nm'):=(Qa b2).trans rfl;have HY:=hid hy;have KC:Hid (∀W,Calls prog 111 #[.string nm,.string nm'] W fun e w'=>W=w'∧e= .returned (.int .i64 (U3 nm nm'))):=hid fun W=>Qb9 W nm nm'
 clear b1 b2 e2 hy;go_enter func110,ntmps110;go_upto_region 1 with fail
 rw [HY.out];go_wp2_with fail;refine (KC.out _).mono ?_;rintro e w2 ⟨rfl,rfl⟩;clear KC c1 c2;go_wp2;go_ret;exact ⟨rfl,rfl⟩
theorem Ju (a b:ByteArray):QD a b=decide (a.toList<b.toList):=bytesLess_eq _ _
theorem Qam:ltOf QgQ=fun x y=>QD x.nm y.nm:=by
 funext x y
 unfold ltOf QgQ U3;by_cases h:QD x.nm y.nm=true
 ·rw [if_pos h,h];rfl
 ·rw [if_neg h];rw [Bool.not_eq_true] at h;rw [h];split<;>rfl
theorem swoT:Sort.SWO (ltOf QgQ):=by
 rw [Qam];refine ⟨fun x=>?_,fun x y z h1 h2=>?_,fun x y z h1 h2=>?_⟩
 ·show QD x.nm x.nm=false;rw [Ju];exact decide_eq_false (List.lt_irrefl _)
 ·have h1:QD x.nm y.nm=true:=h1;have h2:QD y.nm z.nm=true:=h2;rw [Ju] at h1 h2;show QD x.nm z.nm=true;rw [Ju];exact decide_eq_true (List.lt_trans (of_decide_eq_true h1) (of_decide_eq_true h2))
 ·have h1:QD x.nm y.nm=false:=h1;have h2:QD y.nm z.nm=false:=h2;rw [Ju] at h1 h2;show QD x.nm z.nm=false;rw [Ju];refine decide_eq_false ?_;have h1:=List.not_lt.1 (of_decide_eq_false h1);have h2:=List.not_lt.1 (of_decide_eq_false h2);exact List.not_lt.2 (List.le_trans h2 h1)
theorem ET: ∀(l:List Tp) (t:Nat),t<l.length*8→(QI l)[t]! =(l[t/8]!.cells.toList)[t%8]!
 | [],t,h=>by simp at h
 | a::r,t,h=>by
   have e:QI (a::r)=a.cells.toList++QI r:=rfl;have hl:a.cells.toList.length=8:=rfl;rw [e];by_cases h8:t<8
   ·have h1:t/8=0:=by omega
    have h2:t%8=t:=by omega
    rw [h1,h2,List.getElem!_eq_getElem?_getD,List.getElem?_append_left (by omega),←List.getElem!_eq_getElem?_getD];rfl
   ·obtain ⟨m,rfl⟩: ∃m,t=m+8:=⟨t-8,by omega⟩;have h1:(m+8)/8=m/8+1:=by omega
    have h2:(m+8)%8=m%8:=by omega
    rw [h1,h2,List.getElem!_eq_getElem?_getD,List.getElem?_append_right (by omega),hl,Nat.add_sub_cancel,←List.getElem!_eq_getElem?_getD,ET r m (by rw [List.length_cons] at h;omega)];rfl
theorem QaJ (d:Array Tp):Go.Sort.flatK (fun t:Tp=>t.cells.toList) 8 d=(QI d.toList).toArray:=by
 refine Go.Sort.ext_get! ?_ fun t ht=>?_
 ·rw [Go.Sort.size_flatK];show d.size*8=(QI d.toList).toArray.size;simp [QO]
 ·rw [Go.Sort.size_flatK] at ht;rw [Go.Sort.get_flatK _ _ _ _ ht];have:=ET d.toList t (by rw [Array.length_toList];exact ht);have e1:(QI d.toList).toArray[t]! =(QI d.toList)[t]!:=by simp
  have e2:d.toList[t/8]! =d[t/8]!:=by simp only [getElem!_def,Array.getElem?_toList]
  rw [e1,this,e2]
theorem Qjf (w:World) (base:Nat) (v:Value) (ss:List Tp) (h:w.ownsRow base 31 8 v ss.length (QI ss)) (hl:ss.length≤1000000):
 Calls prog 109 #[v,.func (.func 110) #[] #[]] w fun e w'=>e= .returned (.tuple #[])∧∃ss',ss'.Perm ss∧(ss'.Pairwise fun x y=>QD y.nm x.nm=false)∧w'.ownsRow base 31 8 v ss'.length (QI ss')∧Frm (Up base) w w':=by
 rcases h.2 with ⟨rfl,h0⟩ | ⟨g,cap,cur,rfl,hbg,hg,hnc,hcm,hcs,htake⟩
 ·have hx:ss= []:=List.eq_nil_of_length_eq_zero h0;subst hx;refine (AnyF.slices_SortFunc_none Tryz.sortT none 0 _ w).mono ?_;rintro e w' ⟨he,rfl⟩;exact ⟨he,[],List.Perm.refl _,List.Pairwise.nil,h,Frm.refl _ _⟩
 ·have hcells: ∀j,j<(QI ss).length→cur[j]?=(QI ss)[j]?:=fun j hj=>by
   rw [←htake,List.getElem?_take,if_pos (by rw [QO] at hj;exact hj),Array.getElem?_toList]
  have hH:Go.Sort.HoldsK (fun t:Tp=>t.cells.toList) 8 w g 0 ss.toArray:=by
   intro j hj;rw [Go.Sort.size_flatK] at hj;have hj2:j<(QI ss).length:=by rw [QO];simpa using hj
   rw [QaJ];refine ⟨?_,Qf hg⟩;rw [Nat.zero_add,Qa hg,hcells j hj2];simp [hj2]
  have hcmp:CmpLays prog 110 #[] (fun t:Tp=>t.cells.toList) 8 QgQ g 0 ss.toArray.size w:=by
   intro m os dk hdk x y;obtain ⟨nm,p1,p2,p3,p4,p5,p6,p7⟩:=x;obtain ⟨nm',q1,q2,q3,q4,q5,q6,q7⟩:=y;refine (Qcj (sortWorldK (fun t:Tp=>t.cells.toList) 8 w g 0 m dk os) nm nm' p1 p2 p3 p4 p5 p7 q1 q2 q3 q4 q5 q7 p6 q6).mono ?_;rintro e w' ⟨he,hw⟩;refine ⟨he,0,#[.cells (tpz nm p1 p2 p3 p4 p5 p6 p7) 31 (0,0)]++ #[.cells (tpz nm' q1 q2 q3 q4 q5 q6 q7) 31 (0,0)],?_⟩;rw [hw,←Go.Sort.grow_grow,←Go.Sort.alloc_eq_grow,←Go.Sort.alloc_eq_grow];rfl
  have hL:=AnyQ.slices_SortFunc Tryz.sortT 8 (fun W=>by kernel_rfl) (fun W=>by kernel_rfl) (fun t:Tp=>t.cells.toList) (fun _=>rfl) (fun x v hv=>by
   obtain ⟨nm,p1,p2,p3,p4,p5,p6,p7⟩:=x;have:=Uc nm p1 p2 p3 p4 p5 p6 p7;rw [Array.all_eq_true_iff_forall_mem] at this;exact this v (Array.mem_toList_iff.1 hv)) QgQ swoT 110 #[] g 0 cap ss.toArray w (enters_of func110 (by kernel_rfl) rfl) hcmp hH (lt_of_block hg) (by simp;omega)
  refine hL.mono ?_;rintro e w' ⟨he,d',n,os,hp,hs,hw⟩;have hsz:d'.size=ss.length:=hp.1.trans (by simp);have hperm:d'.toList.Perm ss:=by
   have h1:=hp.2.2;have e1:d'.extract 0 ss.toArray.size=d':=by rw [←hp.1];exact Array.extract_size
   have e2:ss.toArray.extract 0 ss.toArray.size=ss.toArray:=Array.extract_size;rw [e1,e2] at h1;exact h1
  have hcur:w'.heap[g]?=some (.cells (Go.Sort.putCells id 0 (Go.Sort.flatK (fun t:Tp=>t.cells.toList) 8 d') cur) 31 (0,0)):=by
   rw [hw];show (Array.modify w.heap g _++os)[g]?=_;rw [Array.getElem?_append_left (by rw [Array.size_modify];exact lt_of_block hg),Array.getElem?_modify,if_pos rfl,hg];rfl
  refine ⟨he,d'.toList,hperm,?_,⟨by rw [QO],.inr ⟨g,cap,_,by simp [hsz],hbg,hcur,by rw [Array.length_toList,hsz];exact hnc,hcm,by rw [←hcs];simp [Go.Sort.putCells],?_⟩⟩,?_⟩
  ·rw [List.pairwise_iff_getElem];intro i j hi hj hij;rw [Array.length_toList] at hi hj;have h1:=hs i j (Nat.zero_le _) hij (by rw [←hp.1];exact hj);rw [Qam] at h1;rw [getElem!_pos d' i hi,getElem!_pos d' j hj] at h1;exact h1
  ·apply List.ext_getElem?;intro i;rw [Array.length_toList,hsz,List.getElem?_take];split
   ·rename_i hi
    have hi':i<(QI d'.toList).length:=by rw [QO,Array.length_toList,hsz];exact hi
    have hic:i<cur.size:=by rw [hcs];have:ss.length*8≤cap*8:=Nat.mul_le_mul_right 8 hnc;omega
    rw [Array.getElem?_toList];unfold Go.Sort.putCells;rw [Array.getElem?_mapIdx,Array.getElem?_eq_getElem hic,Option.map_some,if_pos ⟨Nat.zero_le _,by rw [Go.Sort.size_flatK,hsz];omega⟩,QaJ,List.getElem?_eq_getElem hi'];simp [hi']
   ·rename_i hi
    rw [List.getElem?_eq_none (by rw [QO,Array.length_toList,hsz];omega)]
  ·rw [hw];refine QgH ?_ rfl rfl rfl hbg fun k hk hne=>?_
   ·show w.heap.size≤(Array.modify w.heap g _++os).size;simp
   ·show (Array.modify w.heap g _++os)[k]?=_;rw [Array.getElem?_append_left (by rw [Array.size_modify];exact hk),Array.getElem?_modify,if_neg (fun e=>hne e.symm)]
theorem OP {P:Program} {w:World} {r:Nat} {m:Option Nat} {s l:Nat} {seen:Array Nat} (hb:w.heap[r]?=some (.mapIter m s seen l)):(getObj r).run P w= .ok (.mapIter m s seen l) w:=by
 simp [getObj,Sem.run,hb]
theorem Qe8 (w:World) (Bm:Nat) (hBm:Bm<w.heap.size) (hm:w.cell? ⟨Bm,0,none⟩=some (.map none)):
 SeqStopsK Fence.wide 4 prog 197 #[.pointer (some ⟨Bm,0,none⟩)] (fun t:Tp=> #[.agg t.cells]) KeepsWalks (fun ss=>ss= []) (fun _=>True) 0 w:=by
 intro l J Jx W hW hJ hJx hY h0;have hm0:W.cell? ⟨Bm,0,none⟩=some (.map none):=(hW.cell (p:=⟨Bm,0,none⟩) hBm).trans hm;refine callsIn_of_wp func197 rfl trivial ?_ rfl;simp only [ntmps197,List.size_toArray,List.length_cons,List.length_nil,Nat.reduceAdd,Nat.reduceSub,Array.replicate_succ,Array.replicate_zero,List.push_toArray,List.append_toArray,List.nil_append,List.cons_append];have HM:=hid (And.intro hJ hJx);have HY:=hid hY;have H0:=hid h0;clear hm hJ hJx hY h0 hW hBm;have hrange:(Instr.range 91 (.map none)).run prog W= .ok (.pointer (some ⟨W.heap.size,0,none⟩)) (W.alloc (.mapIter none 0 #[] 0)):=by
  simp [Instr.range,run_underlying underlying91,Result.andThen,go_sem]
 have hget:(getObj W.heap.size).run prog (W.alloc (.mapIter none 0 #[] 0))= .ok (.mapIter none 0 #[] 0) (W.alloc (.mapIter none 0 #[] 0)):=by
  exact OP (Qb W (.mapIter none 0 #[] 0))
 have hnext: ∀ty,(Instr.next (.pointer (some ⟨W.heap.size,0,none⟩)) false ty).run prog (W.alloc (.mapIter none 0 #[] 0))= .ok (.tuple #[.bool false]) (W.alloc (.mapIter none 0 #[] 0)):=fun ty=>by
  simp [Instr.next,hget,Result.andThen,go_sem]
 have HJ0:Hid (J [] (W.alloc (.mapIter none 0 #[] 0))):=hid (HM.out.1 [] W _ none H0.out (World.grownBy_alloc W _ none) (fun r e=>by cases e));obtain ⟨Y,hY⟩: ∃Y,W.alloc (.mapIter none 0 #[] 0)=Y:=⟨_,rfl⟩;obtain ⟨r,hr⟩: ∃r,W.heap.size=r:=⟨_,rfl⟩;rw [hY] at hrange hnext HJ0;rw [hr] at hrange hnext;clear hget hY hr HY H0 HM
 gi_wp2_with gi_in
 gi_loopw [4] (fun _ wr=>wr=Y) (fun _ _=>0)
 case atStart=>rfl
 case round=>
  obtain rfl:=hrel
  gi_wp2_with gi_in
  go_end0;exact ⟨⟨_,rfl⟩,.inl ⟨[],rfl,HJ0.out⟩⟩
structure Q9 (L:List Tp):Prop where
 asc:L.Pairwise fun x y=>QD x.nm y.nm=true
 nm: ∀t∈L,t.nm.size≤50
def QX (L:List Tp):Blk→Option Tp:=fun a=>L.find? fun t=>Qj t.nm==a
theorem J0 (a:ByteArray):QD a a=false:=by rw [Ju];exact decide_eq_false (List.lt_irrefl _)
theorem U6 {a b:ByteArray} (h:QD a b=true):QD b a=false:=by
 rw [Ju] at h ⊢;exact decide_eq_false fun h2=>List.lt_irrefl _ (List.lt_trans (of_decide_eq_true h) h2)
theorem toList_inj {a b:ByteArray} (h:a.toList=b.toList):a=b:=by
 have h1:a.data.toList=b.data.toList:=by rw [←ByteArray.toList_eq,←ByteArray.toList_eq];exact h
 exact ByteArray.ext (Array.toList_inj.1 h1)
theorem UL {a b:ByteArray} (h1:QD a b=false) (h2:QD b a=false):a=b:=by
 rw [Ju] at h1 h2;exact toList_inj (List.le_antisymm (List.not_lt.1 (of_decide_eq_false h2)) (List.not_lt.1 (of_decide_eq_false h1)))
theorem Q9.nodup {L:List Tp} (h:Q9 L):L.Nodup:=h.asc.imp fun hl e=>by rw [e,J0] at hl;cases hl
theorem Q9.one {L:List Tp} (h:Q9 L) {s t:Tp} (hs:s∈L) (ht:t∈L) (e:s.nm=t.nm):s=t:=by
 obtain ⟨i,hi,rfl⟩:=List.getElem_of_mem hs;obtain ⟨j,hj,rfl⟩:=List.getElem_of_mem ht;have ha:=List.pairwise_iff_getElem.1 h.asc;rcases Nat.lt_trichotomy i j with hlt | rfl | hlt
 ·have:=ha i j hi hj hlt;rw [e,J0] at this;cases this
 ·rfl
 ·have:=ha j i hj hi hlt;rw [e,J0] at this;cases this
theorem Q9.find {L:List Tp} (h:Q9 L) {s:ByteArray} (hs:s.size≤50) {t:Tp}:QX L (Qj s)=some t↔t∈L∧t.nm=s:=by
 unfold QX;constructor
 ·intro hf;have h1:=List.mem_of_find?_eq_some hf;have h2:=List.find?_some hf;exact ⟨h1,JO _ _ (h.nm t h1) hs (by simpa using h2)⟩
 ·rintro ⟨h1,rfl⟩;cases hf:L.find? fun t'=>Qj t'.nm==Qj t.nm with
  | none=>
    have:=List.find?_eq_none.1 hf t h1;simp at this
  | some t'=>
    have h2:=List.mem_of_find?_eq_some hf;have h3:=List.find?_some hf;rw [h.one h2 h1 (JO _ _ (h.nm t' h2) (h.nm t h1) (by simpa using h3))]
theorem Q9.sub {L:List Tp} {a:Blk} {t:Tp} (h:QX L a=some t):t∈L∧a=Qj t.nm:=
 ⟨List.mem_of_find?_eq_some h,by have:=List.find?_some h;exact (by simpa using this:Qj t.nm=a).symm⟩
theorem Q9.all {L ss:List Tp} (h:Q9 L) (ha:Qjr (QX L) ss):ss.Perm L:=by
 obtain ⟨ks,hnd,hks,hmap⟩:=ha;have hmem: ∀t,t∈ss↔t∈L:=fun t=>by
  constructor
  ·intro ht;have:some t∈ss.map some:=List.mem_map.2 ⟨t,ht,rfl⟩;rw [hmap] at this;obtain ⟨a,_,ha⟩:=List.mem_map.1 this;exact (Q9.sub ha).1
  ·intro ht;have hf:=(h.find (h.nm t ht)).2 ⟨ht,rfl⟩;have hk:Qj t.nm∈ks:=(hks _).2 ⟨Qr _ (h.nm t ht),by rw [hf];rfl⟩;have:some t∈ks.map (QX L):=List.mem_map.2 ⟨_,hk,hf⟩;rw [←hmap] at this;obtain ⟨t',h1,h2⟩:=List.mem_map.1 this;injection h2 with h2
   rw [←h2];exact h1
 have hnd2:ss.Nodup:=by
  rw [List.Nodup,List.pairwise_iff_getElem];intro i j hi hj hij e;have hlen:ss.length=ks.length:=by have:=congrArg List.length hmap;simpa using this
  have g1:QX L (ks[i]'(by omega))=some ss[i]:=by
   have:=congrArg (fun l=>l[i]?) hmap;simp [hi,show i<ks.length by omega] at this;exact this.symm
  have g2:QX L (ks[j]'(by omega))=some ss[j]:=by
   have:=congrArg (fun l=>l[j]?) hmap;simp [hj,show j<ks.length by omega] at this;exact this.symm
  have k1:=(Q9.sub g1).2;have k2:=(Q9.sub g2).2;rw [←e] at k2;exact (List.pairwise_iff_getElem.1 hnd) i j (by omega) (by omega) hij (k1.trans k2.symm)
 exact (List.perm_ext_iff_of_nodup hnd2 h.nodup).2 hmem
theorem Q9.sorted {L ss ss':List Tp} (h:Q9 L) (hp:ss.Perm L) (hp':ss'.Perm ss) (hs:ss'.Pairwise fun x y=>QD y.nm x.nm=false):ss'=L:=by
 refine List.Perm.eq_of_pairwise (le:=fun x y:Tp=>QD y.nm x.nm=false) (fun a b ha hb h1 h2=>?_) hs (h.asc.imp fun hl=>U6 hl) (hp'.trans hp);exact h.one ((hp'.trans hp).mem_iff.1 ha) hb (UL h2 h1)
theorem O7 (w:World) (b:Nat) {L:List Tp} (hL:Q9 L) (hlen:L.length≤1000) (hmap:Qn JA okK w b L.length (tpV (QX L))):
 Calls prog 47 #[.map (some b)] w fun e w'=> ∃v,e= .returned v∧w'.ownsRow w.heap.size 31 8 v L.length (QI L)∧Frm NoB w w':=by
 have hm1:Qn JA okK (w.alloc (.cells #[.map (some b)] 91 (0,0))) b L.length (tpV (QX L)):=by
  obtain ⟨es,clock,h1,h2⟩:=hmap;exact ⟨es,clock,Ql _ h1,h2⟩
 have HV:=hid (QeQ w (some b));have HC:=hid (QbW (w.alloc (.cells #[.map (some b)] 91 (0,0))) 197 #[.pointer (some ⟨w.heap.size,0,none⟩)] (enters_of func197 (by kernel_rfl) rfl) _ L.length (by omega)
  (Qi5 (w.alloc (.cells #[.map (some b)] 91 (0,0))) w.heap.size b L.length (QX L) (by simp) (Qa (Qb w _)) hm1))
 have KS:Hid (∀W v ss,W.ownsRow w.heap.size 31 8 v ss.length (QI ss)→ss.length≤1000→Calls prog 109 #[v,.func (.func 110) #[] #[]] W fun e w'=>e= .returned (.tuple #[])∧∃ss',ss'.Perm ss∧(ss'.Pairwise fun x y=>QD y.nm x.nm=false)∧w'.ownsRow w.heap.size 31 8 v ss'.length (QI ss')∧Frm (Up w.heap.size) W w'):=hid fun W v ss h hl=>Qjf W w.heap.size v ss h (by omega)
 have HL:=hid (And.intro hL hlen);clear hmap hm1 hL hlen;go_enter func47,ntmps47;go_wp2_with fail;refine HV.out.mono ?_;rintro e w1 ⟨rfl,rfl⟩;go_wp2_with fail;refine HC.out.mono ?_;clear HV HC;rintro e w2 ⟨v,ss,rfl,hall,hrow,hb⟩;have hp:=HL.out.1.all hall;have hlss:=hp.length_eq;have hb2:Frm NoB w w2:=((Frm.refl NoB w).alloc _).trans (Frm.ofBelow hb rfl NoB) (fun _ _ e=>e);have hrow2:w2.ownsRow w.heap.size 31 8 v ss.length (QI ss):=by
  refine ⟨hrow.1,?_⟩;rcases hrow.2 with h | ⟨g,cap,cur,h1,h2,h3⟩
  ·exact .inl h
  ·exact .inr ⟨g,cap,cur,h1,by simp at h2;omega,h3⟩
 have HS:=hid (KS.out w2 v ss hrow2 (by have:=HL.out.2;omega));have HP:=hid (And.intro hp hb2);clear hall hrow hb hp hlss hb2 hrow2 KS;go_wp2_with fail;refine HS.out.mono ?_;clear HS;rintro e w3 ⟨rfl,ss',hp',hs',hrow3,hf3⟩;have e3:=HL.out.1.sorted HP.out.1 hp' hs';rw [e3] at hrow3;have H3:=hid (And.intro hrow3 (HP.out.2.trans hf3 (fun x hx hup=>by have:w.heap.size≤x:=hup;omega)));clear hp' hs' hrow3 hf3 e3;go_wp2;go_ret;exact ⟨v,rfl,H3.out.1,H3.out.2⟩
theorem QcV (w:World):
 Calls prog 47 #[.map none] w fun e w'=> ∃v,e= .returned v∧w'.ownsRow w.heap.size 31 8 v (([]:List Tp).length) (QI [])∧Frm NoB w w':=by
 have HV:=hid (QeQ w none);have HC:=hid (QbW (w.alloc (.cells #[.map none] 91 (0,0))) 197 #[.pointer (some ⟨w.heap.size,0,none⟩)] (enters_of func197 (by kernel_rfl) rfl) _ 0 (by omega)
  (Qe8 (w.alloc (.cells #[.map none] 91 (0,0))) w.heap.size (by simp) (Qa (Qb w _))))
 have KS:Hid (∀W v ss,W.ownsRow w.heap.size 31 8 v ss.length (QI ss)→ss.length≤1000→Calls prog 109 #[v,.func (.func 110) #[] #[]] W fun e w'=>e= .returned (.tuple #[])∧∃ss',ss'.Perm ss∧(ss'.Pairwise fun x y=>QD y.nm x.nm=false)∧w'.ownsRow w.heap.size 31 8 v ss'.length (QI ss')∧Frm (Up w.heap.size) W w'):=hid fun W v ss h hl=>Qjf W w.heap.size v ss h (by omega)
 go_enter func47,ntmps47;go_wp2_with fail;refine HV.out.mono ?_;rintro e w1 ⟨rfl,rfl⟩;go_wp2_with fail;refine HC.out.mono ?_;clear HV HC;rintro e w2 ⟨v,ss,rfl,hall,hrow,hb⟩;have hp:ss= []:=hall;have hlss:ss.length=0:=by rw [hp];rfl
 have hb2:Frm NoB w w2:=((Frm.refl NoB w).alloc _).trans (Frm.ofBelow hb rfl NoB) (fun _ _ e=>e);have hrow2:w2.ownsRow w.heap.size 31 8 v ss.length (QI ss):=by
  refine ⟨hrow.1,?_⟩;rcases hrow.2 with h | ⟨g,cap,cur,h1,h2,h3⟩
  ·exact .inl h
  ·exact .inr ⟨g,cap,cur,h1,by simp at h2;omega,h3⟩
 have HS:=hid (KS.out w2 v ss hrow2 (by omega));have HP:=hid (And.intro hp hb2);clear hall hrow hb hp hlss hb2 hrow2 KS;go_wp2_with fail;refine HS.out.mono ?_;clear HS;rintro e w3 ⟨rfl,ss',hp',hs',hrow3,hf3⟩;have e3:ss'= []:=by have:=HP.out.1;subst this;exact hp'.eq_nil
 rw [e3] at hrow3;have H3:=hid (And.intro hrow3 (HP.out.2.trans hf3 (fun x hx hup=>by have:w.heap.size≤x:=hup;omega)));clear hp' hs' hrow3 hf3 e3;go_wp2;go_ret;exact ⟨v,rfl,H3.out.1,H3.out.2⟩
def QbD (t:Tp):Blk:=Qj t.nm++t.nums.flatMap be
def Vc (L:List Tp):Blk:=L.flatMap QbD
def QB (next:Int) (L:List Tp):Blk:=be next++Vc L
theorem Qb7 (t:Tp) (h:t.nm.size≤50):(QbD t).length=107:=by
 unfold QbD Tp.nums;simp only [List.flatMap_cons,List.flatMap_nil,List.length_append,Vr,Qr _ h,List.length_nil]
theorem Vk: ∀(L:List Tp),(∀t∈L,t.nm.size≤50)→(Vc L).length=107*L.length
 | [],_=>rfl
 | t::L,h=>by
   have e:Vc (t::L)=QbD t++Vc L:=rfl;rw [e,List.length_append,Qb7 t (h t (List.mem_cons_self ..)),Vk L (fun x hx=>h x (List.mem_cons_of_mem _ hx)),List.length_cons];omega
theorem QN (next:Int) (L:List Tp) (h: ∀t∈L,t.nm.size≤50):(QB next L).length=8+107*L.length:=by
 unfold QB;rw [List.length_append,Vr,Vk L h]
def Out (B1 B2:Nat) (v:Value):Prop:= ∀x,v.ownBlock=some x→x<B1∨B2≤x
theorem QfF {w:World} {base g n cap:Nat} {L:List Tp} (h:w.ownsRow base 31 8 (.slice (some ⟨g,0,none⟩) n cap) n (QI L)) {i:Nat} {nm:ByteArray} {p1 p2 p3 p4 p5 p7:Int} {p6:Bool} (hi:L[i]?=some ⟨nm,p1,p2,p3,p4,p5,p6,p7⟩) {k:Nat} (hk:i*8=k):
 w.cell? ⟨g,k,none⟩=some (.string nm)∧w.cell? ⟨g,k+1,none⟩=some (.int .i64 p1)∧w.cell? ⟨g,k+2,none⟩=some (.int .i64 p2)∧w.cell? ⟨g,k+3,none⟩=some (.int .i64 p3)∧w.cell? ⟨g,k+4,none⟩=some (.int .i64 p4)∧
 w.cell? ⟨g,k+5,none⟩=some (.int .i64 p5)∧w.cell? ⟨g,k+6,none⟩=some (.bool p6)∧w.cell? ⟨g,k+7,none⟩=some (.int .i64 p7):=by
 have hil:i<L.length:=(List.getElem?_eq_some_iff.1 hi).1;have hc: ∀j,j<8→w.cell? ⟨g,k+j,none⟩=some ((QI L)[k+j]!):=fun j hj=>by
  have hlt:k+j<(QI L).length:=by rw [QO];omega
  have:=h.cells (g:=g) rfl (k+j) _ (List.getElem?_eq_getElem hlt);have e:(⟨g,0,none⟩:Addr).add (k+j)=⟨g,k+j,none⟩:=by unfold Addr.add;split<;>simp_all
  rw [e] at this;rw [this,getElem!_pos (QI L) (k+j) hlt]
 have hv: ∀j,j<8→(QI L)[k+j]! =((tpz nm p1 p2 p3 p4 p5 p6 p7).toList)[j]!:=fun j hj=>by
  rw [ET L (k+j) (by omega),show (k+j)/8=i by omega,show (k+j)%8=j by omega,getElem!_pos L i hil,(List.getElem?_eq_some_iff.1 hi).2];rfl
 refine ⟨?_,?_,?_,?_,?_,?_,?_,?_⟩
 ·rw [←Nat.add_zero k,hc 0 (by omega),hv 0 (by omega)];rfl
 ·rw [hc 1 (by omega),hv 1 (by omega)];rfl
 ·rw [hc 2 (by omega),hv 2 (by omega)];rfl
 ·rw [hc 3 (by omega),hv 3 (by omega)];rfl
 ·rw [hc 4 (by omega),hv 4 (by omega)];rfl
 ·rw [hc 5 (by omega),hv 5 (by omega)];rfl
 ·rw [hc 6 (by omega),hv 6 (by omega)];rfl
 ·rw [hc 7 (by omega),hv 7 (by omega)];rfl
theorem QjV (p1 p2 p3 p4 p5 q6 p7:Int) (W:World):(Instr.index 194 (.agg #[.int .i64 p1,.int .i64 p2,.int .i64 p3,.int .i64 p4,.int .i64 p5,.int .i64 q6,.int .i64 p7]) (.int .i64 0)).run prog W= .ok (.int .i64 p1) W:=by kernel_rfl
theorem QjJ (p1 p2 p3 p4 p5 q6 p7:Int) (W:World):(Instr.index 194 (.agg #[.int .i64 p1,.int .i64 p2,.int .i64 p3,.int .i64 p4,.int .i64 p5,.int .i64 q6,.int .i64 p7]) (.int .i64 1)).run prog W= .ok (.int .i64 p2) W:=by kernel_rfl
theorem Qj0 (p1 p2 p3 p4 p5 q6 p7:Int) (W:World):(Instr.index 194 (.agg #[.int .i64 p1,.int .i64 p2,.int .i64 p3,.int .i64 p4,.int .i64 p5,.int .i64 q6,.int .i64 p7]) (.int .i64 2)).run prog W= .ok (.int .i64 p3) W:=by kernel_rfl
theorem QjT (p1 p2 p3 p4 p5 q6 p7:Int) (W:World):(Instr.index 194 (.agg #[.int .i64 p1,.int .i64 p2,.int .i64 p3,.int .i64 p4,.int .i64 p5,.int .i64 q6,.int .i64 p7]) (.int .i64 3)).run prog W= .ok (.int .i64 p4) W:=by kernel_rfl
theorem QjL (p1 p2 p3 p4 p5 q6 p7:Int) (W:World):(Instr.index 194 (.agg #[.int .i64 p1,.int .i64 p2,.int .i64 p3,.int .i64 p4,.int .i64 p5,.int .i64 q6,.int .i64 p7]) (.int .i64 4)).run prog W= .ok (.int .i64 p5) W:=by kernel_rfl
theorem QjM (p1 p2 p3 p4 p5 q6 p7:Int) (W:World):(Instr.index 194 (.agg #[.int .i64 p1,.int .i64 p2,.int .i64 p3,.int .i64 p4,.int .i64 p5,.int .i64 q6,.int .i64 p7]) (.int .i64 5)).run prog W= .ok (.int .i64 q6) W:=by kernel_rfl
theorem Qke (p1 p2 p3 p4 p5 q6 p7:Int) (W:World):(Instr.index 194 (.agg #[.int .i64 p1,.int .i64 p2,.int .i64 p3,.int .i64 p4,.int .i64 p5,.int .i64 q6,.int .i64 p7]) (.int .i64 6)).run prog W= .ok (.int .i64 p7) W:=by kernel_rfl
structure EP (w w1 w2:World) (L:List Tp) (sv:Value) (bs:Blk) (v:Value) (wr:World):Prop where
 own:Ji wr w.heap.size v bs
 out:Out w1.heap.size w2.heap.size v
 row:wr.ownsRow w1.heap.size 31 8 sv L.length (QI L)
 rb: ∀x,sv.ownBlock=some x→w1.heap.size≤x∧x<w2.heap.size
 frm:Frm NoB w wr
 size:w2.heap.size≤wr.heap.size
theorem Ji.block {w:World} {base:Nat} {v:Value} {bs:Blk} (h:Ji w base v bs) {x:Nat} (hx:v.ownBlock=some x):base≤x∧x<w.heap.size:=by
 rcases h.2 with ⟨rfl,_⟩ | ⟨g,cap,cur,rfl,h2,hg,_⟩
 ·cases hx
 ·obtain rfl:g=x:=by simpa [Value.ownBlock] using hx
  exact ⟨h2,lt_of_block hg⟩
theorem EP.step {w w1 w2 wr w':World} {L:List Tp} {sv v v':Value} {bs bs':Blk} (h:EP w w1 w2 L sv bs v wr) (h':Ji w' w.heap.size v' bs') (hf:Frm (QiX v) wr w') (hv: ∀x,v'.ownBlock=some x→v.ownBlock=some x∨wr.heap.size≤x):EP w w1 w2 L sv bs' v' w':=by
 refine ⟨h',fun x hx=>?_,?_,h.rb,h.frm.trans hf (fun x hx hvx=>by have:=(h.own.block hvx).1;omega),Nat.le_trans h.size hf.size⟩
 ·rcases hv x hx with e | e
  ·exact h.out x e
  ·exact .inr (Nat.le_trans h.size e)
 ·refine ⟨h.row.1,?_⟩;rcases h.row.2 with hn | ⟨g,cap,cur,e,h2,hg,h4⟩
  ·exact .inl hn
  ·refine .inr ⟨g,cap,cur,e,h2,(hf.block g (lt_of_block hg) fun hvx=>?_).trans hg,h4⟩;have r:=h.rb g (by rw [e];rfl);rcases h.out g hvx with q | q<;>omega
theorem EP.keep {w w1 w2 wr w':World} {L:List Tp} {sv v:Value} {bs:Blk} (h:EP w w1 w2 L sv bs v wr) (hf:Frm NoB wr w'):EP w w1 w2 L sv bs v w':=
 h.step (h.own.frm hf) (hf.mono fun _ _ e=>e.elim) fun x hx=> .inl hx
theorem Wg (w:World) (m:Value) {L:List Tp} (next:Int) (hlen:L.length≤100) (hnm: ∀t∈L,t.nm.size≤50)
 (hs: ∀W,Frm NoB w W→Calls prog 47 #[m] W fun e w'=> ∃v,e= .returned v∧w'.ownsRow W.heap.size 31 8 v L.length (QI L)∧Frm NoB W w'):
 Calls prog 100 #[.int .i64 next,m] w fun e w'=> ∃v,e= .returned v∧Ji w' w.heap.size v (QB next L)∧Frm NoB w w':=by
 have HP:=hid (Qjm w w.heap.size (.slice none 0 0) [] next (Ji.nil w _) (by decide) (Nat.le_refl _));have HS:=hid hs;have HN:=hid (And.intro hlen hnm);clear hs hlen hnm;go_enter func100,ntmps100;go_wp2_with fail;refine HP.out.mono ?_;clear HP;rintro e w1 ⟨v0,rfl,h1,hf1⟩;have hf1:Frm NoB w w1:=hf1.mono fun x _ hx=>by cases hx
 have H1:=hid (And.intro h1 hf1);have HS1:=hid (HS.out w1 hf1);clear h1 hf1 HS;go_wp2_with fail;refine HS1.out.mono ?_;clear HS1;rintro e w2 ⟨vs,rfl,hrow,hf2⟩;obtain ⟨sa,cs,hvs⟩: ∃sa cs,vs= .slice sa L.length cs:=by
  rcases hrow.2 with ⟨h,h0⟩ | ⟨g,cap,cur,h,_⟩
  ·exact ⟨none,0,by rw [h,h0]⟩
  ·exact ⟨_,cap,h⟩
 subst hvs;have H2:=hid (And.intro hrow hf2);clear hrow hf2;have H0:Hid (EP w w1 w2 L (.slice sa L.length cs) (be next++Vc (L.take 0)) v0 w2):=hid ⟨by
  show Ji w2 w.heap.size v0 (be next++ []);rw [List.append_nil];exact H1.out.1.frm H2.out.2,fun x hx=> .inl (H1.out.1.block hx).2,H2.out.1,fun x hx=>by
  rcases H2.out.1.2 with ⟨e,_⟩ | ⟨g,cap,cur,e,h2,hg,_⟩
  ·rw [e] at hx;cases hx
  ·rw [e] at hx;obtain rfl:g=x:=by simpa [Value.ownBlock] using hx
   exact ⟨h2,lt_of_block hg⟩,H1.out.2.trans H2.out.2 (fun _ _ e=>e.elim),Nat.le_refl _⟩
 have KP:Hid (∀W v bs x,EP w w1 w2 L (.slice sa L.length cs) bs v W→bs.length≤100000→Calls prog 191 #[v,.int .i64 x] W fun e w'=> ∃v',e= .returned v'∧EP w w1 w2 L (.slice sa L.length cs) (bs++be x) v' w'):=hid fun W v bs x h hl=>by
  refine (Qjm W w.heap.size v bs x h.own hl h.frm.size).mono ?_;rintro e w' ⟨v',he,ho,hf⟩;exact ⟨v',he,h.step (ho.mono h.frm.size) hf fun y hy=> .inr (ho.block hy).1⟩
 clear H1 H2;go_wp2_with fail;go_loopw [5,10,16] (fun t5 _ t16 wr=> ∃i:Nat,i≤L.length∧t16= .int .i64 i∧Hid (EP w w1 w2 L (.slice sa L.length cs) (be next++Vc (L.take i)) t5 wr)) (fun _ _ t16 _=>L.length-(intOf t16).toNat)
 case atStart=>exact ⟨0,Nat.zero_le _,rfl,H0⟩
 case round=>
  clear H0;obtain ⟨i,hi,rfl,HE⟩:=hrel;by_cases hlt:i<L.length
  ·obtain ⟨⟨nm,p1,p2,p3,p4,p5,p6,p7⟩,ht⟩: ∃t,L[i]?=some t:=⟨_,List.getElem?_eq_getElem hlt⟩;obtain ⟨g,rfl⟩: ∃g,sa=some ⟨g,0,none⟩:=by
    rcases HE.out.row.2 with ⟨_,h0⟩ | ⟨g,cap,cur,e,_⟩
    ·omega
    ·injection e with e;exact ⟨g,e⟩
   obtain ⟨k,hk⟩: ∃k,i*8=k:=⟨_,rfl⟩;obtain ⟨c0,c1,c2,c3,c4,c5,c6,c7⟩:=QfF HE.out.row ht hk;have i0:(0:Int)≤(i:Int):=Qk _;have i1:(i:Int)<(L.length:Int):=by omega
   have i2:(L.length:Int)≤100:=by have:=HN.out.1;omega
   have hnm:nm.size≤50:=HN.out.2 _ (List.mem_of_getElem? ht);have hlb:(be next++Vc (L.take i)).length=8+107*i:=by
    rw [List.length_append,Vr,Vk _ (fun x hx=>HN.out.2 x (List.mem_of_mem_take hx)),List.length_take,Nat.min_eq_left hi]
   have hnext:be next++Vc (L.take (i+1))=(be next++Vc (L.take i))++QbD ⟨nm,p1,p2,p3,p4,p5,p6,p7⟩:=by
    rw [List.take_add_one,ht];unfold Vc;rw [List.flatMap_append,List.append_assoc];simp
   obtain ⟨bs,hbs⟩: ∃bs,be next++Vc (L.take i)=bs:=⟨_,rfl⟩
   rw [hbs] at HE hlb hnext;have HI:=hid (And.intro ht (And.intro hnm (And.intro hlb (And.intro hnext (And.intro hlt (And.intro HN.out.1 hk))))));go_upto_region 5 with fail
   have hb1:=Qb wr (.cells #[.string nm,.int .i64 p1,.int .i64 p2,.int .i64 p3,.int .i64 p4,.int .i64 p5,.bool p6,.int .i64 p7] 31 (0,0));have he1:=HE.out.keep ((Frm.refl NoB wr).alloc (.cells #[.string nm,.int .i64 p1,.int .i64 p2,.int .i64 p3,.int .i64 p4,.int .i64 p5,.bool p6,.int .i64 p7] 31 (0,0)));obtain ⟨y1,hy1⟩: ∃y1,wr.alloc (.cells #[.string nm,.int .i64 p1,.int .i64 p2,.int .i64 p3,.int .i64 p4,.int .i64 p5,.bool p6,.int .i64 p7] 31 (0,0))=y1:=⟨_,rfl⟩;obtain ⟨b7,hb7⟩: ∃b7,wr.heap.size=b7:=⟨_,rfl⟩;rw [hy1] at hb1 he1;rw [hb7] at hb1;have HY:=hid (And.intro hy1 hb7);have HB1:=hid hb1;have HE1:=hid (And.intro he1 (fun (x:Nat) (hx:u5.ownBlock=some x)=>(hb7▸(HE.out.own.block hx).2:x<b7)));have d0:y1.cell? ⟨b7,0,none⟩=some (.string nm):=(Qa hb1).trans rfl;have HO:=hid (QfK y1 nm hnm);clear hb1 he1 hy1 hb7 HE c0 c1 c2 c3 c4 c5 c6 c7 ht hnm hlb hnext hbs hi hlt hk i0 i1 i2;rw [HY.out.1,HY.out.2];clear HY;go_wp2_with fail;refine HO.out.mono ?_;clear HO;rintro e y2 ⟨rfl,hf2⟩;have HK0:=hid (Qb y2 (.cells kc0 95 (0,0)));have hf3:Frm NoB y2 ((y2.alloc (.cells kc0 95 (0,0))).setRow y2.heap.size (Jb nm)):=((Frm.refl NoB y2).alloc _).setRowNew (Nat.le_refl _) _;have hb3:=setRow_heap _ _ _ (Jb nm) _ _ HK0.out;have he3:=(HE1.out.1.keep hf2).keep hf3;have hb7:=(hf3.block _ (Nat.lt_of_lt_of_le (lt_of_block HB1.out) hf2.size) (fun e=>e)).trans ((hf2.block _ (lt_of_block HB1.out) (fun e=>e)).trans HB1.out);go_upto_region 6 with (first | (refine Qg rfl _ _ Wi rfl ?_) | (refine E4 rfl _ _ rfl y2.heap.size (Qj nm) (Qr nm HI.out.2.1) rfl rfl _ (by decide) HK0.out ?_))
   obtain ⟨y3,hy3⟩: ∃y3,(y2.alloc (.cells kc0 95 (0,0))).setRow y2.heap.size (Jb nm)=y3:=⟨_,rfl⟩;obtain ⟨b8,hb8⟩: ∃b8,y2.heap.size=b8:=⟨_,rfl⟩;show Code.wp prog _ _ _ ((y2.alloc (.cells kc0 95 (0,0))).setRow y2.heap.size (Jb nm));have hlt3:b7<y3.heap.size:=by rw [←hy3];exact Nat.lt_of_lt_of_le (lt_of_block HB1.out) (Nat.le_trans hf2.size hf3.size)
   rw [hy3] at hb3 he3 hb7;rw [hb8] at hb3;rw [hy3,hb8];have HE3:=hid (And.intro he3 hlt3);have HB3:=hid hb3;have HB7:=hid hb7;clear hf2 hf3 hb3 he3 hb7 hy3 hb8 HK0 HB1 d0 hlt3;obtain ⟨iu,hiu,hzu,hz1,hz2⟩:=info_parts V7;have hks: ∀j u,((Qj nm).map B8)[j]?=some u→y3.cell? ((⟨b8,0,none⟩:Addr).add j)=some u:=fun j u hj=>by
    rw [show (⟨b8,0,none⟩:Addr).add j=⟨b8,j,none⟩ by unfold Addr.add;split<;>simp_all];refine (Qa HB3.out).trans ?_;rw [←hj];unfold Jb;rw [List.getElem?_toArray]
   have HKS:=hid hks;have hs1: ∀u∈(Qj nm).map B8,u.oneCell'=true:=by intro u hu;obtain ⟨x,_,rfl⟩:=List.mem_map.1 hu;rfl
   have HS1:=hid hs1;have hkl:=Qr nm HI.out.2.1;clear hks hs1;go_wp2_with (at_builtin;refine wpList_append_own_at _ rfl _ _ 76 rfl w.heap.size 5 iu (.int .u8 0) 1 1 underlying76 hiu hzu hz1 hz2 rfl (by decide) _ _ _ rfl HE3.out.1.own ⟨b8,0,none⟩ 51 51 ((Qj nm).map B8) rfl ?c0 HKS.out HS1.out ?c1 ?c2 ?c3 ?_)
   case c0=>rw [List.length_map,hkl]
   case c1=>have h1:=HI.out.2.2.1;have h2:=HI.out.2.2.2.2.1;have h3:=HI.out.2.2.2.2.2.1;simp only [maxLen];omega
   case c2=>have h1:=HI.out.2.2.1;have h2:=HI.out.2.2.2.2.1;have h3:=HI.out.2.2.2.2.2.1;omega
   case c3=>exact HE3.out.1.frm.size
   intro v' y4 hown hg _ hat;have h4:Ji y4 w.heap.size v' (bs++Qj nm):=by
    unfold Ji;rw [List.length_append,hkl,List.map_append];exact hown
   have he4:=HE3.out.1.step h4 (Frm.ofGrown hg) (fun x hx=>by
    rcases hat with e | e
    ·exact .inl (e▸hx)
    ·rw [e] at hx;exact .inr (by injection hx with hx;omega))
   have hb4:=(hg.block b7 HE3.out.2 (fun e=>by have:=HE1.out.2 b7 e.symm;omega)).trans HB7.out;have HE4:=hid he4;have HB4:Hid (y4.heap[b7]?=some (.cells (tpz nm p1 p2 p3 p4 p5 p6 p7) 31 (0,0))):=hid hb4;have HNB:=hid (QfR y4 nm p1 p2 p3 p4 p5 p6 p7);clear hown hg hat h4 he4 hb4 HE3 HB3 HB7 HKS HS1 HE1 hkl;go_wp2_with (refine Of rfl _ rfl b7 rfl nm p1 p2 p3 p4 p5 p6 p7 HB4.out ?_);refine HNB.out.mono ?_;clear HNB HB4;rintro e y5 ⟨rfl,hf5⟩;have H5:=hid (HE4.out.keep hf5);obtain ⟨q6,hq6⟩: ∃q6,JH p6=q6:=⟨_,rfl⟩;have hrow:bs++Qj nm++(([p1,p2,p3,p4,p5,q6,p7]:List Int).take 7).flatMap be=be next++Vc (L.take (i+1)):=by
    rw [HI.out.2.2.2.1];unfold QbD Tp.nums;rw [hq6,List.append_assoc];rfl
   have HROW:=hid hrow;have hlb:=HI.out.2.2.1;have hil:bs.length≤20000:=by have h2:=HI.out.2.2.2.2.1;have h3:=HI.out.2.2.2.2.2.1;omega
   have hkl:=Qr nm HI.out.2.1;have KPj:Hid (∀(W:World) (v:Value) (j:Nat) (x:Int),EP w w1 w2 L (.slice (some ⟨g,0,none⟩) L.length cs) (bs++Qj nm++(([p1,p2,p3,p4,p5,q6,p7]:List Int).take j).flatMap be) v W→([p1,p2,p3,p4,p5,q6,p7]:List Int)[j]?=some x→Calls prog 191 #[v,.int .i64 x] W fun e w'=> ∃v',e= .returned v'∧EP w w1 w2 L (.slice (some ⟨g,0,none⟩) L.length cs) (bs++Qj nm++(([p1,p2,p3,p4,p5,q6,p7]:List Int).take (j+1)).flatMap be) v' w'):=hid fun W v j x h hx=>by
    have e:bs++Qj nm++(([p1,p2,p3,p4,p5,q6,p7]:List Int).take (j+1)).flatMap be=(bs++Qj nm++(([p1,p2,p3,p4,p5,q6,p7]:List Int).take j).flatMap be)++be x:=by
     rw [List.take_add_one,hx,List.flatMap_append];simp [List.append_assoc]
    rw [e];have hj:j<7:=(List.getElem?_eq_some_iff.1 hx).1;have hfl:((([p1,p2,p3,p4,p5,q6,p7]:List Int).take j).flatMap be).length≤56:=by
     have: ∀l:List Int,(l.flatMap be).length=8*l.length:=fun l=>by
      induction l with
      | nil=>rfl
      | cons a l ih=>rw [List.flatMap_cons,List.length_append,Vr,ih,List.length_cons];omega
     rw [this,List.length_take];show 8*min j 7≤56;omega
    exact KP.out W v _ x h (by rw [List.length_append,List.length_append,hkl];omega)
   have H50:Hid (EP w w1 w2 L (.slice (some ⟨g,0,none⟩) L.length cs) (bs++Qj nm++(([p1,p2,p3,p4,p5,q6,p7]:List Int).take 0).flatMap be) v' y5):=hid (by
    have:bs++Qj nm++(([p1,p2,p3,p4,p5,q6,p7]:List Int).take 0).flatMap be=bs++Qj nm:=List.append_nil _;rw [this];exact H5.out)
   rw [hq6];rw [show n7z p1 p2 p3 p4 p5 q6 p7= #[.int .i64 p1,.int .i64 p2,.int .i64 p3,.int .i64 p4,.int .i64 p5,.int .i64 q6,.int .i64 p7] from rfl];clear hf5 HE4 hrow hq6 H5 hlb hil hkl KP;go_wp2_with fail;go_loopw [5,10,28] (fun t5 _ t28 wi=> ∃j:Nat,j≤7∧t28= .int .i64 j∧Hid (EP w w1 w2 L (.slice (some ⟨g,0,none⟩) L.length cs) (bs++Qj nm++(([p1,p2,p3,p4,p5,q6,p7]:List Int).take j).flatMap be) t5 wi)) (fun _ _ t28 _=>7-(intOf t28).toNat)
   case atStart=>exact ⟨0,Nat.zero_le _,rfl,H50⟩
   case round=>
    clear H50;obtain ⟨j,hj,rfl,HJ⟩:=hrel;rcases (by omega:j=0∨j=1∨j=2∨j=3∨j=4∨j=5∨j=6∨j=7) with rfl | rfl | rfl | rfl | rfl | rfl | rfl | rfl
    ·have HC:=hid (KPj.out _ _ 0 p1 HJ.out rfl);have hix:=QjV p1 p2 p3 p4 p5 q6 p7;clear KPj HJ;go_wp2_with fail;refine HC.out.mono ?_;clear HC;rintro e y7 ⟨v7,rfl,h7⟩;have H7:=hid h7;clear h7;go_wp2_with fail;exact ⟨⟨1,by omega,rfl,H7⟩,by decide⟩
    ·have HC:=hid (KPj.out _ _ 1 p2 HJ.out rfl);have hix:=QjJ p1 p2 p3 p4 p5 q6 p7;clear KPj HJ;go_wp2_with fail;refine HC.out.mono ?_;clear HC;rintro e y7 ⟨v7,rfl,h7⟩;have H7:=hid h7;clear h7;go_wp2_with fail;exact ⟨⟨2,by omega,rfl,H7⟩,by decide⟩
    ·have HC:=hid (KPj.out _ _ 2 p3 HJ.out rfl);have hix:=Qj0 p1 p2 p3 p4 p5 q6 p7;clear KPj HJ;go_wp2_with fail;refine HC.out.mono ?_;clear HC;rintro e y7 ⟨v7,rfl,h7⟩;have H7:=hid h7;clear h7;go_wp2_with fail;exact ⟨⟨3,by omega,rfl,H7⟩,by decide⟩
    ·have HC:=hid (KPj.out _ _ 3 p4 HJ.out rfl);have hix:=QjT p1 p2 p3 p4 p5 q6 p7;clear KPj HJ;go_wp2_with fail;refine HC.out.mono ?_;clear HC;rintro e y7 ⟨v7,rfl,h7⟩;have H7:=hid h7;clear h7;go_wp2_with fail;exact ⟨⟨4,by omega,rfl,H7⟩,by decide⟩
    ·have HC:=hid (KPj.out _ _ 4 p5 HJ.out rfl);have hix:=QjL p1 p2 p3 p4 p5 q6 p7;clear KPj HJ;go_wp2_with fail;refine HC.out.mono ?_;clear HC;rintro e y7 ⟨v7,rfl,h7⟩;have H7:=hid h7;clear h7;go_wp2_with fail;exact ⟨⟨5,by omega,rfl,H7⟩,by decide⟩
    ·have HC:=hid (KPj.out _ _ 5 q6 HJ.out rfl);have hix:=QjM p1 p2 p3 p4 p5 q6 p7;clear KPj HJ;go_wp2_with fail;refine HC.out.mono ?_;clear HC;rintro e y7 ⟨v7,rfl,h7⟩;have H7:=hid h7;clear h7;go_wp2_with fail;exact ⟨⟨6,by omega,rfl,H7⟩,by decide⟩
    ·have HC:=hid (KPj.out _ _ 6 p7 HJ.out rfl);have hix:=Qke p1 p2 p3 p4 p5 q6 p7;clear KPj HJ;go_wp2_with fail;refine HC.out.mono ?_;clear HC;rintro e y7 ⟨v7,rfl,h7⟩;have H7:=hid h7;clear h7;go_wp2_with fail;exact ⟨⟨7,by omega,rfl,H7⟩,by decide⟩
    ·have HJ2:=hid HJ.out;rw [HROW.out] at HJ2;have i0:(0:Int)≤(i:Int):=Qk _;have i1:(i:Int)<100:=by have h2:=HI.out.2.2.2.2.1;have h3:=HI.out.2.2.2.2.2.1;omega
     clear KPj HJ;go_wp2_with fail;exact ⟨⟨i+1,HI.out.2.2.2.2.1,by go_num,HJ2⟩,by have:=HI.out.2.2.2.2.1;simp [intOf];omega⟩
  ·obtain rfl:i=L.length:=by omega
   have HE2:=hid HE.out;rw [List.take_length] at HE2;have i2:(L.length:Int)≤100:=by have:=HN.out.1;omega
   clear HE KP;go_wp2_with fail;go_ret;exact ⟨_,rfl,HE2.out.own,HE2.out.frm⟩
theorem Qgw {vb vo vc n:Nat} (hn:n=51) (W:World):(Instr.arrayAt 95 (.slice (some ⟨vb,vo,none⟩) n vc)).run prog W= .ok (.pointer (some ⟨vb,vo,none⟩)) W:=by
 subst hn;unfold Instr.arrayAt;rw [Sem.run_bind,run_underlying underlying95 W];rfl
def I64 (x:Int):Prop:= -9223372036854775808≤x∧x≤9223372036854775807
def nz (p1 p2 p3 p4 p5 p6 p7:Int) (j:Nat):Array Value:=n7z (if 0<j then p1 else 0) (if 1<j then p2 else 0) (if 2<j then p3 else 0) (if 3<j then p4 else 0) (if 4<j then p5 else 0) (if 5<j then p6 else 0) (if 6<j then p7 else 0)
structure V3 (w:World) (mb kb b7 i:Nat) (M:Blk→Option Value) (nm:ByteArray) (c:Array Value) (wi:World):Prop where
 map:Qn JA okK wi mb i M
 key:wi.heap[kb]?=some (.cells (Jb nm) 95 (0,0))
 num:wi.heap[b7]?=some (.cells c 194 (0,0))
 frm:Frm NoB w wi
 ne:mb≠b7∧kb≠b7∧w.heap.size≤b7
theorem V3.set {w wi:World} {mb kb b7 i:Nat} {M:Blk→Option Value} {nm:ByteArray} {c:Array Value} (h:V3 w mb kb b7 i M nm c wi) (j:Nat) (x:Value):V3 w mb kb b7 i M nm (c.setIfInBounds j x) (wi.setCell ⟨b7,j,none⟩ x):=
 ⟨h.map.frm ((Frm.refl (Q0 b7) wi).setOnly x) (fun e=>h.ne.1 e),Qo (p:=⟨b7,j,none⟩) x h.key h.ne.2.1,Qh (i:=j) x h.num,h.frm.setCell (p:=⟨b7,j,none⟩) (.inr h.ne.2.2) x,h.ne⟩
theorem V3.keep {w wi wj:World} {mb kb b7 i:Nat} {M:Blk→Option Value} {nm:ByteArray} {c:Array Value} (h:V3 w mb kb b7 i M nm c wi) (hf:Frm NoB wi wj):V3 w mb kb b7 i M nm c wj:=
 ⟨h.map.frm hf (fun e=>e),(hf.block _ (lt_of_block h.key) (fun e=>e)).trans h.key,(hf.block _ (lt_of_block h.num) (fun e=>e)).trans h.num,h.frm.trans hf (fun _ _ e=>e),h.ne⟩
theorem V3.put {w wi:World} {mb kb b7 i:Nat} {M:Blk→Option Value} {nm:ByteArray} {c:Array Value} (h:V3 w mb kb b7 i M nm c wi) (hmb:w.heap.size≤mb) {k:Nat} {M':Blk→Option Value} {o:Obj} (hm:Qn JA okK (setBlock wi mb o) mb k M'):V3 w mb kb b7 k M' nm c (setBlock wi mb o):=by
 obtain ⟨es,clock,e1,_⟩:=h.map;have hs:=heap_set (o':=o) e1;have hne:kb≠mb:=fun e=>by subst e;have:=h.key;rw [e1] at this;cases this
 exact ⟨hm,(hs.2 kb hne).trans h.key,(hs.2 b7 (fun e=>h.ne.1 e.symm)).trans h.num,h.frm.setBlock (.inr hmb) o,h.ne⟩
theorem Qfc {L:List Tp} (hL:Q9 L) {i:Nat} {t:Tp} (ht:L[i]?=some t):QX (L.take i) (Qj t.nm)=none∧∀a,QX (L.take (i+1)) a=if a=Qj t.nm then some t else QX (L.take i) a:=by
 have hil:=(List.getElem?_eq_some_iff.1 ht).1;have h1:QX (L.take i) (Qj t.nm)=none:=by
  cases hf:QX (L.take i) (Qj t.nm) with
  | none=>rfl
  | some s=>
    have hs:=Q9.sub hf;have hsL:=List.mem_of_mem_take hs.1;have e:=hL.one hsL (List.mem_of_getElem? ht) (JO _ _ (hL.nm s hsL) (hL.nm t (List.mem_of_getElem? ht)) hs.2.symm);obtain ⟨k,hk,hks⟩:=List.getElem_of_mem hs.1;rw [List.length_take] at hk;rw [List.getElem_take] at hks;have hasc:=(List.pairwise_iff_getElem.1 hL.asc) k i (by omega) hil (by omega);rw [hks,(List.getElem?_eq_some_iff.1 ht).2,e,J0] at hasc;cases hasc
 refine ⟨h1,fun a=>?_⟩;rw [List.take_add_one,ht];unfold QX;rw [Option.toList_some,List.find?_append];by_cases e:a=Qj t.nm
 ·subst e;have h1':(L.take i).find? (fun t'=>Qj t'.nm==Qj t.nm)=none:=h1;rw [h1',if_pos rfl];simp
 ·rw [if_neg e];have: [t].find? (fun t'=>Qj t'.nm==a)=none:=by simp [Ne.symm e]
  rw [this];simp
theorem Qir (b:Bool):decide (JH b=1)=b:=by cases b<;>rfl
theorem Wv (W:World):(sizeOf 5).run prog W= .ok 1 W:=by kernel_rfl
theorem Qb5 (kb s:Nat) (hs:s≤50) (W:World):(Instr.sliceAt 95 (.pointer (some ⟨kb,0,none⟩)) (some (.int .i64 1)) (some (.int .u8 (1+(s:Int)))) none).run prog W= .ok (.slice (some ⟨kb,1,none⟩) s 50) W:=by
 have h1: ¬(1+(s:Int))<0:=by omega
 have h2: ¬51<1+(s:Int):=by omega
 have h3:(1+(s:Int)).toNat=1+s:=by omega
 have h4:1+(s:Int)≤51:=by omega
 have h5: ¬(1+s)<1:=by omega
 have h6:(0:Int)≤(s:Int):=by omega
 have h7:(0:Int)≤1+(s:Int):=by omega
 have h8:(1:Int)≤1+(s:Int):=by omega
 have h9:1+s-1=s:=by omega
 simp [Instr.sliceAt,run_underlying underlying95,Wv,Instr.sureAddr,Instr.sliceBounds,asIntOf,go_sem,Result.andThen,h1,h2,h3,h4,h5,h6,h7,h8,h9,Addr.add]
theorem Qdt (W:World) (kb:Nat) (nm:ByteArray) (hnm:nm.size≤50) (h:W.heap[kb]?=some (.cells (Jb nm) 95 (0,0))) (c:Nat):
 (convert 76 9 (.slice (some ⟨kb,1,none⟩) nm.size c)).run prog W= .ok (.string nm) W:=by
 have hl:nm.data.toList.length=nm.size:=by rw [Array.length_toList];rfl
 have hc:=run_convert_bytes_back (P:=prog) W 76 9 5 ⟨kb,1,none⟩ c nm.data.toList underlying76 underlying5 underlying9 (fun j hj=>by
  rw [show (⟨kb,1,none⟩:Addr).add j=⟨kb,1+j,none⟩ by unfold Addr.add;split<;>simp_all];refine (Qa h).trans ?_;unfold Jb Qj;rw [List.getElem?_toArray,List.getElem?_map,Nat.add_comm,List.getElem?_cons_succ,List.getElem?_append_left hj,List.getElem?_eq_getElem hj];rfl)
 rw [hl] at hc;have:(⟨nm.data.toList.toArray⟩:ByteArray)=nm:=by simp
 rw [this] at hc;exact hc
structure Qi8 (next:Int) (L:List Tp):Prop where
 next:I64 next
 nums: ∀t∈L,∀x∈t.nums,I64 x
theorem Qav (next:Int) {L:List Tp} {i:Nat} {t:Tp} (ht:L[i]?=some t) (hnm: ∀t∈L,t.nm.size≤50): ∃a b,QB next L=a++QbD t++b∧a.length=8+107*i:=by
 have hil:=(List.getElem?_eq_some_iff.1 ht).1;refine ⟨be next++Vc (L.take i),Vc (L.drop (i+1)),?_,?_⟩
 ·unfold QB;have:L=L.take i++t::L.drop (i+1):=by
   conv=>lhs;rw [←List.take_append_drop i L]
   rw [List.drop_eq_getElem_cons hil,(List.getElem?_eq_some_iff.1 ht).2]
  conv=>lhs;rw [this]
  unfold Vc;rw [List.flatMap_append,List.flatMap_cons];simp only [List.append_assoc]
 ·rw [List.length_append,Vr,Vk _ (fun x hx=>hnm x (List.mem_of_mem_take hx)),List.length_take,Nat.min_eq_left (by omega)]
theorem QiC (next:Int) {L:List Tp} {i:Nat} {t:Tp} (ht:L[i]?=some t) (hnm: ∀t∈L,t.nm.size≤50):((QB next L).drop (8+107*i)).take 51=Qj t.nm:=by
 obtain ⟨a,b,e,ha⟩:=Qav next ht hnm
 have hk:=Qr t.nm (hnm t (List.mem_of_getElem? ht));rw [e,List.append_assoc,←ha,List.drop_left];unfold QbD;rw [List.append_assoc,List.take_append_of_le_length (by omega),List.take_of_length_le (by omega)]
theorem QiZ (next:Int) {L:List Tp} {i:Nat} {t:Tp} (ht:L[i]?=some t) (hnm: ∀t∈L,t.nm.size≤50) {j:Nat} {x:Int} (hx:t.nums[j]?=some x) (hr:I64 x):IntKind.i64.wrap (EE (QB next L) (8+107*i+51+8*j):Int)=x:=by
 obtain ⟨a,b,e,ha⟩:=Qav next ht hnm
 have hk:=Qr t.nm (hnm t (List.mem_of_getElem? ht));have hjl:=(List.getElem?_eq_some_iff.1 hx).1;have hl: ∀l:List Int,(l.flatMap be).length=8*l.length:=fun l=>by
  induction l with
  | nil=>rfl
  | cons a l ih=>rw [List.flatMap_cons,List.length_append,Vr,ih,List.length_cons];omega
 have hs:t.nums.flatMap be=(t.nums.take j).flatMap be++be x++(t.nums.drop (j+1)).flatMap be:=by
  conv=>lhs;rw [←List.take_append_drop j t.nums]
  rw [List.drop_eq_getElem_cons hjl,(List.getElem?_eq_some_iff.1 hx).2,List.flatMap_append,List.flatMap_cons,List.append_assoc]
 have e2:QB next L=(a++Qj t.nm++(t.nums.take j).flatMap be)++be x++((t.nums.drop (j+1)).flatMap be++b):=by
  rw [e];unfold QbD;rw [hs];simp only [List.append_assoc]
 have e3:(a++Qj t.nm++(t.nums.take j).flatMap be).length=8+107*i+51+8*j:=by
  rw [List.length_append,List.length_append,ha,hk,hl,List.length_take,Nat.min_eq_left (by omega)]
 rw [e2,←e3];exact QcH _ _ x hr.1 hr.2
theorem Qhg (next:Int) (L:List Tp) (hr:I64 next):IntKind.i64.wrap (EE (QB next L) 0:Int)=next:=by
 have:=QcH [] (Vc L) next hr.1 hr.2
 exact this
end Go.Proofs.YtlemndledcmhiaaGreatDoor
