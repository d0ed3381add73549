/-
  The catalog, from the device up, part 4.
-/
import Derived.Test.YtlemndledcmhiaaGreatDoorV3
import Derived.Laws.Tables
import Derived.Laws.Rows
import Derived.RegionTactic
namespace Go.Proofs.YtlemndledcmhiaaGreatDoor
set_option linter.unusedVariables false
set_option linter.unusedSimpArgs false
set_option maxHeartbeats 8000000
set_option maxRecDepth 100000
open Tryz
open Lib (hid)
open Go.ChangeMaps Go.MapKept Go.RowKit
section
variable {w0:Gnd} {w:World} {rs:List Res} {cb wb:Nat} {op ov:Bool} {l:WrL} {H:Hdl} {jh:K9} {J:JSt}
theorem QfN (h:St w0 w (cst cb jh.jb true ov wb::wrt wb l::jrn H jh J::rs)) (hkeys: ∀p∈l,okI p.1) (h512: ∀p∈l,p.2.length=512) (hlen:l.length≤1000) {Post:Ending→World→Prop}
 (hpost: ∀ks v vs W,ks.Pairwise (· < ·)→(∀a,a∈ks↔(look l a).isSome=true)→ks.length=l.length→St w0 W (jrn H jh J::VL v ks vs (ks.map fun k=>(look l k).getD Qs)::cst cb jh.jb false ov wb::wrt wb []::rs)→
  Calls prog 187 #[.pointer (some ⟨jh.jb,0,none⟩),v] W fun e w'=>(∃x,e= .returned (.int .i64 x))∧Post e w'):
 Calls prog 96 #[.pointer (some ⟨cb,0,none⟩)] w Post:=by
 have HO:=hid (QbC h);have HP:=hid hpost;have H512:=hid h512;have c3:w.cell? ⟨cb,3,none⟩=some (.map (some wb)):=(h.arrCell (i:=0) rfl 3).trans rfl;have HK:=hid (Qe9 wb w);have HS:Hid (Calls prog 70 #[.func (.func 249) #[] #[.pointer (some ⟨w.heap.size,0,none⟩)]] (w.alloc (.cells #[.map (some wb)] 242)) fun e w'=>
  ∃v ks,e= .returned v∧(ks.Pairwise (· < ·)∧(∀a,a∈ks↔(look l a).isSome=true)∧ks.length=l.length)∧St w0 w' (Qdu v ks::cst cb jh.jb true ov wb::wrt wb l::jrn H jh J::rs)):=hid (by
  obtain ⟨F,hm,hf⟩:=h.get (i:=1) rfl;refine (Qc3 wb l.length F w hm (by omega)).mono ?_;rintro e w' ⟨v,ks,he,hks,hrow,hfr⟩;refine ⟨v,ks,he,⟨hks.sorted,fun a=>?_,hks.len⟩,h.mkKeys hfr hrow⟩;rw [hks.mem a];constructor
  ·rintro ⟨h1,h2⟩;rw [hf a h1,Option.isSome_map] at h2;exact h2
  ·intro h2;have hok:okI a:=by
    obtain ⟨p,hp,e⟩:=List.mem_map.1 ((Km l a).1 h2);rw [←e];exact hkeys p hp
   exact ⟨hok,by rw [hf a hok,Option.isSome_map];exact h2⟩)
 have HKEY:=hid hkeys;have HLEN:=hid hlen;clear h hpost h512 hkeys hlen;go_enter func96,ntmps96;go_wp2_with fail;refine HO.out.mono ?_;rintro e w2 ⟨rfl,rfl⟩;clear HO;go_wp2_with (first
  | (go_at_call 185;refine HK.out.mono ?_;rintro e w2k ⟨rfl,rfl⟩)
  | (go_at_call 70;refine HS.out.mono ?_;rintro e w3 ⟨kv,ks,rfl,hks,h3⟩;obtain ⟨ka,kc,hkv⟩:=QjZ (h3.get (i:=0) rfl);subst hkv;have HKS:=hid hks;have H3:=hid h3;clear hks h3))
 clear HK HS c3;have HN:=hid (show St w0 w3 (VL (.slice none 0 0) [] [] []::Qdu (.slice ka ks.length kc) ks::cst cb jh.jb true ov wb::wrt wb l::jrn H jh J::rs) from H3.out.noChgs);have hkl0:(0:Int)≤((ks.length:Nat):Int):=Qk _;have hkl1:((ks.length:Nat):Int)≤1000:=by have:=HKS.out.2.2;have:=HLEN.out;omega
 clear H3;go_loopw [3,17] (fun v t wr=> ∃(i:Nat) (vs:List Value),i≤ks.length∧t= .int .i64 i∧St w0 wr (VL v (ks.take i) vs ((ks.map fun k=>(look l k).getD Qs).take i)::Qdu (.slice ka ks.length kc) ks::cst cb jh.jb true ov wb::wrt wb l::jrn H jh J::rs)) (fun _ t _=>ks.length-(intOf t).toNat)
 case atStart=>exact ⟨0,[],Nat.zero_le _,rfl,HN.out⟩
 case round=>
  clear HN;obtain ⟨i,vs,hi,rfl,hst⟩:=hrel;have HST:=hid hst;clear hst;by_cases hlt:i<ks.length
  ·have hi0:(0:Int)≤(i:Int):=Qk _;have hi1:(i:Int)<(ks.length:Int):=by omega
   obtain ⟨kx,hx⟩: ∃kx,ks[i]?=some kx:=⟨_,List.getElem?_eq_getElem hlt⟩;have hkr:=HST.out.get (i:=1) rfl;obtain ⟨ka',kc',e1,_,hcs⟩:=UZ.cases hkr;injection e1 with e1 e2 e3
   subst e1;obtain ⟨gb,go,rfl,_,ck,_,_⟩:=hcs i (JX kx) (by rw [List.getElem?_map,hx];rfl);have ck:wr.cell? ⟨gb,go+i,none⟩=some (.int .i64 kx):=ck;have hsm:=(HKS.out.2.1 kx).1 (List.mem_of_getElem? hx);obtain ⟨b,hb⟩: ∃b,look l kx=some b:=Option.isSome_iff_exists.1 hsm;have hbl:b.length=512:=H512.out _ (VR hb);have hok:okI kx:=HKEY.out _ (VR hb);have hlk:=HST.out.wrtGet (i:=3) rfl hok hb wr rfl;have c3:wr.cell? ⟨cb,3,none⟩=some (.map (some wb)):=(HST.out.arrCell (i:=2) rfl 3).trans rfl;have HNB:=hid (Qb wr (.cells zc 257 (0,0)));have HBL:=hid hbl;have HX:=hid hx;have HB:=hid hb;clear hkr hcs hsm hbl hok hx hb e2 e3;go_upto_region 8 with (first | refine EC rfl rfl ?_ | refine El rfl _ _ rfl wr.heap.size b HBL.out rfl rfl zc Kv HNB.out ?_)
   rw [Ky];have H4:=hid (HST.out.mkByt ((Frm.refl NoB wr).alloc (.cells (b.map B8).toArray 257 (0,0))) (QdY wr b HBL.out));obtain ⟨w4,hw4⟩: ∃w4,w4=wr.alloc (.cells (b.map B8).toArray 257 (0,0)):=⟨_,rfl⟩;rw [←hw4] at H4 ⊢;clear hw4 hlk c3 ck HNB HST;generalize wr.heap.size=nb at*
   have HLK:Hid ((ks.take i).length≤1000):=hid (by rw [List.length_take];omega);have HO:=hid (World.ownsRow.alloc (H4.out.get (i:=1) rfl).1 (.cells #[.int .i64 (kx),.slice (some ⟨nb,0,none⟩) 512 512] 274 (0,0)));have HNW:Hid (∀(j:Nat) x,([.int .i64 (kx),.slice (some ⟨nb,0,none⟩) 512 512]:List Value)[j]?=some x→(w4.alloc (.cells #[.int .i64 (kx),.slice (some ⟨nb,0,none⟩) 512 512] 274 (0,0))).cell? ((⟨w4.heap.size,0,none⟩:Addr).add j)=some x):=hid (Qen w4 _ _ _);obtain ⟨ii,hi0i,hz0,hz1,hz2⟩:=info_parts QiM;go_wp2_with (at_builtin;refine wpList_append_own_at _ rfl _ _ 271 rfl 0 274 ii (.agg #[.int .i64 0,.slice none 0 0]) 2 32 underlying271 hi0i hz0 hz1 hz2 rfl (by decide) _ _ _ rfl HO.out ⟨w4.heap.size,0,none⟩ 1 1 [.int .i64 (kx),.slice (some ⟨nb,0,none⟩) 512 512] rfl rfl HNW.out ?qa0 ?qa1 ?qa2 ?qa3 ?_)
   case qa0=>first | exact ⟨rfl,rfl⟩ | (intro x hx;simp at hx;rcases hx with rfl | rfl<;>rfl)
   case qa1=>have:=HLK.out;simp only [maxLen];omega
   case qa2=>have:=HLK.out;omega
   try case qa3=>omega
   intro v' w5 ho hg2 hnn hat;have h7:=H4.out.chgsAppend 1 0 rfl rfl (kx) (.cells #[.int .i64 (kx),.slice (some ⟨nb,0,none⟩) 512 512] 274 (0,0)) rfl (by first | exact ho | (rw [List.length_take,Nat.min_eq_left (Nat.le_of_lt hlt)];exact ho)) hg2 (by first | exact hat | (simp only [size_alloc] at hat ⊢;exact hat));have H7:=hid (h7.drop 1);clear ho hg2 hnn hat h7 HO HNW H4;have HT1:Hid (ks.take (i+1)=ks.take i++ [kx]):=hid (by
    obtain ⟨h1,h2⟩:=List.getElem?_eq_some_iff.1 HX.out;rw [List.take_succ_eq_append_getElem h1,h2])
   have HT2:Hid ((ks.map fun k=>(look l k).getD Qs).take (i+1)=(ks.map fun k=>(look l k).getD Qs).take i++ [b]):=hid (by
    rw [←List.map_take,←List.map_take,HT1.out,List.map_append];simp [HB.out])
   rw [←HT1.out,←HT2.out] at H7;go_wp2
   first | exact ⟨⟨i+1,_,hlt,by go_num,H7.out⟩,by simp [intOf];omega⟩ | (go_roundw;case rel=>first | exact ⟨i+1,_,hlt,by go_num,H7.out⟩ | ((repeat apply Exists.intro);exact ⟨⟨i+1,_,hlt,by go_num,H7.out⟩,rfl⟩);case measure=>simp [intOf];omega)
  ·have hi1: ¬(i:Int)<(ks.length:Int):=by omega
   have hil:i=ks.length:=by omega
   have h5:=HST.out;rw [hil,List.take_length,List.take_of_length_le (by simp)] at h5;have H5:=hid ((h5.drop2nd).perm (List.perm_append_comm (l₁:= [_]) (l₂:= [_,_]) |>.append_right _));have HD:=hid (Qi6 H5.out);clear h5 hil HST;go_wp2_with fail;refine HD.out.mono ?_;clear HD H5;rintro e w6 ⟨rfl,h6⟩;have c0:w6.cell? ⟨cb,0,none⟩=some (.pointer (some ⟨jh.jb,0,none⟩)):=(h6.arrCell (i:=0) rfl 0).trans rfl;have HC:=hid (HP.out ks _ vs w6 HKS.out.1 HKS.out.2.1 HKS.out.2.2 (h6.perm (((List.perm_append_comm (l₁:= [_,_]) (l₂:= [_,_]))).append_right _ |>.trans (List.Perm.swap _ _ _))));clear h6;go_wp2_with fail;refine HC.out.mono ?_;clear HC c0;rintro e w7 ⟨⟨y,rfl⟩,hp⟩;have HPP:=hid hp;clear hp;go_wp2;exact HPP.out
end
def stC (n:Nat) (f:Nat→Int):Array Value:=((List.range n).map fun k=>Value.int .i64 (f k)).toArray
theorem YS (n:Nat) (f:Nat→Int):(stC n f).size=n:=by simp [stC]
theorem QP (n:Nat) (f:Nat→Int) (k:Nat) (h:k<n):(stC n f)[k]?=some (.int .i64 (f k)):=by simp [stC,h]
theorem OD: ∀(o:List Nat) (dt:List Blk) (C:Nat→Blk) (k:Nat),(∀b∈dt,b.length=512)→(∀k,(C k).length=512)→(QH o dt C k).length=512
 | [],_,C,k,_,h=>by unfold QH;exact h k
 | x::o,[],C,k,_,h=>by unfold QH;exact h k
 | x::o,b::dt,C,k,hb,h=>by
   unfold QH;split
   ·exact hb b (by simp)
   ·exact OD o dt C k (fun c hc=>hb c (by simp [hc])) h
theorem Qia (n:Nat) (f:Nat→Int):(stC n f).all (·.oneCell')=true:=by
 rw [Array.all_eq_true_iff_forall_mem];intro v hv;unfold stC at hv;rw [List.mem_toArray,List.mem_map] at hv;obtain ⟨k,_,rfl⟩:=hv;rfl
theorem St.setRow {w0:Gnd} {w:World} {rs:List Res} (h:St w0 w rs) (i:Nat) {b:Nat} {c:Array Value} {t:TypeId} {ht: ¬U8T t} (hr:rs[i]?=some (arr b c t ht)) (c':Array Value):St w0 (w.setRow b c') (rs.set i (arr b c' t ht)):=by
 have hb:w.heap[b]?=some (.cells c t (0,0)):=h.get hr;have hf:Frm (Q0 b) w (w.setRow b c'):=⟨rfl,rfl,rfl,by rw [size_setRow];exact Nat.le_refl _,fun k hk hne=>setRow_other w b k c' (fun e=>hne e)⟩;exact h.write i hr hf (arr b c' t ht) (setRow_heap w b c c' t _ hb) (fun _ hx=> .inl hx)
def cvw (l:WrL) (s:Nat→Blk):Nat→Blk:=fun k=>(look l (k:Int)).getD (s k)
structure COk (n:Nat) (l:WrL):Prop where
 home: ∀p∈l,245≤p.1∧p.1<(n:Int)
 b512: ∀p∈l,p.2.length=512
 nodup:(l.map (·.1)).Nodup
 few:l.length≤60
theorem COk.nil (n:Nat):COk n []:=⟨fun _ h=>(by cases h),fun _ h=>(by cases h),List.nodup_nil,Nat.zero_le _⟩
theorem COk.put {n:Nat} {l:WrL} (h:COk n l) (k:Int) (b:Blk) (hk:245≤k∧k<(n:Int)) (hb:b.length=512) (hr:(look l k).isSome=true∨l.length<60):COk n (VP l k b):=by
 refine ⟨Qbk k b h.home hk,Qbk k b h.b512 hb,QfI h.nodup k b,?_⟩;rw [Kr];have:=h.few;split
 ·exact this
 ·rename_i hs
  rcases hr with hr | hr
  ·exact absurd hr hs
  ·omega
theorem COk.okI {n:Nat} {l:WrL} (h:COk n l) (hn:n≤65536): ∀p∈l,okI p.1:=fun p hp=>(Yx _).2 (by have:=h.home p hp;omega)
theorem COk.keys {n:Nat} {l:WrL} (h:COk n l) {ks:List Int} (hs:ks.Pairwise (· < ·)) (hm: ∀a,a∈ks↔(look l a).isSome=true) (hl:ks.length=l.length):
 ∃ks':List Nat,ks=ks'.map (fun k:Nat=>(k:Int))∧W5 n ks' (ks.map fun k=>(look l k).getD Qs)∧(∀d∈ks.map fun k=>(look l k).getD Qs,d.length=512)∧∀s k,QH ks' (ks.map fun k=>(look l k).getD Qs) s k=cvw l s k:=by
 have hk: ∀a∈ks,245≤a∧a<(n:Int):=fun a ha=>by
  obtain ⟨p,hp,e⟩:=List.mem_map.1 ((Km l a).1 ((hm a).1 ha));rw [←e];exact h.home p hp
 have e1:ks=(ks.map Int.toNat).map (fun k:Nat=>(k:Int)):=by
  rw [List.map_map];refine (List.map_id _).symm.trans (List.map_congr_left fun a ha=>?_);have:=hk a ha;simp only [id,Function.comp];omega
 have hnd:(ks.map Int.toNat).Nodup:=by
  rw [List.nodup_iff_pairwise_ne,List.pairwise_map];refine List.Pairwise.imp_of_mem ?_ hs;intro a b ha hb hab;have:=hk a ha;have:=hk b hb;omega
 refine ⟨ks.map Int.toNat,e1,⟨fun k hk'=>?_,hnd,?_,?_⟩,fun d hd=>?_,fun s k=>?_⟩
 ·obtain ⟨a,ha,rfl⟩:=List.mem_map.1 hk';have:=hk a ha;omega
 ·rw [List.length_map,hl];exact h.few
 ·rw [List.length_map,List.length_map]
 ·obtain ⟨a,ha,rfl⟩:=List.mem_map.1 hd;cases hb:look l a with
  | none=>exact Q6
  | some b=>exact h.b512 _ (VR hb)
 ·by_cases hmem:k∈ks.map Int.toNat
  ·obtain ⟨i,hi⟩:=List.getElem?_of_mem hmem;rw [List.getElem?_map] at hi;cases hq:ks[i]? with
   | none=>rw [hq] at hi;cases hi
   | some a=>
     rw [hq] at hi;have hka:=hk a (List.mem_of_getElem? hq);have ea:a=(k:Int):=by simp at hi;omega
     have hsm:=(hm a).1 (List.mem_of_getElem? hq);obtain ⟨b,hb⟩:=Option.isSome_iff_exists.1 hsm;rw [O2 _ _ _ i k b hnd (by rw [List.getElem?_map,hq];simp [ea]) (by rw [List.getElem?_map,hq];simp [hb])];unfold cvw;rw [←ea,hb];rfl
  ·rw [UI _ _ _ _ hmem];unfold cvw;cases hb:look l (k:Int) with
   | none=>rfl
   | some b=>
     exact absurd (List.mem_map.2 ⟨(k:Int),(hm _).2 (by rw [hb];rfl),by simp⟩) hmem
section
variable {w0:Gnd} {w:World} {rs:List Res} {cb wb:Nat} {ov:Bool} {l:WrL} {H:Hdl} {jh:K9} {J:JSt}
theorem WD (h:St w0 w (cst cb jh.jb true ov wb::wrt wb l::jrn H jh J::rs)) (a:Nat) {D:DSt} (hr:rs[a]?=some (dev H D)) {n g m:Nat} {s:Nat→Blk} (hL:Live n g m J D s) (hK:COk n l) (h246:246≤n) (hn:n≤65536) (hm:m<18446744073709551615) (hg:g<18446744073709551616) (ho:D.ops<1000000000) (hlim:D.lim=none):
 Calls prog 96 #[.pointer (some ⟨cb,0,none⟩)] w fun e w'=> ∃jh' J' D',jh'.jb=jh.jb∧e= .returned (.int .i64 0)∧St w0 w' (cst cb jh.jb false ov wb::wrt wb []::jrn H jh' J'::rs.set a (dev H D'))∧Live n g (m+1) J' D' (cvw l s)∧D'.lim=none∧D'.ops≤D.ops+123:=by
 refine QfN h (hK.okI hn) hK.b512 (by have:=hK.few;omega) (fun ks v vs W h1 h2 h3 hst=>?_);obtain ⟨ks',e1,hmay,h512,hov⟩:=hK.keys h1 h2 h3;generalize hds:(ks.map fun k=>(look l k).getD Qs)=ds at*
 subst e1;refine (Qfo hst (a+3) 0 hr rfl hL hmay h512 h246 hn hm hg ho hlim (by omega)).mono ?_;rintro e w' ⟨jh',J',D',hjb,he,hst',hl',hlim',hops'⟩;refine ⟨⟨0,he⟩,jh',J',D',hjb,he,?_,hl'.congr (fun k _ _=>hov s k),hlim',hops'⟩;have hst':St w0 w' (jrn H jh' J'::VL _ _ _ _::cst cb jh.jb false ov wb::wrt wb []::rs.set a (dev H D')):=hst';exact hst'.drop2nd.perm ((List.perm_append_comm (l₁:= [_]) (l₂:= [_,_])).append_right _)
end
theorem Qg {ops:Array Oper} {rest:List Oper} {o:Oper} {a:Act} {w:World} {Q:Exit→Act→World→Prop} (hg:o.guard=none) (t:TypeId) (cs:Array Value) (hz: ∀W,(zeroValue t).run prog W= .ok (.agg cs) W) (ho:o.op= .alloc t)
 (h:wpList prog ops Q rest (a.put o.dst (.pointer (some ⟨w.heap.size,0,none⟩))) (w.alloc (.cells cs t (0,0)))):wpList prog ops Q (o::rest) a w:=
 Go.Great.wpList_runTo hg o.dst rfl _ _ (by
  have hr:(Instr.alloc t true (.tuple #[])).run prog w= .ok (.pointer (some ⟨w.heap.size,0,none⟩)) (w.alloc (.cells cs t (0,0))):=by
   simp only [Instr.alloc,Sem.run_bind,hz,Result.andThen_ok];rfl
  unfold execOp;simp only [ho,Sem.run_bind,hr,Result.andThen_ok];rfl) h
def JB {α:Type} (f:Nat→α) (k:Nat) (x:α):Nat→α:=fun j=>if j=k then x else f j
theorem Y7 (n:Nat) (f:Nat→Int) (k:Nat) (x:Int) (h:k<n):(stC n f).setIfInBounds k (.int .i64 x)=stC n (JB f k x):=by
 apply Array.ext';rw [Array.toList_setIfInBounds];unfold stC JB;apply List.ext_getElem?;intro i;simp only [List.getElem?_set,List.length_map,List.length_range,List.getElem?_map];by_cases e:k=i
 ·subst e;simp [h]
 ·rw [if_neg e];by_cases hi:i<n
  ·simp [hi,Ne.symm e]
  ·simp [hi]
def Qt (b:Blk) (k:Nat):Bool:=(b.getD (k/8) 0).toNat.testBit (k%8)
def YZ (x:UInt8) (i:Nat) (on:Bool):UInt8:=if on then UInt8.ofNat (x.toNat ||| 2 ^ i) else UInt8.ofNat (x.toNat &&& (255-2 ^ i))
def Qw (b:Blk) (k:Nat) (on:Bool):Blk:=b.set (k/8) (YZ (b.getD (k/8) 0) (k%8) on)
theorem VG (i:Nat) (h:i<8):2 ^ i≤128:=by
 have:2 ^ i≤2 ^ 7:=Nat.pow_le_pow_right (by omega) (by omega);omega
theorem Ui (x:UInt8) (i:Nat) (h:i<8) (on:Bool):(YZ x i on).toNat=if on then x.toNat ||| 2 ^ i else x.toNat &&& (255-2 ^ i):=by
 have hx:x.toNat<2 ^ 8:=x.toNat_lt;have h2:=VG i h;unfold YZ;cases on with
 | true=>
   rw [if_pos rfl,if_pos rfl,UInt8.toNat_ofNat'];exact Nat.mod_eq_of_lt (Nat.or_lt_two_pow hx (by omega))
 | false=>
   rw [if_neg (by simp),if_neg (by simp),UInt8.toNat_ofNat'];exact Nat.mod_eq_of_lt (Nat.lt_of_le_of_lt Nat.and_le_left hx)
theorem QbT (x:UInt8) (i j:Nat) (hi:i<8) (hj:j<8) (on:Bool):(YZ x i on).toNat.testBit j=if j=i then on else x.toNat.testBit j:=by
 rw [Ui x i hi];cases on with
 | true=>
   rw [if_pos rfl,Nat.testBit_or,Nat.testBit_two_pow];by_cases e:j=i
   ·rw [if_pos e];simp [e]
   ·rw [if_neg e];simp [Ne.symm e]
 | false=>
   have h2:=VG i hi;rw [if_neg (by simp),Nat.testBit_and,show 255-2 ^ i=2 ^ 8-(2 ^ i+1) from by omega,Nat.testBit_two_pow_sub_succ (by omega),Nat.testBit_two_pow];by_cases e:j=i
   ·rw [if_pos e];simp [e]
   ·rw [if_neg e];simp [Ne.symm e,hj]
theorem UY (b:Blk) (k:Nat) (on:Bool):(Qw b k on).length=b.length:=by unfold Qw;rw [List.length_set]
theorem JD (b:Blk) (k:Nat) (on:Bool) (h:k/8<b.length) (j:Nat):Qt (Qw b k on) j=if j=k then on else Qt b j:=by
 unfold Qt Qw;by_cases e:j/8=k/8
 ·rw [e,List.getD_eq_getElem?_getD,List.getElem?_set_self h,Option.getD_some,QbT _ _ _ (Nat.mod_lt _ (by omega)) (Nat.mod_lt _ (by omega))];by_cases e2:j=k
  ·subst e2;rw [if_pos rfl,if_pos rfl]
  ·rw [if_neg e2,if_neg (by omega)]
 ·rw [List.getD_eq_getElem?_getD,List.getElem?_set_ne (Ne.symm e),←List.getD_eq_getElem?_getD];rw [if_neg (fun h=>e (by rw [h]))]
def Jn (b:Blk) (n:Nat):Option Nat:=(List.range n).find? fun k=>!Qt b k
theorem Jf {b:Blk} {n k:Nat} (h:Jn b n=some k):k<n∧Qt b k=false:=by
 have h1:=List.find?_some h;have h2:=List.mem_of_find?_eq_some h;exact ⟨List.mem_range.1 h2,by simpa using h1⟩
theorem Ow {b:Blk} {n:Nat} (h:Jn b n=none) (k:Nat) (hk:k<n):Qt b k=true:=by
 have:=List.find?_eq_none.1 h k (List.mem_range.2 hk)
 simpa using this
theorem Qfi {b:Blk} {n k:Nat} (hk:k<n) (h:Qt b k=false) (hlt: ∀j,j<k→Qt b j=true):Jn b n=some k:=by
 cases hf:Jn b n with
 | none=>rw [Ow hf k hk] at h;cases h
 | some j=>
   obtain ⟨h1,h2⟩:=Jf hf;rcases Nat.lt_trichotomy j k with hj | hj | hj
   ·rw [hlt j hj] at h2;cases h2
   ·rw [hj]
   ·exfalso;obtain ⟨i,hi,e,hall⟩: ∃i:Nat,∃hi:i<(List.range n).length,(List.range n)[i]=j∧∀a:Nat,(ha:a<i)→(!Qt b ((List.range n)[a]'(by omega)))=false:=by
     obtain ⟨l1,l2,hp,hall⟩:=(List.find?_eq_some_iff_append.1 hf).2;refine ⟨l1.length,?_,?_,fun a ha=>?_⟩
     ·rw [hp];simp
     ·simp [hp]
     ·have:(List.range n)[a]'(by rw [hp];simp;omega)=l1[a]:=by simp only [hp];exact List.getElem_append_left ha
      rw [this];have:=hall _ (List.getElem_mem ha)
      simpa using this
    rw [List.getElem_range] at e;have:=hall k (by omega);rw [List.getElem_range,h] at this;cases this
def JR (b:Blk) (n:Nat):Nat:=((List.range n).filter (Qt b)).length
theorem Jq (b:Blk) (n:Nat):JR b (n+1)=JR b n+if Qt b n then 1 else 0:=by
 unfold JR;rw [List.range_succ,List.filter_append,List.length_append,List.filter_cons,List.filter_nil];split<;>rfl
theorem Eu (b:Blk) (n:Nat):JR b n≤n:=by
 unfold JR;have:=List.length_filter_le (Qt b) (List.range n);rw [List.length_range] at this;exact this
theorem Ef {b c:Blk} {n:Nat} (h: ∀k,k<n→Qt b k=Qt c k):JR b n=JR c n:=by
 induction n with
 | zero=>rfl
 | succ n ih=>rw [Jq,Jq,ih (fun k hk=>h k (by omega)),h n (by omega)]
theorem Us {b:Blk} {n k:Nat} (hk:k<n) (hl:k/8<b.length) (h:Qt b k=false):JR (Qw b k true) n=JR b n+1:=by
 induction n with
 | zero=>omega
 | succ n ih=>
   rw [Jq,Jq,JD b k true hl];by_cases e:n=k
   ·subst e;rw [if_pos rfl,h,Ef (c:=b) (fun j hj=>by rw [JD b n true hl,if_neg (by omega)])];simp
   ·rw [if_neg e,ih (by omega)];omega
theorem QbB {b:Blk} {n k:Nat} (hk:k<n) (hl:k/8<b.length) (h:Qt b k=true):JR (Qw b k false) n+1=JR b n:=by
 induction n with
 | zero=>omega
 | succ n ih=>
   rw [Jq,Jq,JD b k false hl];by_cases e:n=k
   ·subst e;rw [if_pos rfl,h,Ef (c:=b) (fun j hj=>by rw [JD b n false hl,if_neg (by omega)])];simp
   ·rw [if_neg e];have:=ih (by omega);omega
theorem OC {b:Blk} {n:Nat} (h:JR b n<n): ∃k,Jn b n=some k:=by
 cases hf:Jn b n with
 | some k=>exact ⟨k,rfl⟩
 | none=>
   exfalso;have: ∀m,m≤n→JR b m=m:=fun m=>by
    induction m with
    | zero=>intro _;rfl
    | succ m ih=>intro hm;rw [Jq,ih (by omega),Ow hf m (by omega)];rfl
   have:=this n (Nat.le_refl _);omega
def bun (l:List Res):Res where
 M:=fun x=> ∃r∈l,r.M x
 inv:=fun Z w=>(∀r∈l,r.inv Z w)∧l.Pairwise (fun a b=> ∀x,a.M x→¬b.M x)
 lt:=fun Z w H x ⟨r,hr,hx⟩=>r.lt Z w (H.1 r hr) x hx
 dry:=fun Z w H x ⟨r,hr,hx⟩ c=>r.dry Z w (H.1 r hr) x hx c
 keep:=fun Z w w' N H hf hd ha=>⟨fun r hr=>r.keep Z w w' N (H.1 r hr) hf hd (fun x hx=>ha x ⟨r,hr,hx⟩),H.2⟩
 zone:=fun Z Z' w H hz hs=>⟨fun r hr=>r.zone Z Z' w (H.1 r hr) hz hs,H.2⟩
theorem St.shut {w0:Gnd} {w:World} {rs:List Res} (l:List Res) (h:St w0 w (l++rs)):St w0 w (bun l::rs):=by
 have hp:=List.pairwise_append.1 h.apart;refine ⟨h.base,h.zin,fun r hr=>?_,fun r hr x hx=>?_,List.pairwise_cons.2 ⟨fun b hb x ⟨r,hr,hx⟩=>hp.2.2 r hr b hb x hx,hp.2.1⟩⟩
 ·rcases List.mem_cons.1 hr with rfl | hr
  ·exact ⟨fun r hr=>h.inv r (List.mem_append_left _ hr),hp.1⟩
  ·exact h.inv r (List.mem_append_right _ hr)
 ·rcases List.mem_cons.1 hr with rfl | hr
  ·obtain ⟨q,hq,hx⟩:=hx;exact h.new q (List.mem_append_left _ hq) x hx
  ·exact h.new r (List.mem_append_right _ hr) x hx
theorem St.unshut {w0:Gnd} {w:World} {rs:List Res} {l:List Res} (h:St w0 w (bun l::rs)):St w0 w (l++rs):=by
 have hp:=List.pairwise_cons.1 h.apart;have hi:=h.inv (bun l) (List.mem_cons_self ..);refine ⟨h.base,h.zin,fun r hr=>?_,fun r hr x hx=>?_,List.pairwise_append.2 ⟨hi.2,hp.2,fun a ha b hb x hx=>hp.1 b hb x ⟨a,ha,hx⟩⟩⟩
 ·rcases List.mem_append.1 hr with hr | hr
  ·exact hi.1 r hr
  ·exact h.inv r (List.mem_cons_of_mem _ hr)
 ·rcases List.mem_append.1 hr with hr | hr
  ·exact h.new (bun l) (List.mem_cons_self ..) x ⟨r,hr,hx⟩
  ·exact h.new r (List.mem_cons_of_mem _ hr) x hx
structure Pl where
 n:Nat
 ni:Nat
 im:Nat
 bm:Nat
 tb:Nat
 da:Nat
 dc:Nat
def Pl.cells (P:Pl):List Value:= [.int .i64 P.n,.int .i64 P.ni,.int .i64 P.im,.int .i64 P.bm,.int .i64 P.tb,.int .i64 P.da,.int .i64 P.dc]
structure Qdh (P:Pl):Prop where
 n:P.n≤65536
 ni:1≤P.ni∧P.ni≤4096
 dc:1≤P.dc∧P.dc≤4096
 im:P.im=246
 bm:P.bm=247
 tb:P.tb=248
 da:P.da=P.tb+(P.ni+7)/8
 all:P.da+P.dc=P.n
structure Sys where
 H:Hdl
 jh:K9
 J:JSt
 D:DSt
 cb:Nat
 wb:Nat
 op:Bool
 ov:Bool
 l:WrL
 s:Nat→Blk
 n:Nat
 g:Nat
 m:Nat
 ab:Nat
 sb:Nat
 P:Pl
theorem Qh0: ¬U8T (266:TypeId):=by decide
theorem QeB: ¬U8T (291:TypeId):=by decide
def Sys.lo (X:Sys):List Res:= [cst X.cb X.jh.jb X.op X.ov X.wb,wrt X.wb X.l,jrn X.H X.jh X.J,dev X.H X.D]
def Sys.al (X:Sys):Res:=arr X.ab (Value.pointer (some ⟨X.cb,0,none⟩)::X.P.cells).toArray 266 Qh0
def Sys.st (X:Sys):Res:=arr X.sb (Value.pointer (some ⟨X.cb,0,none⟩)::Value.pointer (some ⟨X.ab,0,none⟩)::X.P.cells).toArray 291 QeB
def Sys.all (X:Sys):List Res:=X.lo++ [X.al,X.st]
def Sys.v (X:Sys):Nat→Blk:=cvw X.l X.s
def Sys.put (X:Sys) (k:Nat) (b:Blk):Sys:= { X with l:=VP X.l k b }
def Sys.wr (X:Sys) (l:WrL):Sys:= { X with l:=l }
structure Jl (X:Sys):Prop where
 live:Live X.n X.g X.m X.J X.D X.s
 cok:COk X.n X.l
 pl:Qdh X.P
 pn:X.P.n=X.n
 g:X.g≤1000000
 m:X.m≤1000000
 ops:X.D.ops≤1000+123*X.m
def At (w0:Gnd) (w:World) (X:Sys) (rs:List Res):Prop:=St w0 w (bun X.all::rs)∧Jl X
section
variable {w0:Gnd} {w:World} {rs:List Res} {X:Sys}
theorem At.ok (h:At w0 w X rs):Jl X:=h.2
theorem At.open (h:At w0 w X rs):St w0 w (cst X.cb X.jh.jb X.op X.ov X.wb::wrt X.wb X.l::jrn X.H X.jh X.J::dev X.H X.D::X.al::X.st::rs):=h.1.unshut
theorem At.frm (h:At w0 w X rs) {w':World} (hf:Frm NoB w w'):At w0 w' X rs:=⟨h.1.frm0 hf,h.2⟩
theorem At.mkByt (h:At w0 w X rs) {w':World} (hf:Frm NoB w w') {v:Value} {bs:List UInt8} {R:Nat→Prop} (hb:Qc w' v bs R):At w0 w' X (byt v bs::rs):=⟨(h.1.mkByt hf hb).swap,h.2⟩
theorem At.name (h:At w0 w X rs): ∃y,w=y∧At w0 y X rs:=⟨w,rfl,h⟩
theorem At.drop (h:At w0 w X rs) (n:Nat):At w0 w X (rs.drop n):=⟨h.1.sub ((List.drop_sublist n rs).cons_cons _),h.2⟩
theorem At.arrCell (h:At w0 w X rs) {i b:Nat} {c:Array Value} {t:TypeId} {ht: ¬U8T t} (hr:rs[i]?=some (arr b c t ht)) (j:Nat):w.cell? ⟨b,j,none⟩=c[j]?:=h.1.arrCell (i:=i+1) hr j
theorem At.arrFree (h:At w0 w X rs) {i b:Nat} {c:Array Value} {t:TypeId} {ht: ¬U8T t} (hr:rs[i]?=some (arr b c t ht)) (j:Nat):w.frozen? ⟨b,j,none⟩=false:=h.1.arrFree (i:=i+1) hr j
theorem At.setArr (h:At w0 w X rs) (i:Nat) {b:Nat} {c:Array Value} {t:TypeId} {ht: ¬U8T t} (hr:rs[i]?=some (arr b c t ht)) (j:Nat) (v:Value):At w0 (w.setCell ⟨b,j,none⟩ v) X (rs.set i (arr b (c.setIfInBounds j v) t ht)):=⟨h.1.setArr (i+1) hr j v,h.2⟩
theorem At.newArr (h:At w0 w X rs) (c:Array Value) (t:TypeId) (ht: ¬U8T t):At w0 (w.alloc (.cells c t (0,0))) X (arr w.heap.size c t ht::rs):=⟨(h.1.newArr c t ht).swap,h.2⟩
theorem At.byt (h:At w0 w X rs) {i:Nat} {v:Value} {bs:List UInt8} (hr:rs[i]?=some (byt v bs)):Qc w v bs Ku:=h.1.get (i:=i+1) hr
theorem At.sub (h:At w0 w X rs) {rs':List Res} (hs:rs'.Sublist rs):At w0 w X rs':=⟨h.1.sub (hs.cons_cons _),h.2⟩
theorem At.alCells (h:At w0 w X rs):w.cell? ⟨X.ab,0,none⟩=some (.pointer (some ⟨X.cb,0,none⟩))∧w.cell? ⟨X.ab,1,none⟩=some (.int .i64 X.P.n)∧w.cell? ⟨X.ab,2,none⟩=some (.int .i64 X.P.ni)∧w.cell? ⟨X.ab,3,none⟩=some (.int .i64 X.P.im)∧w.cell? ⟨X.ab,4,none⟩=some (.int .i64 X.P.bm)∧
 w.cell? ⟨X.ab,5,none⟩=some (.int .i64 X.P.tb)∧w.cell? ⟨X.ab,6,none⟩=some (.int .i64 X.P.da)∧w.cell? ⟨X.ab,7,none⟩=some (.int .i64 X.P.dc):=
 have h:=h.open
 ⟨(h.arrCell (i:=4) rfl 0).trans rfl,(h.arrCell (i:=4) rfl 1).trans rfl,(h.arrCell (i:=4) rfl 2).trans rfl,(h.arrCell (i:=4) rfl 3).trans rfl,(h.arrCell (i:=4) rfl 4).trans rfl,(h.arrCell (i:=4) rfl 5).trans rfl,(h.arrCell (i:=4) rfl 6).trans rfl,(h.arrCell (i:=4) rfl 7).trans rfl⟩
theorem At.stCells (h:At w0 w X rs):w.cell? ⟨X.sb,0,none⟩=some (.pointer (some ⟨X.cb,0,none⟩))∧w.cell? ⟨X.sb,1,none⟩=some (.pointer (some ⟨X.ab,0,none⟩))∧w.cell? ⟨X.sb,6,none⟩=some (.int .i64 X.P.tb):=
 have h:=h.open
 ⟨(h.arrCell (i:=5) rfl 0).trans rfl,(h.arrCell (i:=5) rfl 1).trans rfl,(h.arrCell (i:=5) rfl 6).trans rfl⟩
theorem Jl.len (h:Jl X) (k:Nat) (hk:245≤k) (hn:k<X.n):(X.v k).length=512:=by
 unfold Sys.v cvw;cases hl:look X.l (k:Int) with
 | none=>
   show (X.s k).length=512;rw [←h.live.view k hk hn];exact OD _ _ _ _ (h.live.ok (by have:=h.g;omega) (by have:=h.m;omega)).b512 (fun k=>DSt.last_length h.live.wf k)
 | some b=>exact h.cok.b512 _ (VR hl)
theorem QgU (h:At w0 w X rs):Calls prog 177 #[.pointer (some ⟨X.cb,0,none⟩)] w fun e w'=>w=w'∧e= .returned (.bool X.op):=QbC h.open
theorem Og (h:At w0 w X rs) (k:Nat) (hk:245≤k) (hn:k<X.n):
 Calls prog 202 #[.pointer (some ⟨X.cb,0,none⟩),.int .i64 k] w fun e w'=> ∃v,e= .returned (.tuple #[v,.int .i64 0])∧At w0 w' X (byt v (X.v k)::rs):=by
 have ho:=h.ok;refine (Qi1 h.open 0 rfl (ho.live.ok (by have:=ho.g;omega) (by have:=ho.m;omega)) (by have:=ho.ops;have:=ho.m;omega) (k:Int) (by omega) (by rw [ho.live.dn];omega) (by rw [ho.live.dn];have:=ho.pl.n;have:=ho.pn;omega) ho.cok.b512).mono ?_;rintro e w' ⟨v,he,hs⟩;refine ⟨v,he,?_,ho⟩;have e1:VQ X.l (VZ X.J X.D) (k:Int)=X.v k:=by
  unfold VQ Sys.v cvw;rw [Int.toNat_natCast,ho.live.view k hk hn]
 rw [e1] at hs;exact (hs.shut (byt v (X.v k)::X.all)).unshut.perm (by
  show List.Perm (byt v (X.v k)::(X.all++rs)) _;exact (List.perm_middle (l₁:=X.all)).symm) |>.shut X.all
theorem Sys.put_v (X:Sys) (k:Nat) (b:Blk) (j:Nat):(X.put k b).v j=if j=k then b else X.v j:=by
 unfold Sys.v cvw Sys.put;by_cases e:j=k
 ·subst e;rw [if_pos rfl,V8];rfl
 ·rw [if_neg e,Vy _ _ (by omega)]
def Sys.keys (X:Sys):List Int:=X.l.map (·.1)
theorem Sys.Y8 (X:Sys) (k:Nat) (b:Blk) (j:Int):j∈(X.put k b).keys↔j∈X.keys∨j=k:=by
 unfold Sys.keys Sys.put;rw [_root_.Go.Proofs.YtlemndledcmhiaaGreatDoor.Y8];split
 ·rename_i h
  have:=(Km X.l k).1 h;constructor
  ·exact .inl
  ·rintro (h | rfl)
   ·exact h
   ·exact this
 ·simp
theorem Jl.put (h:Jl X) (k:Nat) (b:Blk) (hk:245≤k) (hn:k<X.n) (hb:b.length=512) (hr:(look X.l k).isSome=true∨X.l.length<60):Jl (X.put k b):=
 ⟨h.live,h.cok.put k b ⟨by omega,by omega⟩ hb hr,h.pl,h.pn,h.g,h.m,h.ops⟩
theorem At.back {Y:Sys} (hs:St w0 w (cst Y.cb Y.jh.jb Y.op Y.ov Y.wb::wrt Y.wb Y.l::jrn Y.H Y.jh Y.J::dev Y.H Y.D::Y.al::Y.st::rs)) (ho:Jl Y):At w0 w Y rs:=⟨St.shut Y.all hs,ho⟩
theorem KX (h:At w0 w X rs) (hop:X.op=true) (k j:Nat) (hk:245≤k) (hn:k<X.n) {v:Value} {d:Blk} (hv:rs[j]?=some (byt v d)) (hd:d.length=512) (hr:(k:Int)∈X.keys∨X.l.length<60):
 Calls prog 92 #[.pointer (some ⟨X.cb,0,none⟩),.int .i64 k,v] w fun e w'=>e= .returned (.int .i64 0)∧At w0 w' (X.put k d) rs:=by
 have ho:=h.ok;have hs:=h.open;rw [hop] at hs;have hr':(look X.l (k:Int)).isSome=true∨X.l.length<60:=hr.imp (Km X.l k).2 id;refine (QdG hs 0 (j+3) rfl hv hd (ho.live.ok (by have:=ho.g;omega) (by have:=ho.m;omega)) (by have:=ho.ops;have:=ho.m;omega) (k:Int) (by omega) (by rw [ho.live.dn];omega) (by rw [ho.live.dn];have:=ho.pl.n;have:=ho.pn;omega) (by have:=ho.cok.few;omega) ho.cok.b512).mono ?_;rintro e w' (⟨_,he,hs'⟩ | ⟨hnone,h60,_⟩)
 ·refine ⟨he,At.back (Y:=X.put k d) ?_ (ho.put k d hk hn hd hr')⟩;show St w0 w' (cst X.cb X.jh.jb X.op X.ov X.wb::_);rw [hop];exact hs'
 ·rcases hr' with hr' | hr'
  ·rw [hnone] at hr';cases hr'
  ·omega
theorem QeM (h:At w0 w X rs) (hop:X.op=false):
 Calls prog 90 #[.pointer (some ⟨X.cb,0,none⟩)] w fun e w'=>e= .returned (.int .i64 0)∧At w0 w' { X with op:=true,ov:=false } rs:=by
 refine (Qg3 h.open).mono ?_;rintro e w' ⟨he,hs⟩;rw [hop] at he hs;exact ⟨he,At.back (Y:= { X with op:=true,ov:=false }) hs ⟨h.ok.live,h.ok.cok,h.ok.pl,h.ok.pn,h.ok.g,h.ok.m,h.ok.ops⟩⟩
structure Ot (X Y:Sys):Prop where
 cb:Y.cb=X.cb
 wb:Y.wb=X.wb
 ab:Y.ab=X.ab
 sb:Y.sb=X.sb
 P:Y.P=X.P
 n:Y.n=X.n
 lim:Y.D.lim=X.D.lim
theorem Ot.trans {X Y Z:Sys} (h:Ot X Y) (g:Ot Y Z):Ot X Z:=⟨g.cb.trans h.cb,g.wb.trans h.wb,g.ab.trans h.ab,g.sb.trans h.sb,g.P.trans h.P,g.n.trans h.n,g.lim.trans h.lim⟩
theorem Qhv (h:At w0 w X rs) (hop:X.op=true) (hlim:X.D.lim=none) (hm:X.m<1000000):
 Calls prog 96 #[.pointer (some ⟨X.cb,0,none⟩)] w fun e w'=>e= .returned (.int .i64 0)∧∃Y,Ot X Y∧At w0 w' Y rs∧Y.op=false∧Y.l= []∧Y.v=X.v∧Y.m=X.m+1:=by
 have ho:=h.ok;have hs:=h.open;rw [hop] at hs;refine (WD hs 0 rfl ho.live ho.cok (by have:=ho.pl.im;have:=ho.pl.bm;have:=ho.pl.tb;have:=ho.pl.da;have:=ho.pl.all;have:=ho.pn;omega) (by have:=ho.pl.n;have:=ho.pn;omega) (by omega) (by have:=ho.g;omega) (by have:=ho.ops;omega) hlim).mono ?_;rintro e w' ⟨jh',J',D',hjb,he,hs',hl',hlim',hops'⟩;rw [←hjb] at hs';refine ⟨he,{ X with jh:=jh',J:=J',D:=D',op:=false,l:= [],s:=cvw X.l X.s,m:=X.m+1 },⟨rfl,rfl,rfl,rfl,rfl,rfl,hlim'.trans hlim.symm⟩,At.back (Y:= { X with jh:=jh',J:=J',D:=D',op:=false,l:= [],s:=cvw X.l X.s,m:=X.m+1 }) hs' ⟨hl',COk.nil _,ho.pl,ho.pn,ho.g,by show X.m+1≤_;omega,by show D'.ops≤1000+123*(X.m+1);have:=ho.ops;omega⟩,rfl,rfl,rfl,rfl⟩
theorem Jw.at {w:World} {v:Value} {bs:List UInt8} (h:Jw w v bs) {q:Nat} {x:UInt8} (hx:bs[q]?=some x): ∃blk off cap,v= .slice (some ⟨blk,off,none⟩) bs.length cap∧w.cell? ⟨blk,off+q,none⟩=some (.int .u8 (x.toNat:Int)):=by
 obtain ⟨a,cap,rfl,hc⟩:=h;obtain ⟨blk,off,rfl,_,h2⟩:=hc q x hx;exact ⟨blk,off,cap,rfl,h2⟩
theorem Qap (x:Nat) (h:x<256):(BitVec.ofInt IntKind.u8.bits (x:Int)).toNat=x:=by
 rw [BitVec.toNat_ofInt];show ((x:Int)%256).toNat=x;omega
theorem u8_in {x:Int} (h0:0≤x) (h1:x<256):IntKind.u8.wrap x=x:=by
 show x%256=x;omega
theorem QhE (x:Nat) (h:x<256):Go.bits .and .u8 (x:Int) 1=((x%2:Nat):Int):=by
 have h3:(BitVec.ofInt IntKind.u8.bits (x:Int) &&& BitVec.ofInt IntKind.u8.bits ((1:Nat):Int)).toNat=x%2:=by
  rw [BitVec.toNat_and,Qap x h,Qap 1 (by omega)];exact Nat.and_two_pow_sub_one_eq_mod x 1
 show IntKind.u8.wrap ((BitVec.ofInt IntKind.u8.bits (x:Int) &&& BitVec.ofInt IntKind.u8.bits ((1:Nat):Int)).toNat:Int)=_;rw [h3];exact u8_in (by omega) (by omega)
theorem QkE (x y:Nat) (h:x<256) (h2:y<256):Go.bits .or .u8 (x:Int) (y:Int)=((x ||| y:Nat):Int):=by
 have hb:x ||| y<256:=Nat.or_lt_two_pow (n:=8) h h2
 show IntKind.u8.wrap ((BitVec.ofInt IntKind.u8.bits (x:Int) ||| BitVec.ofInt IntKind.u8.bits (y:Int)).toNat:Int)=_;rw [BitVec.toNat_or,Qap x h,Qap y h2];exact u8_in (by omega) (by omega)
theorem Wt (k:Nat) (hk:k<4611686018427387904):Go.bits .and .i64 (k:Int) 7=((k%8:Nat):Int):=by
 have h1: ∀k:Nat,k<4611686018427387904→(BitVec.ofInt IntKind.i64.bits (k:Int)).toNat=k:=fun k hk=>by
  rw [BitVec.toNat_ofInt];show ((k:Int)%18446744073709551616).toNat=k;omega
 show IntKind.i64.wrap ((BitVec.ofInt IntKind.i64.bits (k:Int) &&& BitVec.ofInt IntKind.i64.bits ((7:Nat):Int)).toNat:Int)=_;rw [BitVec.toNat_and,h1 k hk,h1 7 (by omega),show k &&& 7=k%8 from Nat.and_two_pow_sub_one_eq_mod k 3];exact IntWalk.i64_in _ (by omega)
theorem Qey (x:UInt8) (i:Nat):((x.toNat:Int)/2 ^ i)=((x.toNat/2 ^ i:Nat):Int):=by norm_cast
theorem Qaw (x:UInt8) (i:Nat):x.toNat/2 ^ i<256:=Nat.lt_of_le_of_lt (Nat.div_le_self _ _) x.toNat_lt
theorem QjU (x:UInt8) (i:Nat):(((x.toNat/2 ^ i%2:Nat):Int)==1)=x.toNat.testBit i:=by
 rw [Nat.testBit_eq_decide_div_mod_eq];rcases Nat.mod_two_eq_zero_or_one (x.toNat/2 ^ i) with e | e<;>rw [e]<;>rfl
theorem Ks (w:World) (v:Value) (bs:List UInt8) (k:Nat) (hv:Jw w v bs) (hk:k<4611686018427387904) (hl:bs.length<4611686018427387904):
 Calls prog 317 #[v,.int .i64 k] w fun e w'=>w=w'∧e= .returned (.bool (Qt bs k)):=by
 obtain ⟨q,hq⟩: ∃q:Nat,(k:Int)/8=(q:Int):=⟨k/8,by omega⟩;have hk0:(0:Int)≤(k:Int):=Qk _;have hq0:(0:Int)≤(q:Int):=Qk _;by_cases hin:q<bs.length
 ·obtain ⟨x,hx⟩: ∃x,bs[q]?=some x:=⟨_,List.getElem?_eq_getElem hin⟩;obtain ⟨blk,off,cap,rfl,hc⟩:=hv.at hx;have hin1:(q:Int)<(bs.length:Int):=by omega
  go_enter func317,ntmps317;have h7:=Wt k hk;obtain ⟨i,hi⟩: ∃i,k%8=i:=⟨_,rfl⟩;rw [hi] at h7;have hi0:(0:Int)≤(i:Int):=Qk _;have hi8:(i:Int)<8:=by omega
  have hsh:=Qey x i;have hy:=Qaw x i;have h1:=QhE _ hy;have HE:=hid (QjU x i);have HB:Hid (Qt bs k=x.toNat.testBit i):=hid (by
   unfold Qt;rw [hi,show k/8=q from by omega,List.getD_eq_getElem?_getD,hx];rfl)
  generalize x.toNat/2 ^ i=y at*
  obtain ⟨z,hz⟩: ∃z,y%2=z:=⟨_,rfl⟩;rw [hz] at h1 HE;clear hz hx hv hi;have hz2:=HE.out;rw [←HB.out] at hz2;clear HE HB;go_wp2;go_ret;exact ⟨rfl,rfl⟩
 ·obtain ⟨a,cap,rfl,-⟩:=hv;have hin1: ¬(q:Int)<(bs.length:Int):=by omega
  have HB:Hid (Qt bs k=false):=hid (by
   unfold Qt;rw [show k/8=q from by omega,List.getD_eq_getElem?_getD,List.getElem?_eq_none (by omega)];simp)
  go_enter func317,ntmps317;go_wp2;go_ret;exact ⟨rfl,by rw [HB.out];rfl⟩
theorem Qgs (i:Nat) (h:i<8):(2:Int) ^ i%256=((2 ^ i:Nat):Int):=by
 have:=VG i h;rw [show ((2:Int) ^ i)=((2 ^ i:Nat):Int) from by norm_cast];generalize 2 ^ i=z at*
 omega
theorem Qkk (x:UInt8) (i:Nat) (h:i<8):Go.bits .or .u8 (x.toNat:Int) ((2 ^ i:Nat):Int)=((YZ x i true).toNat:Int):=by
 rw [QkE x.toNat (2 ^ i) x.toNat_lt (Nat.lt_of_le_of_lt (VG i h) (by omega)),Ui x i h];rfl
theorem Qjb (x:UInt8) (i:Nat) (h:i<8):Go.bits .andNot .u8 (x.toNat:Int) ((2 ^ i:Nat):Int)=((YZ x i false).toNat:Int):=by
 have h2:=VG i h;rw [Ui x i h];show IntKind.u8.wrap ((BitVec.ofInt IntKind.u8.bits (x.toNat:Int) &&& ~~~ BitVec.ofInt IntKind.u8.bits ((2 ^ i:Nat):Int)).toNat:Int)=((x.toNat &&& (255-2 ^ i):Nat):Int);rw [BitVec.toNat_and,BitVec.toNat_not,Qap _ x.toNat_lt,Qap _ (by omega)];show IntKind.u8.wrap (((x.toNat &&& (255-2 ^ i)):Nat):Int)=_;have hx:x.toNat<256:=x.toNat_lt;have hle:x.toNat &&& (255-2 ^ i)≤x.toNat:=Nat.and_le_left;exact u8_in (Qk _) (by omega)
theorem Qc7 (w:World) (v:Value) (bs:List UInt8) (k:Nat) (R:Nat→Prop) (hv:Qc w v bs R) (hk:k/8<bs.length) (hl:bs.length≤1000000):
 Calls prog 316 #[v,.int .i64 k,.bool true] w fun e w'=> ∃v',e= .returned v'∧Qc w' v' (Qw bs k true) (QR w)∧Frm NoB w w':=by
 obtain ⟨q,hq⟩: ∃q:Nat,(k:Int)/8=(q:Int):=⟨k/8,by omega⟩;have hk0: ¬(k:Int)<0:=by omega
 have hq0:(0:Int)≤(q:Int):=Qk _;have hin1:(q:Int)<(bs.length:Int):=by omega
 have HC:=hid (Vn w v bs R hv (by omega));obtain ⟨vb,vo,vc,rfl,-⟩:=hv.cells;obtain ⟨x,hx⟩: ∃x,bs[q]?=some x:=⟨_,List.getElem?_eq_getElem (by omega)⟩;have HX:=hid hx;have h7:=Wt k (by omega);obtain ⟨i,hi⟩: ∃i,k%8=i:=⟨_,rfl⟩;rw [hi] at h7;have hi0:(0:Int)≤(i:Int):=Qk _;have hi8:(i:Int)<8:=by omega
 have hsh:=Qgs i (by omega);have hor:=Qkk x i (by omega);have HE:Hid (Qw bs k true=bs.set q (YZ x i true)):=hid (by
  unfold Qw;rw [hi,show k/8=q from by omega,List.getD_eq_getElem?_getD,hx];rfl)
 have HQ:Hid (q<bs.length):=hid (by omega);generalize 2 ^ i=z at*
 generalize YZ x i true=y at*
 clear hi hx hk;go_enter func316,ntmps316;go_wp2_with fail;refine HC.out.mono ?_;clear HC hv;rintro e w2 ⟨hf,v2,rfl,hb⟩;obtain ⟨cb,co,cc,rfl,-,-,hfr⟩:=hb.cells;have hb':=hb.sliceOf;have HBB:=hid hb;have hcell:w2.cell? ⟨cb,co+q,none⟩=some (.int .u8 (x.toNat:Int)):=by
  obtain ⟨_,_,_,e,hc⟩:=hb'.at HX.out;cases e;exact hc
 have hfree:w2.frozen? ⟨cb,co+q,none⟩=false:=by
  obtain ⟨b',o',c',cc,e,_,h3,_⟩:=hb;cases e;exact h3.frozen
 have HF:=hid ((show Frm NoB w (w2.setCell ⟨cb,co+q,none⟩ (.int .u8 (y.toNat:Int))) from hf.setCell (.inr (show w.heap.size≤cb from hfr)) _).drew);have HP:=hid (Qc.frm0 (hb.put q HQ.out y) (Frm.refl NoB _).drew);clear hb hb' hfr hf HBB;go_upto_region 5 with (fail)
 go_region;go_wp2;go_ret;exact ⟨_,rfl,by rw [HE.out];exact HP.out,HF.out⟩
theorem Qct (w:World) (v:Value) (bs:List UInt8) (k:Nat) (R:Nat→Prop) (hv:Qc w v bs R) (hk:k/8<bs.length) (hl:bs.length≤1000000):
 Calls prog 316 #[v,.int .i64 k,.bool false] w fun e w'=> ∃v',e= .returned v'∧Qc w' v' (Qw bs k false) (QR w)∧Frm NoB w w':=by
 obtain ⟨q,hq⟩: ∃q:Nat,(k:Int)/8=(q:Int):=⟨k/8,by omega⟩;have hk0: ¬(k:Int)<0:=by omega
 have hq0:(0:Int)≤(q:Int):=Qk _;have hin1:(q:Int)<(bs.length:Int):=by omega
 have HC:=hid (Vn w v bs R hv (by omega));obtain ⟨vb,vo,vc,rfl,-⟩:=hv.cells;obtain ⟨x,hx⟩: ∃x,bs[q]?=some x:=⟨_,List.getElem?_eq_getElem (by omega)⟩;have HX:=hid hx;have h7:=Wt k (by omega);obtain ⟨i,hi⟩: ∃i,k%8=i:=⟨_,rfl⟩;rw [hi] at h7;have hi0:(0:Int)≤(i:Int):=Qk _;have hi8:(i:Int)<8:=by omega
 have hsh:=Qgs i (by omega);have hor:=Qjb x i (by omega);have HE:Hid (Qw bs k false=bs.set q (YZ x i false)):=hid (by
  unfold Qw;rw [hi,show k/8=q from by omega,List.getD_eq_getElem?_getD,hx];rfl)
 have HQ:Hid (q<bs.length):=hid (by omega);generalize 2 ^ i=z at*
 generalize YZ x i false=y at*
 clear hi hx hk;go_enter func316,ntmps316;go_wp2_with fail;refine HC.out.mono ?_;clear HC hv;rintro e w2 ⟨hf,v2,rfl,hb⟩;obtain ⟨cb,co,cc,rfl,-,-,hfr⟩:=hb.cells;have hb':=hb.sliceOf;have HBB:=hid hb;have hcell:w2.cell? ⟨cb,co+q,none⟩=some (.int .u8 (x.toNat:Int)):=by
  obtain ⟨_,_,_,e,hc⟩:=hb'.at HX.out;cases e;exact hc
 have hfree:w2.frozen? ⟨cb,co+q,none⟩=false:=by
  obtain ⟨b',o',c',cc,e,_,h3,_⟩:=hb;cases e;exact h3.frozen
 have HF:=hid ((show Frm NoB w (w2.setCell ⟨cb,co+q,none⟩ (.int .u8 (y.toNat:Int))) from hf.setCell (.inr (show w.heap.size≤cb from hfr)) _).drew);have HP:=hid (Qc.frm0 (hb.put q HQ.out y) (Frm.refl NoB _).drew);clear hb hb' hfr hf HBB;go_upto_region 6 with (fail)
 go_region;go_wp2;go_ret;exact ⟨_,rfl,by rw [HE.out];exact HP.out,HF.out⟩
theorem Qg8 (bs:List UInt8) (i k:Nat) (h:bs[i]?=some 255) (hk:k/8=i):Qt bs k=true:=by
 unfold Qt;rw [hk,List.getD_eq_getElem?_getD,h];have:k%8<8:=Nat.mod_lt _ (by omega);generalize k%8=j at*
 show (255:Nat).testBit j=true;rcases (by omega:j=0∨j=1∨j=2∨j=3∨j=4∨j=5∨j=6∨j=7) with rfl | rfl | rfl | rfl | rfl | rfl | rfl | rfl<;>rfl
def V5 (bs:List UInt8) (n:Nat) (e:Ending):Prop:=e= .returned (.int .i64 (match Jn bs n with | some k=>(k:Int) | none=> -1))
theorem V5.some {bs:List UInt8} {n k:Nat} (h:Jn bs n=some k):V5 bs n (.returned (.int .i64 (k:Int))):=by unfold V5;rw [h]
theorem V5.none {bs:List UInt8} {n:Nat} (h:Jn bs n=none):V5 bs n (.returned (.int .i64 (-1))):=by unfold V5;rw [h]
theorem Qaf (w:World) (v:Value) (bs:List UInt8) (n:Nat) (hv:Jw w v bs) (hn:n≤8*bs.length) (hl:bs.length≤1000000):
 Calls prog 315 #[v,.int .i64 n] w fun e w'=>w=w'∧V5 bs n e:=by
 have HT:=hid (fun k hk=>Ks w v bs k hv hk (by omega));have HV:=hid hv;obtain ⟨a,cap,rfl,-⟩:=hv;go_enter func315,ntmps315;go_wp2_with fail;go_loop [5,6,7,10] (fun _ _ _ t=> ∃i:Nat,i≤bs.length∧t= .int .i64 i∧Hid (∀k,k<8*i→k<n→Qt bs k=true)) (fun _ _ _ t=>bs.length-(intOf t).toNat)
 case atStart=>exact ⟨0,Nat.zero_le _,rfl,hid fun k hk=>by omega⟩
 case round=>
  obtain ⟨i,hi,rfl,HA⟩:=hrel;have hi0:(0:Int)≤(i:Int):=Qk _;by_cases hlt:i<bs.length
  ·have hi1:(i:Int)<(bs.length:Int):=by omega
   obtain ⟨x,hx⟩: ∃x,bs[i]?=some x:=⟨_,List.getElem?_eq_getElem hlt⟩;obtain ⟨blk,off,cap',e,hc⟩:=HV.out.at hx;cases e;have HX:=hid hx;clear hx;by_cases h255:x=255
   ·subst h255;have HA2:Hid (∀k,k<8*(i+1)→k<n→Qt bs k=true):=hid fun k hk hkn=>by
     by_cases e:k<8*i
     ·exact HA.out k e hkn
     ·exact Qg8 bs i k HX.out (by omega)
    have hc2:w.cell? ⟨blk,off+i,none⟩=some (.int .u8 255):=hc;clear hc;go_wp2
    first | exact ⟨⟨i+1,hlt,by go_num,HA2⟩,by simp [intOf];omega⟩ | (go_round;case rel=>exact ⟨i+1,hlt,by go_num,HA2⟩;case measure=>simp [intOf];omega)
   ·have hb255:((x.toNat:Int)==255)=false:=by
     rw [beq_eq_false_iff_ne];intro e;exact h255 (UInt8.toNat_inj.1 (by show x.toNat=255;omega))
    clear h255;go_wp2_with fail;go_loop [7] (fun t=> ∃k:Nat,8*i≤k∧k≤8*i+8∧t= .int .i64 k∧Hid (∀j,j<k→j<n→Qt bs j=true)) (fun t=>8*i+8-(intOf t).toNat)
    case atStart=>exact ⟨8*i,Nat.le_refl _,by omega,by go_num,HA⟩
    case round=>
     obtain ⟨k,hk0,hk1,rfl,HK⟩:=hrel;have hkk:(0:Int)≤(k:Int):=Qk _;by_cases h1:k<8*i+8
     ·have h1':(k:Int)<8*(i:Int)+8:=by omega
      by_cases h2:k<n
      ·have h2':(k:Int)<(n:Int):=by omega
       obtain ⟨b,hb⟩: ∃b,Qt bs k=b:=⟨_,rfl⟩;have HT2:=hid (HT.out k (by omega));rw [hb] at HT2;have HB:=hid hb;clear hb;go_wp2_with fail;refine HT2.out.mono ?_;rintro e w2 ⟨rfl,rfl⟩;cases b with
       | true=>
         have HK2:Hid (∀j,j<k+1→j<n→Qt bs j=true):=hid fun j hj hjn=>by
          by_cases e:j<k
          ·exact HK.out j e hjn
          ·obtain rfl:j=k:=by omega
           exact HB.out
         go_wp2
         first | exact ⟨⟨k+1,by omega,by omega,by go_num,HK2⟩,by simp [intOf];omega⟩ | (go_round;case rel=>exact ⟨k+1,by omega,by omega,by go_num,HK2⟩;case measure=>simp [intOf];omega)
       | false=>
         have HF:=hid (Qfi h2 HB.out fun j hj=>HK.out j hj (by omega));go_wp2;go_ret;exact ⟨rfl,V5.some HF.out⟩
      ·have h2': ¬(k:Int)<(n:Int):=by omega
       have HA2:Hid (∀k,k<8*(i+1)→k<n→Qt bs k=true):=hid fun j hj hjn=>HK.out j (by omega) hjn
       go_wp2
       first | exact ⟨⟨i+1,hlt,by go_num,HA2⟩,by simp [intOf];omega⟩ | (go_round;case rel=>exact ⟨i+1,hlt,by go_num,HA2⟩;case measure=>simp [intOf];omega)
     ·have h1': ¬(k:Int)<8*(i:Int)+8:=by omega
      have HA2:Hid (∀k,k<8*(i+1)→k<n→Qt bs k=true):=hid fun j hj hjn=>HK.out j (by omega) hjn
      go_wp2
      first | exact ⟨⟨i+1,hlt,by go_num,HA2⟩,by simp [intOf];omega⟩ | (go_round;case rel=>exact ⟨i+1,hlt,by go_num,HA2⟩;case measure=>simp [intOf];omega)
  ·have hi1: ¬(i:Int)<(bs.length:Int):=by omega
   have HF:Hid (Jn bs n=none):=hid (by
    unfold Jn;rw [List.find?_eq_none];intro k hk;rw [HA.out k (by have:=List.mem_range.1 hk;omega) (List.mem_range.1 hk)];simp)
   go_wp2;go_ret;exact ⟨rfl,V5.none HF.out⟩
theorem Qaa (w:World) (v:Value) (bs:List UInt8) (n:Nat) (hv:Jw w v bs) (hn:n≤8*bs.length) (hl:bs.length≤1000000):
 Calls prog 203 #[v,.int .i64 n] w fun e w'=>w=w'∧e= .returned (.int .i64 (JR bs n)):=by
 have HV:=hid hv;obtain ⟨a,cap,rfl,-⟩:=hv;go_enter func203,ntmps203;go_wp2_with fail;go_loop [4,5,6,7,10] (fun t4 _ _ _ t=> ∃i:Nat,i≤bs.length∧t= .int .i64 i∧t4= .int .i64 (JR bs (min n (8*i)))) (fun _ _ _ _ t=>bs.length-(intOf t).toNat)
 case atStart=>exact ⟨0,Nat.zero_le _,rfl,by rw [Nat.mul_zero,Nat.min_zero];rfl⟩
 case round=>
  obtain ⟨i,hi,rfl,rfl⟩:=hrel;have hi0:(0:Int)≤(i:Int):=Qk _;by_cases hlt:i<bs.length
  ·have hi1:(i:Int)<(bs.length:Int):=by omega
   obtain ⟨x,hx⟩: ∃x,bs[i]?=some x:=⟨_,List.getElem?_eq_getElem hlt⟩;obtain ⟨blk,off,cap',e,hc⟩:=HV.out.at hx;cases e;have HX:=hid hx;clear hx;go_wp2_with fail;go_loop [4,7,15] (fun t4 _ t=> ∃k:Nat,k≤8∧t= .int .i64 k∧t4= .int .i64 (JR bs (min n (8*i+k)))) (fun _ _ t=>8-(intOf t).toNat)
   case atStart=>exact ⟨0,Nat.zero_le _,rfl,rfl⟩
   case round=>
    obtain ⟨k,hk,rfl,rfl⟩:=hrel;have hk0:(0:Int)≤(k:Int):=Qk _;by_cases hk8:k<8
    ·have hk8':(k:Int)<8:=by omega
     by_cases hkn:8*i+k<n
     ·have hkn':8*(i:Int)+(k:Int)<(n:Int):=by omega
      have hsh:=Qey x k;have hy:=Qaw x k;have h1:=QhE _ hy;have hp:=Jq bs (8*i+k);have hpl:=Eu bs (8*i+k);have HP:Hid (JR bs (min n (8*i+(k+1)))=JR bs (min n (8*i+k))+x.toNat/2 ^ k%2∧JR bs (min n (8*i+k))≤8*i+k):=hid (by
       rw [show min n (8*i+(k+1))=8*i+k+1 from by omega,show min n (8*i+k)=8*i+k from by omega,hp];have hb:Qt bs (8*i+k)=x.toNat.testBit k:=by
        unfold Qt;rw [show (8*i+k)/8=i from by omega,show (8*i+k)%8=k from by omega,List.getD_eq_getElem?_getD,HX.out];rfl
       rw [hb,Nat.testBit_eq_decide_div_mod_eq];refine ⟨?_,hpl⟩;rcases Nat.mod_two_eq_zero_or_one (x.toNat/2 ^ k) with e | e<;>rw [e]<;>rfl)
      clear hp hpl;obtain ⟨P,hP⟩: ∃P,JR bs (min n (8*i+k))=P:=⟨_,rfl⟩;rw [hP] at HP ⊢;have hP0:(0:Int)≤(P:Int):=Qk _;have hP1:(P:Int)≤8000000:=by have:=HP.out.2;omega
      generalize x.toNat/2 ^ k=y at*
      obtain ⟨z,hz⟩: ∃z,y%2=z:=⟨_,rfl⟩;rw [hz] at h1 HP;have hz0:(0:Int)≤(z:Int):=Qk _;have hz1:(z:Int)≤1:=by omega
      have HP2:Hid ((P:Int)+(z:Int)=((JR bs (min n (8*i+(k+1))):Nat):Int)):=hid (by have:=HP.out.1;omega);clear hP hz HP;go_wp2
      first | exact ⟨⟨k+1,hk8,by go_num,by rw [HP2.out]⟩,by simp [intOf];omega⟩ | (go_round;case rel=>exact ⟨k+1,hk8,by go_num,by rw [HP2.out]⟩;case measure=>simp [intOf];omega)
     ·have hkn': ¬8*(i:Int)+(k:Int)<(n:Int):=by omega
      have HM:Hid (min n (8*i+k)=min n (8*i+(k+1))):=hid (by omega);go_wp2
      first | exact ⟨⟨k+1,hk8,by go_num,by rw [HM.out]⟩,by simp [intOf];omega⟩ | (go_round;case rel=>exact ⟨k+1,hk8,by go_num,by rw [HM.out]⟩;case measure=>simp [intOf];omega)
    ·have hk8': ¬(k:Int)<8:=by omega
     obtain rfl:k=8:=by omega
     have HM:Hid (min n (8*i+8)=min n (8*(i+1))):=hid (by omega);go_wp2
     first | exact ⟨⟨i+1,hlt,by go_num,by rw [HM.out]⟩,by simp [intOf];omega⟩ | (go_round;case rel=>exact ⟨i+1,hlt,by go_num,by rw [HM.out]⟩;case measure=>simp [intOf];omega)
  ·have hi1: ¬(i:Int)<(bs.length:Int):=by omega
   have HM:Hid (min n (8*i)=n):=hid (by omega);go_wp2;go_ret;exact ⟨rfl,by rw [HM.out];rfl⟩
theorem Uw: ¬U8T (186:TypeId):=by decide
theorem Qbx (h:At w0 w X rs):Calls prog 180 #[.pointer (some ⟨X.ab,0,none⟩)] w fun e w'=>w=w'∧e= .returned (.bool X.op):=by
 have c0:=h.alCells.1;have HO:=hid (QgU h);clear h;go_enter func180,ntmps180;go_wp2_with fail;refine HO.out.mono ?_;rintro e w2 ⟨rfl,rfl⟩;go_wp2;go_ret;exact ⟨rfl,rfl⟩
theorem EF (h:At w0 w X rs):Calls prog 113 #[.pointer (some ⟨X.ab,0,none⟩)] w fun e w'=>e= .returned (.agg #[.int .i64 X.P.bm,.int .i64 X.P.dc])∧Frm NoB w w':=by
 obtain ⟨-,-,-,-,c4,-,-,c7⟩:=(h.frm ((Frm.refl NoB w).alloc (.cells #[.int .i64 0,.int .i64 0] 186 (0,0)))).alCells;have HF:=hid (((Frm.refl NoB w).alloc (.cells #[.int .i64 X.P.bm,.int .i64 X.P.dc] 186 (0,0))).drew);clear h;go_enter func113,ntmps113;go_upto_region 1 with (fail)
 go_region;go_wp2;exact bodyPost_ret (v:= .agg #[.int .i64 X.P.bm,.int .i64 X.P.dc]) (by simp [results,results113,go_sem]) rfl ⟨rfl,HF.out⟩
theorem UF (h:At w0 w X rs):Calls prog 114 #[.pointer (some ⟨X.ab,0,none⟩)] w fun e w'=>e= .returned (.agg #[.int .i64 X.P.im,.int .i64 X.P.ni])∧Frm NoB w w':=by
 obtain ⟨-,-,c2,c3,-,-,-,-⟩:=(h.frm ((Frm.refl NoB w).alloc (.cells #[.int .i64 0,.int .i64 0] 186 (0,0)))).alCells;have HF:=hid (((Frm.refl NoB w).alloc (.cells #[.int .i64 X.P.im,.int .i64 X.P.ni] 186 (0,0))).drew);clear h;go_enter func114,ntmps114;go_upto_region 1 with (fail)
 go_region;go_wp2;exact bodyPost_ret (v:= .agg #[.int .i64 X.P.im,.int .i64 X.P.ni]) (by simp [results,results114,go_sem]) rfl ⟨rfl,HF.out⟩
theorem Qdg (w:World) (fi many:Nat) (h1:1≤many) (h2:many≤4096) (hfi:fi≤65536) (fn:FuncId) (caps:Array Value) (hE:QE prog fn) {Post:World→Prop}
 (hdoes:Calls prog fn (#[.int .i64 fi,.int .i64 0,.int .i64 many]++caps) (w.alloc (.cells #[.int .i64 fi,.int .i64 many] 186 (0,0))) fun e w'=> ∃b,e= .returned (.bool b)∧w'.cell? ⟨w.heap.size,1,none⟩=some (.int .i64 many)∧Post w'):
 Calls prog 181 #[.agg #[.int .i64 fi,.int .i64 many],.func (.func fn) #[] caps] w fun e w'=>e= .returned (.tuple #[])∧Post w':=by
 have HD:=hid hdoes;have HE:=hid hE;clear hdoes hE;have hm0:(0:Int)<(many:Int):=by omega
 have hm1:(many:Int)≤4096:=by omega
 have hf0:(0:Int)≤(fi:Int):=Qk _;have hf1:(fi:Int)≤65536:=by omega
 have hmn:min (many:Int) 4096=(many:Int):=by omega
 clear h1 h2 hfi;go_enter func181,ntmps181;go_wp2_with fail;obtain ⟨y1,hy1⟩: ∃y,y=w.alloc (.cells #[.int .i64 fi,.int .i64 many] 186 (0,0)):=⟨_,rfl⟩;have hc0:y1.cell? ⟨w.heap.size,0,none⟩=some (.int .i64 fi):=by rw [hy1];exact Qa (Qb _ _)
 have hc1:y1.cell? ⟨w.heap.size,1,none⟩=some (.int .i64 many):=by rw [hy1];exact Qa (Qb _ _)
 rw [←hy1] at HD ⊢;clear hy1;generalize w.heap.size=bx at*
 go_loopw [4] (fun t wr=>(t= .int .i64 0∧wr=y1)∨(t= .int .i64 4096∧wr.cell? ⟨bx,1,none⟩=some (.int .i64 many)∧Post wr)) (fun t _=>5000-(intOf t).toNat)
 case atStart=>exact .inl ⟨rfl,rfl⟩
 case round=>
  rcases hrel with ⟨rfl,rfl⟩ | ⟨rfl,hc,hp⟩
  ·go_wp2_with fail;refine Yj HE.out HD.out ?_;rintro e w2 ⟨b,rfl,hc2,hp⟩;refine ⟨_,rfl,?_⟩;have HP:=hid hp;clear hp hc0 hc1 HD;cases b with
   | true=>
     go_wp2
     first | exact ⟨.inr ⟨rfl,hc2,HP.out⟩,by decide⟩ | (go_roundw;case rel=>first | exact .inr ⟨rfl,hc2,HP.out⟩ | ((repeat apply Exists.intro);exact ⟨.inr ⟨rfl,hc2,HP.out⟩,rfl⟩);case measure=>decide)
   | false=>
     go_wp2;exact bodyPost_ret (v:= .tuple #[]) (by simp [results,results181,go_sem]) rfl ⟨rfl,HP.out⟩
  ·have HP:=hid hp;have hlt: ¬(4096:Int)<(many:Int):=by omega
   clear hp;go_wp2;go_end0;exact ⟨rfl,HP.out⟩
theorem VF: ¬U8T (104:TypeId):=by decide
theorem VM: ¬U8T (32:TypeId):=by decide
theorem Qhb:QE prog 314:=QJ func314 (by kernel_rfl) rfl
theorem QiA {ba be bk:Nat} (h:At w0 w X rs) (hop:X.op=true) (fi many:Nat) (hf:245≤fi) (hfn:fi<X.n) (hm:many≤4096) {k:Nat} (hk:Jn (X.v fi) many=some k) (hr:(fi:Int)∈X.keys∨X.l.length<60)
 (ia ie ik:Nat) (ha:rs[ia]?=some (arr ba #[.pointer (some ⟨X.ab,0,none⟩)] 104 VF)) {e0 k0:Value} (he:rs[ie]?=some (arr be #[e0] 32 VM)) (hkk:rs[ik]?=some (arr bk #[k0] 3 Jj)) (hne:ie≠ik∧ia≠ik∧ia≠ie):
 Calls prog 314 #[.int .i64 fi,.int .i64 0,.int .i64 many,.pointer (some ⟨ba,0,none⟩),.pointer (some ⟨be,0,none⟩),.pointer (some ⟨bk,0,none⟩)] w fun e w'=>
  e= .returned (.bool false)∧At w0 w' (X.put fi (Qw (X.v fi) k true)) ((rs.set ik (arr bk #[.int .i64 k] 3 Jj)).set ie (arr be #[.int .i64 0] 32 VM)):=by
 have hv512:=h.ok.len fi hf hfn;obtain ⟨hkm,hkb⟩:=Jf hk;have ca:w.cell? ⟨ba,0,none⟩=some (.pointer (some ⟨X.ab,0,none⟩)):=(h.arrCell ha 0).trans rfl;have c0:=h.alCells.1;have HR:=hid (Og h fi hf hfn);have HV:=hid hv512;have HK:=hid hk;have HRM:=hid hr;have HIA:=hid ha;have HIE:=hid he;have HIK:=hid hkk;have HFI:=hid (And.intro hf hfn);have HKM:Hid (k<many∧many≤4096):=hid ⟨hkm,hm⟩;have KS:Hid (∀y Y rs' i,At w0 y Y rs'→rs'[i]?=some (arr ba #[.pointer (some ⟨X.ab,0,none⟩)] 104 VF)→Y.ab=X.ab→Y.cb=X.cb→y.cell? ⟨ba,0,none⟩=some (.pointer (some ⟨X.ab,0,none⟩))∧y.cell? ⟨X.ab,0,none⟩=some (.pointer (some ⟨X.cb,0,none⟩))):=hid fun y Y rs' i hy hi e1 e2=>
  ⟨(hy.arrCell hi 0).trans rfl,by have:=hy.alCells.1;rw [e1,e2] at this;exact this⟩
 clear h hv512 hk hr ha he hkk hf hfn hkb hkm hm;go_enter func314,ntmps314;go_wp2_with fail;refine HR.out.mono ?_;clear HR ca c0;rintro e w2 ⟨v,rfl,h2⟩;have H2:=hid h2;have HF:=hid (Qaf w2 v (X.v fi) many (h2.byt (i:=0) rfl).sliceOf (by rw [HV.out];have:=HKM.out;omega) (by rw [HV.out];omega));clear h2;go_wp2_with fail;refine HF.out.mono ?_;clear HF;rintro e w3 ⟨rfl,hE⟩;unfold V5 at hE;rw [HK.out] at hE;subst hE;have hk0:(0:Int)≤(k:Int):=Qk _;have hk1:(k:Int)<4096:=by have:=HKM.out;omega
 have hk2: ¬(k:Int)<0:=by omega
 have hwr:IntKind.i64.wrap (k:Int)=(k:Int):=IntWalk.i64_in _ (by omega);obtain ⟨hne1,hne2,hne3⟩:=hne;obtain ⟨c1,c2⟩:=KS.out _ _ _ (ia+1) H2.out HIA.out rfl rfl;go_upto_region 8 with (fail)
 go_region_held3 (fun y=>y.cell? ⟨ba,0,none⟩=some (.pointer (some ⟨X.ab,0,none⟩))∧y.cell? ⟨X.ab,0,none⟩=some (.pointer (some ⟨X.cb,0,none⟩)))
  (first | exact KS.out _ _ _ (ia+2) h8 HIA.out rfl rfl | exact KS.out _ _ _ (ia+2) h7 HIA.out rfl rfl | exact KS.out _ _ _ (ia+1) (H2.out.frm (Frm.refl NoB w2).drew) HIA.out rfl rfl | exact KS.out _ _ _ (ia+2) h9 (by rw [List.getElem?_set_ne (by omega)];exact HIA.out) rfl rfl | exact KS.out _ _ _ (ia+2) h10 (by rw [List.getElem?_set_ne (by omega),List.getElem?_set_ne (by omega)];exact HIA.out) rfl rfl)
  (first
   | (go_at_call 92;(with_reducible refine (KX h7 hop fi 0 HFI.out.1 HFI.out.2 rfl (by rw [UY];exact HV.out) HRM.out).mono ?_);rintro e w6 ⟨rfl,h8⟩;have ck:w6.cell? ⟨bk,0,none⟩=some k0:=(h8.arrCell (i:=ik+2) HIK.out 0).trans rfl;have fk:w6.frozen? ⟨bk,0,none⟩=false:=h8.arrFree (i:=ik+2) HIK.out 0;have h9:=h8.setArr (ik+2) HIK.out 0 (.int .i64 k);have ce:(w6.setCell ⟨bk,0,none⟩ (.int .i64 k)).cell? ⟨be,0,none⟩=some e0:=(h9.arrCell (i:=ie+2) (by rw [List.getElem?_set_ne (by omega)];exact HIE.out) 0).trans rfl;have fe:(w6.setCell ⟨bk,0,none⟩ (.int .i64 k)).frozen? ⟨be,0,none⟩=false:=h9.arrFree (i:=ie+2) (by rw [List.getElem?_set_ne (by omega)];exact HIE.out) 0;have h10:=h9.setArr (ie+2) (by rw [List.getElem?_set_ne (by omega)];exact HIE.out) 0 (.int .i64 0))
   | (go_at_call 316;(with_reducible refine (Qc7 _ v (X.v fi) k _ ((H2.out.frm (Frm.refl NoB w2).drew).byt (i:=0) rfl) (by rw [HV.out];omega) (by rw [HV.out];omega)).mono ?_);rintro e w5 ⟨v5,rfl,hb5,hf5⟩;have h7:=(H2.out.frm (Frm.refl NoB w2).drew).mkByt hf5 hb5))
 have H10:=hid (h10.drop 2);clear h7 h8 h9 h10 ck fk ce fe c1 c2 hb5 hf5 hwr KS;go_wp2;go_ret;exact ⟨rfl,H10.out⟩
theorem Qht (h:At w0 w X rs) (hop:X.op=true) (fi many:Nat) (hf:245≤fi) (hfn:fi<X.n) (hm1:1≤many) (hm:many≤4096) {k:Nat} (hk:Jn (X.v fi) many=some k) (hr:(fi:Int)∈X.keys∨X.l.length<60):
 Calls prog 270 #[.pointer (some ⟨X.ab,0,none⟩),.agg #[.int .i64 fi,.int .i64 many]] w fun e w'=>e= .returned (.tuple #[.int .i64 k,.int .i64 0])∧At w0 w' (X.put fi (Qw (X.v fi) k true)) rs:=by
 have H4:=hid ((((h.newArr #[.pointer (some ⟨X.ab,0,none⟩)] 104 VF).newArr #[.int .i64 fi,.int .i64 many] 186 Uw).newArr #[.int .i64 0] 3 Jj).newArr #[.int .i64 0] 32 VM);simp only [size_alloc] at H4;have HN:=hid h.ok.pl.n;have HPN:=hid h.ok.pn;clear h;go_enter func270,ntmps270;go_upto_region 1 with (fail)
 obtain ⟨y1,hy1,h1⟩:=H4.out.name;rw [hy1];clear hy1 H4;have H1:=hid h1;generalize w.heap.size=b0 at*
 have c1:y1.cell? ⟨b0,0,none⟩=some (.pointer (some ⟨X.ab,0,none⟩)):=(h1.arrCell (i:=3) rfl 0).trans rfl;have HRD:=hid (Qbx h1);rw [hop] at HRD;clear h1;go_wp2_with fail;refine HRD.out.mono ?_;clear HRD c1;rintro e w2 ⟨rfl,rfl⟩;have h2:=H1.out;have h3:=(h2.setArr 1 rfl 0 (.int .i64 (-1))).setArr 0 rfl 0 (.int .i64 3);have ck:y1.cell? ⟨b0+1+1,0,none⟩=some (.int .i64 0):=(h2.arrCell (i:=1) rfl 0).trans rfl;have fk:y1.frozen? ⟨b0+1+1,0,none⟩=false:=h2.arrFree (i:=1) rfl 0;have ce:(y1.setCell ⟨b0+1+1,0,none⟩ (.int .i64 (-1))).cell? ⟨b0+1+1+1,0,none⟩=some (.int .i64 0):=((h2.setArr 1 rfl 0 (.int .i64 (-1))).arrCell (i:=0) rfl 0).trans rfl;have fe:(y1.setCell ⟨b0+1+1,0,none⟩ (.int .i64 (-1))).frozen? ⟨b0+1+1+1,0,none⟩=false:=(h2.setArr 1 rfl 0 (.int .i64 (-1))).arrFree (i:=0) rfl 0;go_upto_region 4 with (fail)
 obtain ⟨y3,hy3,h3'⟩:=h3.name;rw [hy3];have H3:Hid (At w0 y3 X (arr (b0+1+1+1) #[.int .i64 3] 32 VM::arr (b0+1+1) #[.int .i64 (-1)] 3 Jj::arr (b0+1) #[.int .i64 fi,.int .i64 many] 186 Uw::arr b0 #[.pointer (some ⟨X.ab,0,none⟩)] 104 VF::rs)):=hid h3';clear hy3 h3 h3' h2 ck fk ce fe H1 y1;have c0:y3.cell? ⟨b0+1,0,none⟩=some (.int .i64 fi):=(H3.out.arrCell (i:=2) rfl 0).trans rfl;have c1:y3.cell? ⟨b0+1,1,none⟩=some (.int .i64 many):=(H3.out.arrCell (i:=2) rfl 1).trans rfl;have HEA:=hid (Qdg y3 fi many hm1 hm (by have:=HN.out;have:=HPN.out;omega) 314 #[.pointer (some ⟨b0,0,none⟩),.pointer (some ⟨b0+1+1+1,0,none⟩),.pointer (some ⟨b0+1+1,0,none⟩)] Qhb
  (Post:=fun w'=>At w0 w' (X.put fi (Qw (X.v fi) k true)) (arr (b0+1+1+1) #[.int .i64 0] 32 VM::arr (b0+1+1) #[.int .i64 k] 3 Jj::rs))
  ((QiA (H3.out.newArr #[.int .i64 fi,.int .i64 many] 186 Uw) hop fi many hf hfn hm hk hr 4 1 2 rfl rfl rfl ⟨by decide,by decide,by decide⟩).mono fun e w' ⟨he,h4⟩=>⟨false,he,(h4.arrCell (i:=0) rfl 1).trans rfl,h4.sub (List.Sublist.cons _ (List.Sublist.cons_cons _ (List.Sublist.cons_cons _ (List.Sublist.cons _ (List.Sublist.cons _ (List.Sublist.refl _))))))⟩))
 go_wp2_with fail;refine HEA.out.mono ?_;clear HEA c0 c1 H3;rintro e w5 ⟨rfl,h5⟩;have ce:w5.cell? ⟨b0+1+1+1,0,none⟩=some (.int .i64 0):=(h5.arrCell (i:=0) rfl 0).trans rfl;have ck:w5.cell? ⟨b0+1+1,0,none⟩=some (.int .i64 k):=(h5.arrCell (i:=1) rfl 0).trans rfl;have fe:w5.frozen? ⟨b0+1+1+1,0,none⟩=false:=h5.arrFree (i:=0) rfl 0;have fk:w5.frozen? ⟨b0+1+1,0,none⟩=false:=h5.arrFree (i:=1) rfl 0;have h6:=(h5.setArr 1 rfl 0 (.int .i64 k)).setArr 0 rfl 0 (.int .i64 0);have ce2:(w5.setCell ⟨b0+1+1,0,none⟩ (.int .i64 k)).cell? ⟨b0+1+1+1,0,none⟩=some (.int .i64 0):=((h5.setArr 1 rfl 0 (.int .i64 k)).arrCell (i:=0) rfl 0).trans rfl;have fe2:(w5.setCell ⟨b0+1+1,0,none⟩ (.int .i64 k)).frozen? ⟨b0+1+1+1,0,none⟩=false:=(h5.setArr 1 rfl 0 (.int .i64 k)).arrFree (i:=0) rfl 0;have d1:((w5.setCell ⟨b0+1+1,0,none⟩ (.int .i64 k)).setCell ⟨b0+1+1+1,0,none⟩ (.int .i64 0)).cell? ⟨b0+1+1,0,none⟩=some (.int .i64 k):=(h6.arrCell (i:=1) rfl 0).trans rfl;have d2:((w5.setCell ⟨b0+1+1,0,none⟩ (.int .i64 k)).setCell ⟨b0+1+1+1,0,none⟩ (.int .i64 0)).cell? ⟨b0+1+1+1,0,none⟩=some (.int .i64 0):=(h6.arrCell (i:=0) rfl 0).trans rfl;have H6:=hid (h6.drop 2);clear h5 h6;go_wp2;exact bodyPost_ret (v:= .tuple #[.int .i64 k,.int .i64 0]) (by simp [results,results270,go_sem,d1,d2]) rfl ⟨rfl,H6.out⟩
theorem Jl.maps {X:Sys} (h:Jl X):245≤X.P.im∧X.P.im<X.n∧245≤X.P.bm∧X.P.bm<X.n∧X.n≤65536:=by
 have:=h.pl.im;have:=h.pl.bm;have:=h.pl.tb;have:=h.pl.da;have:=h.pl.all;have:=h.pn;have:=h.pl.n;omega
theorem QcE (h:At w0 w X rs) (hop:X.op=true) {k:Nat} (hk:Jn (X.v X.P.bm) X.P.dc=some k) (hr:(X.P.bm:Int)∈X.keys∨X.l.length<60):
 Calls prog 363 #[.pointer (some ⟨X.ab,0,none⟩)] w fun e w'=>e= .returned (.tuple #[.int .i64 (X.P.da+k:Nat),.int .i64 0])∧At w0 w' (X.put X.P.bm (Qw (X.v X.P.bm) k true)) rs:=by
 have ho:=h.ok;have hm:=ho.maps;have hd:=ho.pl.dc;have hda:X.P.da≤65536:=by have:=ho.pl.all;have:=ho.pl.n;omega
 have hkd:=(Jf hk).1;have HB:=hid (EF h);have HT:=hid (fun y (hy:Frm NoB w y)=>Qht (h.frm hy) hop X.P.bm X.P.dc hm.2.2.1 hm.2.2.2.1 hd.1 hd.2 hk hr);clear h ho hr;have h1:(0:Int)≤(X.P.da:Int):=Qk _;have h2:(X.P.da:Int)≤65536:=by omega
 have h3:(0:Int)≤(k:Int):=Qk _;have h4:(k:Int)≤65536:=by omega
 clear hm hd hda hkd hk;go_enter func363,ntmps363;go_wp2_with fail;refine HB.out.mono ?_;rintro e w2 ⟨rfl,hf⟩;have HT2:=hid (HT.out w2 hf);clear HT HB hf;go_wp2_with fail;refine HT2.out.mono ?_;rintro e w3 ⟨rfl,h3'⟩;have H3:=hid h3';have c6:w3.cell? ⟨X.ab,6,none⟩=some (.int .i64 X.P.da):=h3'.alCells.2.2.2.2.2.2.1;clear h3' HT2;go_wp2;go_ret2;exact ⟨rfl,H3.out⟩
theorem Qcu (h:At w0 w X rs) (hop:X.op=true) {k:Nat} (hk:Jn (X.v X.P.im) X.P.ni=some k) (hr:(X.P.im:Int)∈X.keys∨X.l.length<60):
 Calls prog 208 #[.pointer (some ⟨X.ab,0,none⟩)] w fun e w'=>e= .returned (.tuple #[.int .i64 k,.int .i64 0])∧At w0 w' (X.put X.P.im (Qw (X.v X.P.im) k true)) rs:=by
 have ho:=h.ok;have hm:=ho.maps;have hd:=ho.pl.ni;have HB:=hid (UF h);have HT:=hid (fun y (hy:Frm NoB w y)=>Qht (h.frm hy) hop X.P.im X.P.ni hm.1 hm.2.1 hd.1 hd.2 hk hr);clear h ho hr hm hd hk;go_enter func208,ntmps208;go_wp2_with fail;refine HB.out.mono ?_;rintro e w2 ⟨rfl,hf⟩;have HT2:=hid (HT.out w2 hf);clear HT HB hf;go_wp2_with fail;refine HT2.out.mono ?_;rintro e w3 ⟨rfl,h3'⟩;have H3:=hid h3';clear h3' HT2;go_wp2;go_ret2;exact ⟨rfl,H3.out⟩
theorem Qik (h:At w0 w X rs) (i:Nat) (hi:i<X.P.ni) (hb:Qt (X.v X.P.im) i=true):
 Calls prog 271 #[.pointer (some ⟨X.ab,0,none⟩),.int .i64 i] w fun e w'=>e= .returned (.bool true)∧At w0 w' X rs:=by
 have ho:=h.ok;have hm:=ho.maps;have hd:=ho.pl.ni;have hl:=ho.len _ hm.1 hm.2.1;obtain ⟨c0,-,c2,c3,-⟩:=h.alCells;have KS:Hid (∀y rs',At w0 y X rs'→y.cell? ⟨X.ab,0,none⟩=some (.pointer (some ⟨X.cb,0,none⟩))∧y.cell? ⟨X.ab,3,none⟩=some (.int .i64 X.P.im)):=hid fun y rs' hy=>⟨hy.alCells.1,hy.alCells.2.2.2.1⟩
 have HR:=hid (Og (h.frm (Frm.refl NoB w).drew) X.P.im hm.1 hm.2.1);have H0:=hid h;have i0:(0:Int)≤(i:Int):=Qk _;have i1:(i:Int)<(X.P.ni:Int):=by omega
 have i2:(i:Int)<4096:=by omega
 have i3:(i:Int)/4096=0:=by omega
 have i4:(i:Int)%4096=(i:Int):=by omega
 have m0:(0:Int)≤(X.P.im:Int):=Qk _;have m1:(X.P.im:Int)≤65536:=by omega
 have hwr:IntKind.i64.wrap (X.P.im:Int)=(X.P.im:Int):=IntWalk.i64_in _ (by omega);have hw0:IntKind.i64.wrap 0=0:=rfl;have HI:=hid (And.intro hb hl);have HI2:Hid (i<4096):=hid (by omega);clear h ho hm hd hl hi hb;go_enter func271,ntmps271;go_upto_region 3 with (fail)
 go_region_held3 (fun y=>y.cell? ⟨X.ab,0,none⟩=some (.pointer (some ⟨X.cb,0,none⟩))∧y.cell? ⟨X.ab,3,none⟩=some (.int .i64 X.P.im))
  (first | exact KS.out _ _ h2 | exact KS.out _ _ (H0.out.frm (Frm.refl NoB w).drew))
  (first
   | (go_at_call 202;(with_reducible refine HR.out.mono ?_);rintro e w2 ⟨v,rfl,h2⟩))
 have HT:=hid (Ks w2 v _ i (h2.byt (i:=0) rfl).sliceOf (by have:=HI2.out;omega) (by rw [HI.out.2];omega));rw [HI.out.1] at HT;have H2:=hid (h2.drop 1);clear h2 HR KS c0 c2 c3 hwr;by_cases hz:i=0
 ·subst hz;go_wp2;go_ret;exact ⟨rfl,H2.out⟩
 ·have hz':((i:Int)==0)=false:=by rw [beq_eq_false_iff_ne];omega
  clear hz;go_wp2_with fail;refine HT.out.mono ?_;rintro e w3 ⟨rfl,rfl⟩;go_wp2;go_ret;exact ⟨rfl,H2.out⟩
theorem Qf8 (h:At w0 w X rs) (hop:X.op=true) (fi many:Nat) (hf:245≤fi) (hfn:fi<X.n) (hm:many≤4096) (k:Nat) (hk:k<many) (hb:Qt (X.v fi) k=true) (hr:(fi:Int)∈X.keys∨X.l.length<60):
 Calls prog 280 #[.pointer (some ⟨X.ab,0,none⟩),.agg #[.int .i64 fi,.int .i64 many],.int .i64 k] w fun e w'=>e= .returned (.int .i64 0)∧At w0 w' (X.put fi (Qw (X.v fi) k false)) rs:=by
 have ho:=h.ok;have hl:=ho.len fi hf hfn;have hn:=ho.maps.2.2.2.2;have H1:=hid (h.newArr #[.int .i64 fi,.int .i64 many] 186 Uw);have k0:(0:Int)≤(k:Int):=Qk _;have k1:(k:Int)<(many:Int):=by omega
 have k2:(k:Int)<4096:=by omega
 have k3:(k:Int)/4096=0:=by omega
 have k4:(k:Int)%4096=(k:Int):=by omega
 have k5:(k:Int).tmod 4096=(k:Int):=by rw [Int.tmod_eq_emod_of_nonneg (by omega)];omega
 have m0:(0:Int)≤(fi:Int):=Qk _;have m1:(fi:Int)≤65536:=by omega
 have HI:=hid (And.intro hf hfn);have HL:=hid hl;have HB:=hid hb;have HR:=hid hr;have HK:Hid (k<4096):=hid (by omega);have KS:Hid (∀y rs',At w0 y X rs'→y.cell? ⟨X.ab,0,none⟩=some (.pointer (some ⟨X.cb,0,none⟩))):=hid fun y rs' hy=>hy.alCells.1
 clear h ho hl hn hf hfn hk hb hr hm;go_enter func280,ntmps280;go_upto_region 1 with (fail)
 obtain ⟨y1,hy1,h1⟩:=H1.out.name;rw [hy1];clear hy1 H1;generalize w.heap.size=bx at*
 have d0:y1.cell? ⟨bx,0,none⟩=some (.int .i64 fi):=(h1.arrCell (i:=0) rfl 0).trans rfl;have d1:y1.cell? ⟨bx,1,none⟩=some (.int .i64 many):=(h1.arrCell (i:=0) rfl 1).trans rfl;have c0:=KS.out _ _ h1;have HRD:=hid (Qbx h1);rw [hop] at HRD;have HRR:=hid (Og h1 fi HI.out.1 HI.out.2);clear h1;go_wp2_with fail;refine HRD.out.mono ?_;rintro e w2 ⟨rfl,rfl⟩;clear HRD;go_wp2_with fail;refine HRR.out.mono ?_;clear HRR d0 d1 c0;rintro e w3 ⟨v,rfl,h3⟩;have HT:=hid (Ks w3 v _ k (h3.byt (i:=0) rfl).sliceOf (by have:=HK.out;omega) (by rw [HL.out];omega));rw [HB.out] at HT;have H3:=hid h3;clear h3;go_wp2_with fail;refine HT.out.mono ?_;rintro e w4 ⟨rfl,rfl⟩;clear HT;have c0:=KS.out _ _ H3.out;go_upto_region 11 with (fail)
 go_region_held3 (fun y=>y.cell? ⟨X.ab,0,none⟩=some (.pointer (some ⟨X.cb,0,none⟩)))
  (first | exact h8.alCells.1 | exact KS.out _ _ h7 | exact KS.out _ _ (H3.out.frm (Frm.refl NoB w3).drew))
  (first
   | (go_at_call 92;(with_reducible refine (KX h7 hop fi 0 HI.out.1 HI.out.2 rfl (by rw [UY];exact HL.out) HR.out).mono ?_);rintro e w6 ⟨rfl,h8⟩)
   | (go_at_call 316;(with_reducible refine (Qct _ v (X.v fi) k _ ((H3.out.frm (Frm.refl NoB w3).drew).byt (i:=0) rfl) (by rw [HL.out];have:=HK.out;omega) (by rw [HL.out];omega)).mono ?_);rintro e w5 ⟨v5,rfl,hb5,hf5⟩;have h7:=(H3.out.frm (Frm.refl NoB w3).drew).mkByt hf5 hb5))
 have H8:=hid (h8.drop 3);clear h7 h8 hb5 hf5 KS c0;go_wp2;go_ret;exact ⟨rfl,H8.out⟩
theorem Qcn (h:At w0 w X rs) (hop:X.op=true) (k:Nat) (hk0:0<k) (hk:k<X.P.ni) (hb:Qt (X.v X.P.im) k=true) (hr:(X.P.im:Int)∈X.keys∨X.l.length<60):
 Calls prog 223 #[.pointer (some ⟨X.ab,0,none⟩),.int .i64 k] w fun e w'=>e= .returned (.int .i64 0)∧At w0 w' (X.put X.P.im (Qw (X.v X.P.im) k false)) rs:=by
 have ho:=h.ok;have hm:=ho.maps;have hd:=ho.pl.ni;have HB:=hid (UF h);have HT:=hid (fun y (hy:Frm NoB w y)=>Qf8 (h.frm hy) hop X.P.im X.P.ni hm.1 hm.2.1 hd.2 k hk hb hr);have hz':((k:Int)==0)=false:=by rw [beq_eq_false_iff_ne];omega
 clear h ho hr hm hd hk hb hk0;go_enter func223,ntmps223;go_wp2_with fail;refine HB.out.mono ?_;rintro e w2 ⟨rfl,hf⟩;have HT2:=hid (HT.out w2 hf);clear HT HB hf;go_wp2_with fail;refine HT2.out.mono ?_;rintro e w3 ⟨rfl,h3'⟩;have H3:=hid h3';clear h3' HT2;go_wp2;go_ret;exact ⟨rfl,H3.out⟩
theorem QbP (h:At w0 w X rs) (hop:X.op=true) (k:Nat) (hk:k<X.P.dc) (hb:Qt (X.v X.P.bm) k=true) (hr:(X.P.bm:Int)∈X.keys∨X.l.length<60):
 Calls prog 279 #[.pointer (some ⟨X.ab,0,none⟩),.int .i64 (X.P.da+k:Nat)] w fun e w'=>e= .returned (.int .i64 0)∧At w0 w' (X.put X.P.bm (Qw (X.v X.P.bm) k false)) rs:=by
 have ho:=h.ok;have hm:=ho.maps;have hd:=ho.pl.dc;have hda:X.P.da≤65536:=by have:=ho.pl.all;have:=ho.pl.n;omega
 have HB:=hid (fun y (hy:Frm NoB w y)=>EF (h.frm hy));have HT:=hid (fun y (hy:Frm NoB w y)=>Qf8 (h.frm hy) hop X.P.bm X.P.dc hm.2.2.1 hm.2.2.2.1 hd.2 k hk hb hr);have KS:Hid (∀y,Frm NoB w y→y.cell? ⟨X.ab,6,none⟩=some (.int .i64 X.P.da)):=hid fun y hy=>(h.frm hy).alCells.2.2.2.2.2.2.1
 have h1:(0:Int)≤(X.P.da:Int):=Qk _;have h2:(X.P.da:Int)≤65536:=by omega
 have h3:(0:Int)≤(k:Int):=Qk _;have h4:(k:Int)≤65536:=by omega
 have hlt: ¬((X.P.da+k:Nat):Int)<(X.P.da:Int):=by omega
 have hsub:IntKind.i64.wrap (((X.P.da+k:Nat):Int)-(X.P.da:Int))=(k:Int):=by
  rw [show ((X.P.da+k:Nat):Int)-(X.P.da:Int)=(k:Int) from by omega];exact IntWalk.i64_in _ (by omega)
 have c6:=KS.out w (Frm.refl _ _);obtain ⟨q,hq⟩: ∃q,X.P.da+k=q:=⟨_,rfl⟩;rw [hq] at hlt hsub ⊢;clear h ho hr hm hd hk hb hda hq;go_enter func279,ntmps279;go_upto_region 5 with (fail)
 go_region_held3 (fun y=>y.cell? ⟨X.ab,6,none⟩=some (.int .i64 X.P.da))
  (first | exact h7.alCells.2.2.2.2.2.2.1 | exact KS.out _ hf2 | exact KS.out _ (Frm.refl NoB w).drew)
  (first
   | (go_at_call 113;(with_reducible refine (HB.out _ (Frm.refl NoB w).drew).mono ?_);rintro e w2 ⟨rfl,hf⟩;have hf2:=(Frm.refl NoB w).drew.trans hf (fun _ _ e=>e))
   | (go_at_call 280;(with_reducible refine (HT.out _ hf2).mono ?_);rintro e w3 ⟨rfl,h7⟩))
 have H8:=hid h7;clear h7 hf hf2 KS c6 hsub;go_wp2;go_ret;exact ⟨rfl,H8.out⟩
theorem QhJ:QE prog 201:=QJ func201 (by kernel_rfl) rfl
theorem Qh7 {ba bn:Nat} (h:At w0 w X rs) (fi many:Nat) (hf:245≤fi) (hfn:fi<X.n) (hm:many≤4096)
 (ia ib:Nat) (ha:rs[ia]?=some (arr ba #[.pointer (some ⟨X.ab,0,none⟩)] 104 VF)) (hb:rs[ib]?=some (arr bn #[.int .i64 many] 3 Jj)):
 Calls prog 201 #[.int .i64 fi,.int .i64 0,.int .i64 many,.pointer (some ⟨ba,0,none⟩),.pointer (some ⟨bn,0,none⟩)] w fun e w'=>
  e= .returned (.bool true)∧At w0 w' X (rs.set ib (arr bn #[.int .i64 (many-JR (X.v fi) many:Nat)] 3 Jj)):=by
 have hv512:=h.ok.len fi hf hfn;have hpc:=Eu (X.v fi) many;have ca:w.cell? ⟨ba,0,none⟩=some (.pointer (some ⟨X.ab,0,none⟩)):=(h.arrCell ha 0).trans rfl;have c0:=h.alCells.1;have HR:=hid (Og h fi hf hfn);have HV:=hid hv512;have HB:=hid hb;have HPE:Hid (((many:Nat):Int)-(JR (X.v fi) many:Int)=((many-JR (X.v fi) many:Nat):Int)):=hid (by omega);have HM:=hid hm;have p0:(0:Int)≤(JR (X.v fi) many:Int):=Qk _;have p1:(JR (X.v fi) many:Int)≤(many:Int):=by omega
 have p2:(many:Int)≤4096:=by omega
 have hwr:IntKind.i64.wrap (((many:Nat):Int)-(JR (X.v fi) many:Int))=((many-JR (X.v fi) many:Nat):Int):=by rw [HPE.out];exact IntWalk.i64_in _ (by omega)
 clear h hv512 ha hb hf hfn hm hpc;go_enter func201,ntmps201;go_wp2_with fail;refine HR.out.mono ?_;clear HR ca c0;rintro e w2 ⟨v,rfl,h2⟩;have H2:=hid h2;have HF:=hid (fun y (hy:Frm NoB w2 y)=>Qaa y v (X.v fi) many ((h2.frm hy).byt (i:=0) rfl).sliceOf (by rw [HV.out];have:=HM.out;omega) (by rw [HV.out];omega));have cn:w2.cell? ⟨bn,0,none⟩=some (.int .i64 many):=(h2.arrCell (i:=ib+1) HB.out 0).trans rfl;have fn:w2.frozen? ⟨bn,0,none⟩=false:=h2.arrFree (i:=ib+1) HB.out 0;have H3:=hid ((h2.setArr (ib+1) HB.out 0 (.int .i64 (many-JR (X.v fi) many:Nat))).frm (Frm.refl NoB _).drew);clear h2;go_upto_region 2 with (fail)
 go_region_with (go_at_call 203;refine (HF.out _ (Frm.refl NoB w2).drew).mono ?_;rintro e w' ⟨rfl,rfl⟩)
 all_goals
  have H4:=hid (H3.out.drop 1);clear hwr cn fn;go_wp2;go_ret;exact ⟨rfl,H4.out⟩
theorem Qhn (h:At w0 w X rs) (fi many:Nat) (hf:245≤fi) (hfn:fi<X.n) (hm1:1≤many) (hm:many≤4096):
 Calls prog 112 #[.pointer (some ⟨X.ab,0,none⟩),.agg #[.int .i64 fi,.int .i64 many]] w fun e w'=>e= .returned (.int .i64 (many-JR (X.v fi) many:Nat))∧At w0 w' X rs:=by
 have H3:=hid (((h.newArr #[.pointer (some ⟨X.ab,0,none⟩)] 104 VF).newArr #[.int .i64 fi,.int .i64 many] 186 Uw).newArr #[.int .i64 many] 3 Jj);simp only [size_alloc] at H3;have hn:=h.ok.maps.2.2.2.2;clear h;go_enter func112,ntmps112;go_upto_region 2 with (fail)
 obtain ⟨y1,hy1,h1⟩:=H3.out.name;rw [hy1];clear hy1 H3;have H1:=hid h1;generalize w.heap.size=b0 at*
 have c0:y1.cell? ⟨b0+1,0,none⟩=some (.int .i64 fi):=(h1.arrCell (i:=1) rfl 0).trans rfl;have c1:y1.cell? ⟨b0+1,1,none⟩=some (.int .i64 many):=(h1.arrCell (i:=1) rfl 1).trans rfl;have HEA:=hid (Qdg y1 fi many hm1 hm (by omega) 201 #[.pointer (some ⟨b0,0,none⟩),.pointer (some ⟨b0+1+1,0,none⟩)] QhJ
  (Post:=fun w'=>At w0 w' X (arr (b0+1+1) #[.int .i64 (many-JR (X.v fi) many:Nat)] 3 Jj::rs))
  ((Qh7 (h1.newArr #[.int .i64 fi,.int .i64 many] 186 Uw) fi many hf hfn hm 3 1 rfl rfl).mono fun e w' ⟨he,h4⟩=>⟨true,he,(h4.arrCell (i:=0) rfl 1).trans rfl,h4.sub (List.Sublist.cons _ (List.Sublist.cons_cons _ (List.Sublist.cons _ (List.Sublist.cons _ (List.Sublist.refl _)))))⟩))
 clear h1;go_wp2_with fail;refine HEA.out.mono ?_;clear HEA c0 c1 H1;rintro e w5 ⟨rfl,h5⟩;have cn:w5.cell? ⟨b0+1+1,0,none⟩=some (.int .i64 (many-JR (X.v fi) many:Nat)):=(h5.arrCell (i:=0) rfl 0).trans rfl;have H6:=hid (h5.drop 1);clear h5;go_wp2;go_ret;exact ⟨rfl,H6.out⟩
def Sys.fb (X:Sys):Nat:=X.P.dc-JR (X.v X.P.bm) X.P.dc
def Sys.fi (X:Sys):Nat:=X.P.ni-JR (X.v X.P.im) X.P.ni
theorem Qkd (h:At w0 w X rs):Calls prog 49 #[.pointer (some ⟨X.ab,0,none⟩)] w fun e w'=>e= .returned (.tuple #[.int .i64 X.fb,.int .i64 X.fi])∧At w0 w' X rs:=by
 have ho:=h.ok;have hm:=ho.maps;have hb:=ho.pl.dc;have hi:=ho.pl.ni;have HB:=hid (EF h);have HFB:=hid (fun y (hy:Frm NoB w y)=>Qhn (h.frm hy) X.P.bm X.P.dc hm.2.2.1 hm.2.2.2.1 hb.1 hb.2);have HM:=hid (And.intro hm hi);clear h ho hm hb hi;go_enter func49,ntmps49;go_wp2_with fail;refine HB.out.mono ?_;rintro e w2 ⟨rfl,hf⟩;have H2:=hid (HFB.out w2 hf);clear hf HB HFB;go_wp2_with fail;refine H2.out.mono ?_;rintro e w3 ⟨rfl,h3⟩;have H3:=hid h3;clear h3 H2;go_wp2_with fail;refine (UF H3.out).mono ?_;rintro e w4 ⟨rfl,hf⟩;have H4:=hid (Qhn (H3.out.frm hf) X.P.im X.P.ni HM.out.1.1 HM.out.1.2.1 HM.out.2.1 HM.out.2.2);clear hf H3;go_wp2_with fail;refine H4.out.mono ?_;rintro e w5 ⟨rfl,h5⟩;have H5:=hid h5;clear h5 H4;go_wp2;go_ret2;exact ⟨rfl,H5.out⟩
theorem Qkt (w:World) (v:Value) (bs:List UInt8) (p:Nat) (hv:Jw w v bs) (hp:p+4≤bs.length) (hl:bs.length≤1000000):
 Calls prog 272 #[v,.int .i64 p] w fun e w'=>w=w'∧e= .returned (.int .i64 (getLE bs p 4)):=by
 have HG:=hid (YJ w v bs p 4 hv (by omega) (by omega) hp (by omega));have hlt:=EA bs p 4 hp;have h0:(0:Int)≤(getLE bs p 4:Int):=Qk _;have h1:(getLE bs p 4:Int)<4294967296:=by omega
 generalize getLE bs p 4=g at*
 clear hv hp hlt;go_enter func272,ntmps272;go_wp2_with fail;refine HG.out.mono ?_;rintro e w2 ⟨rfl,rfl⟩;go_wp2;go_ret;exact ⟨rfl,rfl⟩
theorem QkM (w:World) (v:Value) (bs:List UInt8) (p n:Nat) (R:Nat→Prop) (hv:Qc w v bs R) (hp:p+4≤bs.length) (hl:bs.length≤1000000) (hn:n<4294967296):
 Calls prog 248 #[v,.int .i64 p,.int .i64 n] w fun e w'=>Frm NoB w w'∧∃v',e= .returned v'∧Qc w' v' (Qv bs p 4 n) (QR w):=by
 have HG:=hid (YG w v bs p 4 n R hv (by omega) (by omega) hp (by omega) (by omega));have h0:(0:Int)≤(n:Int):=Qk _;have h1:(n:Int)<4294967296:=by omega
 clear hv hp hn;go_enter func248,ntmps248;go_wp2_with fail;refine HG.out.mono ?_;rintro e w2 ⟨hf,v',rfl,hb⟩;have HF:=hid (And.intro hf hb);clear hf hb HG;go_wp2;go_ret;exact ⟨HF.out.1,_,rfl,HF.out.2⟩
theorem QeO (h:At w0 w X rs) (i:Nat) (hi:i<X.P.ni):
 Calls prog 247 #[.pointer (some ⟨X.sb,0,none⟩),.int .i64 i] w fun e w'=>w=w'∧e= .returned (.tuple #[.int .i64 (X.P.tb+i/8:Nat),.int .i64 (i%8*64:Nat)]):=by
 have c6:=h.stCells.2.2;have hni:=h.ok.pl.ni;have htb:=h.ok.pl.tb;have i0:(0:Int)≤(i:Int):=Qk _;have i1:(i:Int)≤4096:=by omega
 have t0:(0:Int)≤(X.P.tb:Int):=Qk _;have t1:(X.P.tb:Int)≤1000:=by omega
 clear h hni htb hi;go_enter func247,ntmps247;go_wp2;go_ret2;exact ⟨rfl,rfl⟩
theorem Qx {P:Program} {fn:Func} {t u:Tmp} {ty:TypeId} (h:fn.results= #[.cell t ty,.tmp u]) (tmps:Array Value) (w:World) (a:Addr) (ht:tmps.getD t undef= .pointer (some a)) (v:Value) (hl:(loadVar ty a).run P w= .ok v w):
 (results fn tmps).run P w= .ok (.tuple #[v,tmps.getD u undef]) w:=by
 have ht':tmps[t]?.getD undef= .pointer (some a):=by simpa using ht
 simp [results,h,ht',hl,asAddr]
theorem Jg: ¬U8T (270:TypeId):=by decide
theorem Ej (W:World):(zeroValue 270).run prog W= .ok (.agg (stC 13 fun _=>0)) W:=by kernel_rfl
theorem Qa8 (f:Nat→Int):(prog.info? 270).map (·.size)=some (stC 13 f).size:=by rw [YS];kernel_rfl
def YA (b:Blk) (p:Nat):Nat→Nat:=fun j=>getLE b (p+4*j) 4
def Sys.nd (X:Sys) (i:Nat):Nat→Nat:=YA (X.v (X.P.tb+i/8)) (i%8*64)
def ndI (f:Nat→Nat):Nat→Int:=fun j=>(f j:Int)
def QbR (f:Nat→Nat) (k:Nat):Nat→Int:=fun j=>if j<k then (f j:Int) else 0
theorem Qfa (f:Nat→Nat):QbR f 0=fun _=>0:=funext fun j=>if_neg (by omega)
theorem WX (f:Nat→Nat) (k:Nat):JB (QbR f k) k (f k:Int)=QbR f (k+1):=by
 funext j
 unfold JB QbR;by_cases e:j=k
 ·subst e;rw [if_pos rfl,if_pos (by omega)]
 ·rw [if_neg e];by_cases e2:j<k
  ·rw [if_pos e2,if_pos (by omega)]
  ·rw [if_neg e2,if_neg (by omega)]
theorem Qgt (f:Nat→Nat):stC 13 (QbR f 13)=stC 13 (ndI f):=by
 unfold stC;exact congrArg List.toArray (List.map_congr_left fun j hj=>congrArg (Value.int .i64) (if_pos (List.mem_range.1 hj)))
theorem Jl.tab {X:Sys} (h:Jl X) {i:Nat} (hi:i<X.P.ni):245≤X.P.tb+i/8∧X.P.tb+i/8<X.P.da∧X.P.tb+i/8<X.n:=by
 have:=h.pl.tb;have:=h.pl.da;have:=h.pl.all;have:=h.pn;have:=h.pl.dc;omega
theorem VI {ops:Array Oper} {rest:List Oper} {o:Oper} {a:Act} {w:World} {Q:Exit→Act→World→Prop} (hw:Region.wanted o (yielded ops a.tmps)=true) (x:Operand) (ho:o.op= .load 270 x) (g:Nat) (hx:a.eval x= .pointer (some ⟨g,0,none⟩)) (f:Nat→Int)
 (hg:w.heap[g]?=some (.cells (stC 13 f) 270 (0,0))) (h:wpList prog ops Q rest (a.put o.dst (.agg (stC 13 f))) w):wpList prog ops Q (o::rest) a w:=
 BigFrame.wpList_want hw fun K hK=>wp_load_row _ x ho g hx _ (stC 13 f) _ _ hg underlying270 rfl (Qa8 f) (hK _ _ h)
theorem K8 {ops:Array Oper} {rest:List Oper} {o:Oper} {a:Act} {w:World} {Q:Exit→Act→World→Prop} (hgd:o.guard=none) (x y:Operand) (ho:o.op= .store 270 x y) (g:Nat) (f:Nat→Int) (hx:a.eval x= .pointer (some ⟨g,0,none⟩)) (hy:a.eval y= .agg (stC 13 f)) (old:Array Value) (hold:old.size=13)
 (hg:w.heap[g]?=some (.cells old 270 (0,0))) (h:wpList prog ops Q rest (a.put o.dst undef) (w.setRow g (stC 13 f))):wpList prog ops Q (o::rest) a w:=
 wpList_store_row hgd _ x y ho g (stC 13 f) hx hy _ old hg (Qa8 f) (by rw [hold,YS]) (Qia _ _) h
theorem At.setRow (h:At w0 w X rs) (i:Nat) {b:Nat} {c c':Array Value} {t:TypeId} {ht: ¬U8T t} (hr:rs[i]?=some (arr b c t ht)):At w0 (w.setRow b c') X (rs.set i (arr b c' t ht)):=
 ⟨h.1.setRow (i+1) hr c',h.2⟩
theorem Qds (h:At w0 w X rs) (i:Nat) (hi:i<X.P.ni) (hb:Qt (X.v X.P.im) i=true):
 Calls prog 212 #[.pointer (some ⟨X.sb,0,none⟩),.int .i64 i] w fun e w'=>e= .returned (.tuple #[.agg (stC 13 (ndI (X.nd i))),.int .i64 0])∧At w0 w' X rs:=by
 have ho:=h.ok;have hq:=ho.tab hi;have hl:=ho.len _ hq.1 hq.2.2;have HA:=hid (h.newArr (stC 13 fun _=>0) 270 Jg);have HPL:Hid (∀y rs',At w0 y X rs'→Calls prog 247 #[.pointer (some ⟨X.sb,0,none⟩),.int .i64 i] y fun e w'=>y=w'∧e= .returned (.tuple #[.int .i64 (X.P.tb+i/8:Nat),.int .i64 (i%8*64:Nat)])):=hid fun y rs' hy=>QeO hy i hi
 have HIN:Hid (∀y rs',At w0 y X rs'→Calls prog 271 #[.pointer (some ⟨X.ab,0,none⟩),.int .i64 i] y fun e w'=>e= .returned (.bool true)∧At w0 w' X rs'):=hid fun y rs' hy=>Qik hy i hi hb
 have HRD:Hid (∀y rs',At w0 y X rs'→Calls prog 202 #[.pointer (some ⟨X.cb,0,none⟩),.int .i64 (X.P.tb+i/8:Nat)] y fun e w'=> ∃v,e= .returned (.tuple #[v,.int .i64 0])∧At w0 w' X (byt v (X.v (X.P.tb+i/8))::rs')):=hid fun y rs' hy=>Og hy _ hq.1 hq.2.2
 have HL:=hid hl;have EN:Hid (X.nd i=YA (X.v (X.P.tb+i/8)) (i%8*64)):=hid rfl;have hp:i%8*64≤448:=by omega
 rw [EN.out];generalize X.P.tb+i/8=q at*
 generalize i%8*64=p at*
 generalize hbb:X.v q=bb at*
 have KS:Hid (∀y rs',At w0 y X rs'→y.cell? ⟨X.sb,0,none⟩=some (.pointer (some ⟨X.cb,0,none⟩))∧y.cell? ⟨X.sb,1,none⟩=some (.pointer (some ⟨X.ab,0,none⟩))):=hid fun y rs' hy=>⟨hy.stCells.1,hy.stCells.2.1⟩
 have p0:(0:Int)≤(p:Int):=Qk _;have p1:(p:Int)≤448:=by omega
 clear h ho hq hl hi hb hbb;go_enter func212,ntmps212;go_upto_region 1 with (refine Qg rfl _ _ Ej rfl ?_)
 obtain ⟨y1,hy1,h1⟩:=HA.out.name;rw [hy1];clear hy1 HA;have H1:=hid h1;generalize w.heap.size=nb at*
 obtain ⟨c0,c1⟩:=KS.out _ _ h1;clear h1;go_wp2_with fail;refine (HIN.out _ _ H1.out).mono ?_;rintro e w2 ⟨rfl,h2⟩;have H2:=hid h2;clear h2 H1 c0 c1;go_wp2_with fail;refine (HPL.out _ _ H2.out).mono ?_;rintro e w3 ⟨rfl,rfl⟩;obtain ⟨c0,c1⟩:=KS.out _ _ H2.out;go_wp2_with fail;refine (HRD.out _ _ H2.out).mono ?_;rintro e w3 ⟨v,rfl,h3⟩;have H3:=hid h3;clear h3 H2 c0 c1;have HG:Hid (∀y rs' j (z:Int),At w0 y X (byt v bb::rs')→j<13→z=((p+4*j:Nat):Int)→Calls prog 272 #[v,.int .i64 z] y fun e w'=>y=w'∧e= .returned (.int .i64 (YA bb p j))):=hid fun y rs' j z hy hj hz=>by
  rw [hz];exact Qkt y v bb (p+4*j) (hy.byt (i:=0) rfl).sliceOf (by rw [HL.out];omega) (by rw [HL.out];omega)
 go_wp2_with fail;refine (HG.out _ _ 0 _ H3.out (by omega) (by omega)).mono ?_;rintro e w4 ⟨rfl,rfl⟩;go_wp2_with fail;refine (HG.out _ _ 1 _ H3.out (by omega) (by omega)).mono ?_;rintro e w4 ⟨rfl,rfl⟩;have h3:=H3.out;rw [←Qfa (YA bb p)] at h3;have h4:=h3.setArr 1 rfl 0 (.int .i64 (YA bb p 0));rw [Y7 _ _ _ _ (by omega),WX] at h4;have h5:=h4.setArr 1 rfl 1 (.int .i64 (YA bb p 1));rw [Y7 _ _ _ _ (by omega),WX] at h5;have d0:w3.cell? ⟨nb,0,none⟩=some (.int .i64 0):=(h3.arrCell (i:=1) rfl 0).trans (QP _ _ _ (by omega));have f0:w3.frozen? ⟨nb,0,none⟩=false:=h3.arrFree (i:=1) rfl 0;have d1: ∃u,(w3.setCell ⟨nb,0,none⟩ (.int .i64 (YA bb p 0))).cell? ⟨nb,1,none⟩=some u:=⟨_,(h4.arrCell (i:=1) rfl 1).trans (QP _ _ _ (by omega))⟩;have f1:(w3.setCell ⟨nb,0,none⟩ (.int .i64 (YA bb p 0))).frozen? ⟨nb,1,none⟩=false:=h4.arrFree (i:=1) rfl 1;obtain ⟨u1,d1⟩:=d1;generalize YA bb p 0=z0 at*
 generalize YA bb p 1=z1 at*
 go_upto_region 10 with (fail)
 obtain ⟨y5,hy5,h5'⟩:=h5.name;rw [hy5];have H5:Hid (At w0 y5 X (byt v bb::arr nb (stC 13 (QbR (YA bb p) 2)) 270 Jg::rs)):=hid h5';clear hy5 h5 h5' h4 h3 d0 f0 d1 f1 u1 H3;go_wp2_with fail;go_loopw [9,56] (fun _ t wr=> ∃k:Nat,k≤11∧t= .int .i64 k∧At w0 wr X (byt v bb::arr nb (stC 13 (QbR (YA bb p) (2+k))) 270 Jg::rs)) (fun _ t _=>11-(intOf t).toNat)
 case atStart=>exact ⟨0,Nat.zero_le _,rfl,H5.out⟩
 case round=>
  clear H5;obtain ⟨k,hk,rfl,hst⟩:=hrel;have HST:=hid hst;clear hst;have k0:(0:Int)≤(k:Int):=Qk _;by_cases hlt:k<11
  ·have k1:(k:Int)<11:=by omega
   have h6:=HST.out.setArr 1 rfl (2+k) (.int .i64 (YA bb p (2+k)));rw [Y7 _ _ _ _ (by omega),WX] at h6;have H6:Hid (At w0 (wr.setCell ⟨nb,2+k,none⟩ (.int .i64 (YA bb p (2+k)))) X (byt v bb::arr nb (stC 13 (QbR (YA bb p) (2+(k+1)))) 270 Jg::rs)):=hid h6;have d0: ∃u,wr.cell? ⟨nb,2+k,none⟩=some u:=⟨_,(HST.out.arrCell (i:=1) rfl (2+k)).trans (QP _ _ _ (by omega))⟩;obtain ⟨u0,d0⟩:=d0;have f0:wr.frozen? ⟨nb,2+k,none⟩=false:=HST.out.arrFree (i:=1) rfl (2+k);clear h6;go_wp2_with fail;refine (HG.out _ _ (2+k) _ HST.out (by omega) (by omega)).mono ?_;rintro e w4 ⟨rfl,rfl⟩;generalize YA bb p (2+k)=zk at*
   have HLT:=hid hlt;go_wp2
   first | exact ⟨⟨k+1,HLT.out,by go_num,H6.out⟩,by have:=HLT.out;simp [intOf];omega⟩ | (go_roundw;case rel=>first | exact ⟨k+1,HLT.out,by go_num,H6.out⟩ | ((repeat apply Exists.intro);exact ⟨⟨k+1,HLT.out,by go_num,H6.out⟩,rfl⟩);case measure=>have:=HLT.out;simp [intOf];omega)
  ·have k1: ¬(k:Int)<11:=by omega
   obtain rfl:k=11:=by omega
   have h7:=HST.out;rw [Qgt] at h7;have HB:=hid (show wr.heap[nb]?=some (.cells (stC 13 (ndI (YA bb p))) 270 (0,0)) from h7.1.get (i:=2) rfl);have H8:=hid (h7.setRow 1 (c':=stC 13 (ndI (YA bb p))) rfl);have HB8:=hid (show (wr.setRow nb (stC 13 (ndI (YA bb p)))).heap[nb]?=some (.cells (stC 13 (ndI (YA bb p))) 270 (0,0)) from H8.out.1.get (i:=2) rfl);clear h7 HST;go_wp2_with (first | (refine VI rfl _ rfl nb rfl _ HB.out ?_) | (refine K8 rfl _ _ rfl nb _ rfl rfl _ (YS _ _) HB.out ?_));have hld:=run_loadVar_row (P:=prog) (wr.setRow nb (stC 13 (ndI (YA bb p)))) nb 270 270 (stC 13 (ndI (YA bb p))) (0,0) _ HB8.out underlying270 rfl (Qa8 _);exact bodyPost_ret (v:= .tuple #[.agg (stC 13 (ndI (YA bb p))),.int .i64 0]) (Qx results212 _ _ ⟨nb,0,none⟩ rfl _ hld) rfl ⟨rfl,H8.out.drop 2⟩
def Yl (b:Blk) (p:Nat) (f:Nat→Nat):Nat→Blk
 | 0=>b
 | k+1=>Qv (Yl b p f k) (p+4*k) 4 (f k)
theorem Vf (b:Blk) (p:Nat) (f:Nat→Nat): ∀k,p+4*k≤b.length→(Yl b p f k).length=b.length
 | 0,_=>rfl
 | k+1,h=>by
   unfold Yl;have:=Vf b p f k (by omega);rw [Qu _ _ _ _ (by rw [this];omega),this]
theorem Vw (b:Blk) (p:Nat) (f:Nat→Nat): ∀k,p+4*k≤b.length→(∀j,j<k→f j<4294967296)→∀j,j<k→getLE (Yl b p f k) (p+4*j) 4=f j
 | 0,_,_,j,h=>by omega
 | k+1,h,hf,j,hj=>by
   unfold Yl;have hl:=Vf b p f k (by omega);by_cases e:j=k
   ·subst e;exact Q1 _ _ _ _ (by rw [hl];omega) (hf j (by omega))
   ·rw [Q3 _ _ _ _ _ _ (by rw [hl];omega) (by omega)];exact Vw b p f k (by omega) (fun j hj=>hf j (by omega)) j (by omega)
theorem VT (b:Blk) (p:Nat) (f:Nat→Nat) (q m:Nat): ∀k,p+4*k≤b.length→(q+m≤p∨p+4*k≤q)→getLE (Yl b p f k) q m=getLE b q m
 | 0,_,_=>rfl
 | k+1,h,hd=>by
   unfold Yl;have hl:=Vf b p f k (by omega);rw [Q3 _ _ _ _ _ _ (by rw [hl];omega) (by omega)];exact VT b p f q m k (by omega) (by omega)
def QcC (f:Nat→Nat):List Value:=(List.range 11).map fun k=>Value.int .i64 (f (2+k):Int)
theorem Qch (f:Nat→Nat):(QcC f).length=11:=by simp [QcC]
theorem QcG (f:Nat→Nat) (k:Nat) (h:k<11):(QcC f)[k]?=some (.int .i64 (f (2+k):Int)):=by simp [QcC,h]
theorem Qcm (f:Nat→Nat) (k:Nat) (h:k<11) (W:World):(Instr.index 268 (.agg (QcC f).toArray) (.int .i64 (k:Int))).run prog W= .ok (.int .i64 (f (2+k):Int)) W:=by
 have hk:(0:Int)≤(k:Int)∧(k:Int)<((11:Nat):Int):=by omega
 have hsz:(sizeOf 3).run prog W= .ok 1 W:=by kernel_rfl
 simp [Instr.index,run_underlying underlying268,asIntOf,hk,hsz,go_sem];rw [if_pos h,QcG f k h];rfl
theorem At.rangeNd (h:At w0 w X rs) {i nb:Nat} {f:Nat→Nat} (hr:rs[i]?=some (arr nb (stC 13 (ndI f)) 270 Jg)):w.rangeAt nb 2 (QcC f):=by
 intro j u hu;have hj:=(List.getElem?_eq_some_iff.1 hu).1;rw [Qch] at hj;rw [QcG f j hj] at hu;rw [←hu];exact (h.arrCell hr (2+j)).trans (QP _ _ _ (by omega))
theorem Qbc (h:At w0 w X rs) (hop:X.op=true) (i:Nat) (hi:i<X.P.ni) (f:Nat→Nat) (hf: ∀j,j<13→f j<4294967296) (hr:((X.P.tb+i/8:Nat):Int)∈X.keys∨X.l.length<60):
 Calls prog 184 #[.pointer (some ⟨X.sb,0,none⟩),.int .i64 i,.agg (stC 13 (ndI f))] w fun e w'=>e= .returned (.int .i64 0)∧At w0 w' (X.put (X.P.tb+i/8) (Yl (X.v (X.P.tb+i/8)) (i%8*64) f 13)) rs:=by
 have ho:=h.ok;have hq:=ho.tab hi;have hl:=ho.len _ hq.1 hq.2.2;have HA:=hid (h.newArr (stC 13 (ndI f)) 270 Jg);have HPL:Hid (∀y rs',At w0 y X rs'→Calls prog 247 #[.pointer (some ⟨X.sb,0,none⟩),.int .i64 i] y fun e w'=>y=w'∧e= .returned (.tuple #[.int .i64 (X.P.tb+i/8:Nat),.int .i64 (i%8*64:Nat)])):=hid fun y rs' hy=>QeO hy i hi
 have HRD:Hid (∀y rs',At w0 y X rs'→Calls prog 202 #[.pointer (some ⟨X.cb,0,none⟩),.int .i64 (X.P.tb+i/8:Nat)] y fun e w'=> ∃v,e= .returned (.tuple #[v,.int .i64 0])∧At w0 w' X (byt v (X.v (X.P.tb+i/8))::rs')):=hid fun y rs' hy=>Og hy _ hq.1 hq.2.2
 have HL:=hid hl;have hp:i%8*64≤448:=by omega
 have HQ:=hid (And.intro hq.1 hq.2.2);generalize X.P.tb+i/8=q at*
 generalize i%8*64=p at*
 obtain ⟨bb,hbb⟩: ∃bb,X.v q=bb:=⟨_,rfl⟩;rw [hbb] at HRD HL ⊢;have HF:=hid hf;have HRM:=hid hr;have KS:Hid (∀y rs',At w0 y X rs'→y.cell? ⟨X.sb,0,none⟩=some (.pointer (some ⟨X.cb,0,none⟩))):=hid fun y rs' hy=>hy.stCells.1
 have HP:Hid (∀y rs' (v:Value) (j n:Nat) (b:Blk) (z:Int),At w0 y X (byt v b::rs')→b.length=512→j<13→z=((p+4*j:Nat):Int)→n<4294967296→Calls prog 248 #[v,.int .i64 z,.int .i64 n] y fun e w'=> ∃v',e= .returned v'∧At w0 w' X (byt v' (Qv b (p+4*j) 4 n)::byt v b::rs')):=hid fun y rs' v j n b z hy hb hj hz hn=>by
  rw [hz];exact (QkM y v b (p+4*j) n _ (hy.byt (i:=0) rfl) (by rw [hb];omega) (by rw [hb];omega) hn).mono fun _ _ ⟨hf,v',he,hb'⟩=>⟨v',he,hy.mkByt hf hb'⟩
 have HLN:Hid (∀k,k≤13→(Yl bb p f k).length=512):=hid fun k hk=>(Vf bb p f k (by rw [HL.out];omega)).trans HL.out
 have p0:(0:Int)≤(p:Int):=Qk _;have p1:(p:Int)≤448:=by omega
 clear h ho hq hl hi hbb hf hr;go_enter func184,ntmps184;go_upto_region 1 with (fail)
 obtain ⟨y1,hy1,h1⟩:=HA.out.name;rw [hy1];clear hy1 HA;have H1:=hid h1;generalize w.heap.size=nb at*
 clear h1;go_wp2_with fail;refine (HPL.out _ _ H1.out).mono ?_;rintro e w3 ⟨rfl,rfl⟩;have c0:=KS.out _ _ H1.out;go_wp2_with fail;refine (HRD.out _ _ H1.out).mono ?_;rintro e w3 ⟨v,rfl,h3⟩;have H3:=hid h3;clear h3 H1 c0 HPL HRD;have d0:w3.cell? ⟨nb,0,none⟩=some (.int .i64 (f 0)):=(H3.out.arrCell (i:=1) rfl 0).trans (QP _ _ _ (by omega));have d1:w3.cell? ⟨nb,1,none⟩=some (.int .i64 (f 1)):=(H3.out.arrCell (i:=1) rfl 1).trans (QP _ _ _ (by omega));have KN:Hid (∀y rs' j,At w0 y X rs'→rs'[j]?=some (arr nb (stC 13 (ndI f)) 270 Jg)→y.cell? ⟨nb,0,none⟩=some (.int .i64 (f 0))∧y.cell? ⟨nb,1,none⟩=some (.int .i64 (f 1))):=hid fun y rs' j hy hj=>⟨(hy.arrCell hj 0).trans (QP _ _ _ (by omega)),(hy.arrCell hj 1).trans (QP _ _ _ (by omega))⟩
 have HLN1:Hid ((Qv bb (p+4*0) 4 (f 0)).length=512):=HLN.out 1 (by omega) |> hid
 have HF0:=hid (HF.out 0 (by omega));have HF1:=hid (HF.out 1 (by omega));have e0:(p:Int)=((p+4*0:Nat):Int):=by omega
 have e1:(p:Int)+4=((p+4*1:Nat):Int):=by omega
 have HE:=hid (And.intro e0 e1);clear e0 e1;have hwr:IntKind.i64.wrap ((p:Int)+4)=(p:Int)+4:=IntWalk.i64_in _ (by omega);go_upto_region 5 with (fail)
 go_region_held3 (fun y=>y.cell? ⟨nb,0,none⟩=some (.int .i64 (f 0))∧y.cell? ⟨nb,1,none⟩=some (.int .i64 (f 1)))
  (first | exact KN.out _ _ 3 h6 rfl | exact KN.out _ _ 2 h5 rfl | exact KN.out _ _ 1 (H3.out.frm (Frm.refl NoB w3).drew) rfl)
  (first
   | (go_at_call 248;(with_reducible refine (HP.out _ _ v5 1 (f 1) _ _ h5 HLN1.out (by decide) HE.out.2 HF1.out).mono ?_);rintro e w6 ⟨v6,rfl,h6⟩)
   | (go_at_call 248;(with_reducible refine (HP.out _ _ v 0 (f 0) _ _ (H3.out.frm (Frm.refl NoB w3).drew) HL.out (by decide) HE.out.1 HF0.out).mono ?_);rintro e w5 ⟨v5,rfl,h5⟩))
 have H6:Hid (At w0 w6 X (byt v6 (Yl bb p f 2)::arr nb (stC 13 (ndI f)) 270 Jg::rs)):=hid (h6.sub (List.Sublist.cons_cons _ (List.Sublist.cons _ (List.Sublist.cons _ (List.Sublist.refl _)))));have HRG:=hid (h6.rangeNd (i:=3) rfl);clear h5 h6 d0 d1 hwr KN H3;have HI:Hid ((prog.info? 268).map (·.size)=some (QcC f).length):=hid (by rw [Qch];kernel_rfl);go_wp2_with (refine wpList_load_mid rfl _ _ rfl nb 2 rfl (QcC f) _ HRG.out underlying268 rfl HI.out ?_);clear HRG HI;go_loopw [9,11,12,43] (fun t9 _ _ t wr=> ∃(k:Nat) (vk:Value),k≤11∧t= .int .i64 k∧vk=t9∧At w0 wr X (byt vk (Yl bb p f (2+k))::arr nb (stC 13 (ndI f)) 270 Jg::rs)) (fun _ _ _ t _=>11-(intOf t).toNat)
 case atStart=>exact ⟨0,_,Nat.zero_le _,rfl,rfl,H6.out⟩
 case round=>
  clear H6;obtain ⟨k,vk,hk,rfl,rfl,hst⟩:=hrel;have HST:=hid hst;clear hst;have k0:(0:Int)≤(k:Int):=Qk _;by_cases hlt:k<11
  ·have k1:(k:Int)<11:=by omega
   have hix:=Qcm f k hlt;have HPP:=hid (HP.out _ _ vk (2+k) (f (2+k)) _ ((p:Int)+8+4*(k:Int)) HST.out (HLN.out (2+k) (by omega)) (by omega) (by omega) (HF.out (2+k) (by omega)));have HLT:=hid hlt;obtain ⟨fk,hfk⟩: ∃fk,f (2+k)=fk:=⟨_,rfl⟩;rw [hfk] at hix HPP;have HFK:=hid hfk;clear hfk;clear hlt;go_wp2_with fail;refine HPP.out.mono ?_;clear HPP;rintro e w4 ⟨v4,rfl,h4⟩;have H4:Hid (At w0 w4 X (byt v4 (Yl bb p f (2+(k+1)))::arr nb (stC 13 (ndI f)) 270 Jg::rs)):=hid (by
    have:=h4.sub (rs':=byt v4 (Qv (Yl bb p f (2+k)) (p+4*(2+k)) 4 fk)::arr nb (stC 13 (ndI f)) 270 Jg::rs) (List.Sublist.cons_cons _ (List.Sublist.cons _ (List.Sublist.refl _)));rw [←HFK.out] at this;exact this)
   clear h4 hix HST;go_wp2
   first | exact ⟨⟨k+1,_,HLT.out,by go_num,rfl,H4.out⟩,by have:=HLT.out;simp [intOf];omega⟩ | (go_roundw;case rel=>first | exact ⟨k+1,_,HLT.out,by go_num,rfl,H4.out⟩ | ((repeat apply Exists.intro);exact ⟨⟨k+1,_,HLT.out,by go_num,rfl,H4.out⟩,rfl⟩);case measure=>have:=HLT.out;simp [intOf];omega)
  ·have k1: ¬(k:Int)<11:=by omega
   obtain rfl:k=11:=by omega
   have c0:=KS.out _ _ HST.out;have HW:=hid (KX HST.out hop q 0 HQ.out.1 HQ.out.2 rfl (HLN.out 13 (by omega)) HRM.out);go_wp2_with fail;refine HW.out.mono ?_;rintro e w4 ⟨rfl,h4⟩;have H4:=hid (h4.drop 2);clear h4 HW HST c0;go_wp2;go_ret;exact ⟨rfl,H4.out⟩
structure Wr (X Y:Sys) (T:Nat→Prop):Prop where
 eq:Y=X.wr Y.l
 keys: ∀k∈Y.keys,k∈X.keys∨∃t:Nat,T t∧(t:Int)=k
 v: ∀j,¬T j→Y.v j=X.v j
theorem Wr.refl (X:Sys) (T:Nat→Prop):Wr X X T:=⟨rfl,fun _ h=> .inl h,fun _ _=>rfl⟩
theorem Wr.trans {X Y Z:Sys} {T:Nat→Prop} (h:Wr X Y T) (g:Wr Y Z T):Wr X Z T:=
 ⟨by rw [g.eq,h.eq];rfl,fun k hk=>(g.keys k hk).elim (h.keys k) .inr,fun j hj=>(g.v j hj).trans (h.v j hj)⟩
theorem Wr.mono {X Y:Sys} {T U:Nat→Prop} (h:Wr X Y T) (hU: ∀t,T t→U t):Wr X Y U:=
 ⟨h.eq,fun k hk=>(h.keys k hk).imp id fun ⟨t,ht,e⟩=>⟨t,hU t ht,e⟩,fun j hj=>h.v j fun ht=>hj (hU j ht)⟩
theorem Wr.put (X:Sys) (k:Nat) (b:Blk):Wr X (X.put k b) (· =k):=
 ⟨rfl,fun j hj=>((X.Y8 k b j).1 hj).imp id fun e=>⟨k,rfl,e.symm⟩,fun j hj=>by rw [X.put_v,if_neg hj]⟩
theorem Wr.P {X Y:Sys} {T:Nat→Prop} (h:Wr X Y T):Y.P=X.P:=by rw [h.eq];rfl
theorem Wr.n {X Y:Sys} {T:Nat→Prop} (h:Wr X Y T):Y.n=X.n:=by rw [h.eq];rfl
theorem Wr.op {X Y:Sys} {T:Nat→Prop} (h:Wr X Y T):Y.op=X.op:=by rw [h.eq];rfl
theorem Wr.cb {X Y:Sys} {T:Nat→Prop} (h:Wr X Y T):Y.cb=X.cb:=by rw [h.eq];rfl
theorem Wr.ab {X Y:Sys} {T:Nat→Prop} (h:Wr X Y T):Y.ab=X.ab:=by rw [h.eq];rfl
theorem Wr.sb {X Y:Sys} {T:Nat→Prop} (h:Wr X Y T):Y.sb=X.sb:=by rw [h.eq];rfl
def Cov (X:Sys) (C:List Nat):Prop:= ∀k∈X.keys,∃c∈C,(c:Int)=k
theorem Cov.wr {X Y:Sys} {T:Nat→Prop} {C:List Nat} (h:Cov X C) (g:Wr X Y T) (hT: ∀t,T t→t∈C):Cov Y C:=fun k hk=>by
 rcases g.keys k hk with h1 | ⟨t,ht,e⟩
 ·exact h k h1
 ·exact ⟨t,hT t ht,e⟩
theorem Cov.mono {X:Sys} {C C':List Nat} (h:Cov X C) (hC: ∀c∈C,c∈C'):Cov X C':=fun k hk=>by
 obtain ⟨c,hc,e⟩:=h k hk;exact ⟨c,hC c hc,e⟩
theorem QcO {α:Type}: ∀(l m:List α),l.Nodup→(∀x∈l,x∈m)→l.length≤m.length
 | [],m,_,_=>Nat.zero_le _
 | a::l,m,h,hm=>by
   obtain ⟨h1,h2⟩:=List.nodup_cons.1 h;obtain ⟨s,t,e⟩:=List.append_of_mem (hm a (List.mem_cons_self ..));subst e;have:=QcO l (s++t) h2 fun x hx=>by
    have:=hm x (List.mem_cons_of_mem _ hx);rw [List.mem_append,List.mem_cons] at this;rw [List.mem_append];rcases this with h | h | h
    ·exact .inl h
    ·subst h;exact absurd hx h1
    ·exact .inr h
   simp only [List.length_append,List.length_cons] at this ⊢;omega
theorem Cov.room {X:Sys} {C:List Nat} (h:Cov X C) (ho:Jl X) {k:Nat} (hk:k∈C) (h60:C.length≤60):(k:Int)∈X.keys∨X.l.length<60:=by
 by_cases hm:(k:Int)∈X.keys
 ·exact .inl hm
 ·right;have hn:((k:Int)::X.keys).Nodup:=List.nodup_cons.2 ⟨hm,ho.cok.nodup⟩;have:=QcO ((k:Int)::X.keys) (C.map fun c:Nat=>(c:Int)) hn fun x hx=>by
   rcases List.mem_cons.1 hx with rfl | hx
   ·exact List.mem_map.2 ⟨k,hk,rfl⟩
   ·obtain ⟨c,hc,e⟩:=h x hx;exact List.mem_map.2 ⟨c,hc,e⟩
  rw [List.length_cons,List.length_map] at this;have e:X.keys.length=X.l.length:=List.length_map ..;omega
theorem QeI (h:At w0 w X rs) (f:Nat→Nat) (k:Nat) (hk:k<10):
 Calls prog 213 #[.pointer (some ⟨X.sb,0,none⟩),.agg (stC 13 (ndI f)),.int .i64 k] w fun e w'=>e= .returned (.tuple #[.int .i64 (f (2+k)),.int .i64 0])∧At w0 w' X rs:=by
 have HA:=hid (h.newArr (stC 13 (ndI f)) 270 Jg);have k0:(0:Int)≤(k:Int):=Qk _;have k1:(k:Int)<10:=by omega
 have k2:(k:Int)<11:=by omega
 clear h;go_enter func213,ntmps213;go_upto_region 1 with (fail)
 obtain ⟨y1,hy1,h1⟩:=HA.out.name;rw [hy1];clear hy1 HA;have H1:=hid (h1.drop 1);generalize w.heap.size=nb at*
 have d0:y1.cell? ⟨nb,2+k,none⟩=some (.int .i64 (f (2+k))):=(h1.arrCell (i:=0) rfl (2+k)).trans (QP _ _ _ (by omega));obtain ⟨z,hz⟩: ∃z,f (2+k)=z:=⟨_,rfl⟩;rw [hz] at d0;have HZ:=hid hz;clear h1 hk hz;go_wp2;go_ret2;exact ⟨by rw [HZ.out];rfl,H1.out⟩
def Sys.fresh (X:Sys) (k:Nat):Sys:=(X.put X.P.bm (Qw (X.v X.P.bm) k true)).put (X.P.da+k) Qs
theorem Jl.data {X:Sys} (h:Jl X) {k:Nat} (hk:k<X.P.dc):245≤X.P.da+k∧X.P.da+k<X.n∧X.P.da+k≠X.P.bm∧X.P.da+k≠X.P.im:=by
 have:=h.pl.im;have:=h.pl.bm;have:=h.pl.tb;have:=h.pl.da;have:=h.pl.all;have:=h.pn;omega
theorem Wr.fresh (X:Sys) (k:Nat):Wr X (X.fresh k) fun t=>t=X.P.bm∨t=X.P.da+k:=
 ((Wr.put X X.P.bm _).mono fun _ h=> .inl h).trans ((Wr.put _ _ _).mono fun _ h=> .inr h)
theorem Qij (h:At w0 w X rs) (hop:X.op=true) {k:Nat} (hk:Jn (X.v X.P.bm) X.P.dc=some k) {C:List Nat} (hC:Cov X C) (hb:X.P.bm∈C) (h60:C.length<60):
 Calls prog 347 #[.pointer (some ⟨X.sb,0,none⟩)] w fun e w'=>e= .returned (.tuple #[.int .i64 (X.P.da+k:Nat),.int .i64 0])∧At w0 w' (X.fresh k) rs:=by
 have ho:=h.ok;have hkd:=ho.data (Jf hk).1;have HT:=hid (QcE h hop hk (hC.room ho hb (by omega)));have c1:=h.stCells.2.1;have HC2:Hid (Cov (X.put X.P.bm (Qw (X.v X.P.bm) k true)) ((X.P.da+k)::C)):=hid ((hC.wr (Wr.put _ _ _) (fun t e=>e▸hb)).mono fun c hc=>List.mem_cons_of_mem _ hc);have HLE:Hid (((X.P.da+k)::C).length≤60):=hid (by simp;omega);have HKD:=hid hkd;have hmk:=V1;clear h ho hk hC hb h60 hkd;obtain ⟨q,hq⟩: ∃q,X.P.da+k=q:=⟨_,rfl⟩;have EX:Hid (X.fresh k=(X.put X.P.bm (Qw (X.v X.P.bm) k true)).put q Qs):=hid (by unfold Sys.fresh;rw [hq]);rw [hq] at HT HC2 HLE HKD ⊢;have HY:Hid ((X.put X.P.bm (Qw (X.v X.P.bm) k true)).sb=X.sb∧(X.put X.P.bm (Qw (X.v X.P.bm) k true)).cb=X.cb∧(X.put X.P.bm (Qw (X.v X.P.bm) k true)).op=true∧(X.put X.P.bm (Qw (X.v X.P.bm) k true)).n=X.n):=hid ⟨rfl,rfl,hop,rfl⟩;rw [EX.out];generalize X.put X.P.bm (Qw (X.v X.P.bm) k true)=Y at*
 go_enter func347,ntmps347;go_wp2_with fail;refine HT.out.mono ?_;clear HT c1;rintro e w2 ⟨rfl,h2⟩;have KS:Hid (∀y rs' Z,At w0 y Z rs'→Z.sb=X.sb→Z.cb=X.cb→y.cell? ⟨X.sb,0,none⟩=some (.pointer (some ⟨X.cb,0,none⟩))):=hid fun y rs' Z hy e1 e2=>by have:=hy.stCells.1;rw [e1,e2] at this;exact this
 have H2:=hid h2;have H3:Hid (At w0 (w2.alloc (.cells zc 5 (0,0))).drew Y (byt (.slice (some ⟨w2.heap.size,0,none⟩) 512 512) Qs::rs)):=hid (At.frm (show At w0 _ Y _ from ⟨(Qdv h2.1).swap,h2.2⟩) (Frm.refl NoB _).drew);have HRM:=hid (HC2.out.room h2.2 (List.mem_cons_self ..) HLE.out);have c0:=KS.out _ _ _ h2 HY.out.1 HY.out.2.1;have HKN:Hid (q<Y.n):=hid (by rw [HY.out.2.2.2];exact HKD.out.2.1);have HWR:=hid (KX H3.out HY.out.2.2.1 q 0 HKD.out.1 HKN.out rfl Q6 HRM.out);rw [HY.out.2.1] at HWR;clear h2;go_upto_region 4 with (fail)
 go_region_held3 (fun y=>y.cell? ⟨X.sb,0,none⟩=some (.pointer (some ⟨X.cb,0,none⟩)))
  (first | exact KS.out _ _ _ h7 HY.out.1 HY.out.2.1 | exact KS.out _ _ _ H3.out HY.out.1 HY.out.2.1 | exact KS.out _ _ _ (H2.out.frm (Frm.refl NoB w2).drew) HY.out.1 HY.out.2.1)
  (first
   | (go_at_call 92;(with_reducible refine (HWR.out).mono ?_);rintro e w6 ⟨rfl,h7⟩))
 have H7:=hid (h7.drop 1);clear h7 c0 hmk KS;go_wp2;go_ret2;exact ⟨rfl,H7.out⟩
end
end Go.Proofs.YtlemndledcmhiaaGreatDoor
