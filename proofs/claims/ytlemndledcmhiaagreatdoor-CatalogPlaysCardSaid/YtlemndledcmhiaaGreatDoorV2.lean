/-
  The catalog, from the device up, part 2.
-/
import Derived.Test.YtlemndledcmhiaaGreatDoorV1
import Derived.StillTailTactics
import Derived.IntWalk
import Derived.Laws.OwnMore
import Derived.Deep.CutRange
namespace Go.Proofs.YtlemndledcmhiaaGreatDoor
set_option linter.unusedVariables false
set_option linter.unusedSimpArgs false
set_option maxHeartbeats 8000000
set_option maxRecDepth 100000
open Tryz
open Lib (hid)
open Go.ChangeMaps Go.MapKept Go.RowKit
theorem Qc2 {n g last:Nat} {o om ks:List Nat} {dt dm ds:List Blk} {s:Nat→Blk} {D:DSt} (hp: ∀k,D.pend k= []) (h:Q2 n g last o dt s D.base) (hk:Qje o dt D.base om dm) (hl:W5 n ks ds)
 (hn:n≤65536) (hg:g<18446744073709551616) (hla:last+1<18446744073709551616):
 Safe (QL (Qz g last om dm ks ds) D) (fun C=>Q2 n g last o dt s C∨Q2 n g (last+1) ks ds (QH ks ds s) C)∧
 (Jp (Qz g last om dm ks ds) D=0→(∀k,(QL (Qz g last om dm ks ds) D).pend k= [])∧Q2 n g (last+1) ks ds (QH ks ds s) (QL (Qz g last om dm ks ds) D).base):=by
 obtain ⟨l1,hl1⟩: ∃l1,Qi om dm++Ja ((last+1)%4) 0 ds=l1:=⟨_,rfl⟩;have hS1:Safe (QL (l1++ [.fl]) D) (Q2 n g last o dt s):=by
  refine (Safe.clean hp h).run _ (fun k b hm C hC=>?_);rw [←hl1] at hm;rcases List.mem_append.1 hm with hm | hm
  ·rcases List.mem_append.1 hm with hm | hm
   ·obtain ⟨i,h1,h2⟩:=Ys om dm k b hm;rcases hk with ⟨rfl,rfl⟩ | ⟨rfl,rfl,_⟩
    ·exact hC.lay h1 h2
    ·simp at h1
   ·obtain ⟨j,h1,h2⟩:=K5 _ ds 0 k b hm;have hj:=(List.getElem?_eq_some_iff.1 h2).1;subst h1;have:=hl.few;have:=hl.len;exact hC.data b (by omega) (by omega) (by omega)
  ·simp at hm
 unfold Qz;rw [hl1];rcases Ym (l1++ [.fl]) D with h0 | h9
 ·obtain ⟨e1,e2⟩:=YH (l1++ [.fl]) [.wr (Qp ((last+1)%4)) (JN g (last+1) ks),.fl] D h0;rw [e1,e2];obtain ⟨p1,p2⟩:=Qel l1 D h0;have hT:=hS1.base;have p2:(QL (l1++ [.fl]) D).base=Yi (Ja ((last+1)%4) 0 ds) (Yi (Qi om dm) D.base):=by rw [p2,JQ hp,←V2,hl1]
  obtain ⟨C1,hC1⟩: ∃C1,Yi (Qi om dm) D.base=C1:=⟨_,rfl⟩;rw [hC1] at p2;have hset1:K7 o dt C1:=by
   rcases hk with ⟨rfl,rfl⟩ | ⟨rfl,rfl,hs⟩
   ·rw [←hC1,Um _ _ _ h.1.len h.1.nodup];exact Ex h.1.len h.1.nodup
   ·rw [←hC1];exact hs
  have hset:K7 o dt (QL (l1++ [.fl]) D).base:=fun i k hik=>by
   have:=h.1.homes k (List.mem_of_getElem? hik);have h60:=hl.few;have h61:=hl.len;rw [p2,Oj];split
   ·have hno:ds[k-(Qp ((last+1)%4)+1+0)]?=none:=List.getElem?_eq_none (by unfold Qp;omega);rw [hno];exact hset1 i k hik
   ·exact hset1 i k hik
  have hdat: ∀(i:Nat) (b:Blk),ds[i]?=some b→(QL (l1++ [.fl]) D).base (Qp ((last+1)%4)+1+i)=b:=fun i b hb=>by
   rw [p2,Oj,if_pos (by omega),show Qp ((last+1)%4)+1+i-(Qp ((last+1)%4)+1+0)=i from by omega,hb];rfl
  have hH:=Qj5 hT hset hl hdat hn hg hla;obtain ⟨D1,hD1⟩: ∃D1,QL (l1++ [.fl]) D=D1:=⟨_,rfl⟩;rw [hD1] at p1 hT hH ⊢;clear p2 hset hdat hC1 hset1;have hbase:Safe D1 (fun C=>C=D1.base):=Safe.clean p1 rfl;by_cases hoff:D1.off=true
  ·rw [Kg hoff,Kf hoff];exact ⟨Safe.clean (D:=D1.op) p1 (.inl hT),fun h=>by cases h⟩
  ·rw [VS hoff,VX hoff];have hS2:Safe (DOp.did (.wr (Qp ((last+1)%4)) (JN g (last+1) ks)) D1) (fun C=>Q2 n g last o dt s C∨Q2 n g (last+1) ks ds (QH ks ds s) C):=fun C hC=>by
    obtain ⟨C',h1,h2⟩:=QeD (D:=D1.op) hC;have:C'=D1.base:=hbase _ h1;subst this;rcases h2 with rfl | rfl
    ·exact .inl hT
    ·exact .inr hH
   have hlast:(DOp.did (.wr (Qp ((last+1)%4)) (JN g (last+1) ks)) D1).last=Yr D1.base (Qp ((last+1)%4)) (JN g (last+1) ks):=by
    show (D1.op.put _ _).last=_;rw [Es,JQ p1]
   obtain ⟨D2,hD2⟩: ∃D2,DOp.did (.wr (Qp ((last+1)%4)) (JN g (last+1) ks)) D1=D2:=⟨_,rfl⟩;rw [hD2] at hS2 hlast ⊢;by_cases hoff2:D2.off=true
   ·rw [Kg hoff2,Kf hoff2];exact ⟨hS2,fun h=>by cases h⟩
   ·rw [VS hoff2,VX hoff2];refine ⟨hS2.fl,fun _=>⟨fun k=>rfl,?_⟩⟩;show Q2 _ _ _ _ _ _ D2.last;rw [hlast];exact hH
 ·obtain ⟨e1,e2⟩:=Vo (l1++ [.fl]) [.wr (Qp ((last+1)%4)) (JN g (last+1) ks),.fl] D h9;rw [e1,e2];exact ⟨hS1.mono (fun C hC=> .inl hC),fun h=>by cases h⟩
theorem JF: ¬U8T (219:TypeId):=by decide
theorem Qhu {w0:Gnd} {w:World} {rs:List Res} (h:St w0 w rs) (a i:Nat) {H:Hdl} {D:DSt} {jb:Nat} {c:Array Value} {ht: ¬U8T (219:TypeId)} (hr:rs[a]?=some (dev H D)) (hj:rs[i]?=some (arr jb c 219 ht))
 (hc:c[0]?=some (.pointer (some ⟨H.b,0,none⟩))) (k:Int):
 Calls prog 144 #[.pointer (some ⟨jb,0,none⟩),.int .i64 k] w fun e w'=>w=w'∧e= .returned (.bool (decide (245≤k) && decide (k<(D.n:Int)))):=by
 have hcell:w.cell? ⟨jb,0,none⟩=some (.pointer (some ⟨H.b,0,none⟩)):=(h.arrCell hj 0).trans hc;have HB:=hid (Kk h a hr);clear h;by_cases h1:245≤k
 ·by_cases h2:k<(D.n:Int)
  ·have HT:Hid ((decide (245≤k) && decide (k<(D.n:Int)))=true):=hid (by rw [decide_eq_true h1,decide_eq_true h2];rfl);go_enter func144,ntmps144;go_wp2_with fail;refine HB.out.mono ?_;rintro e w2 ⟨rfl,rfl⟩;go_wp2;go_ret;exact ⟨rfl,by rw [HT.out];rfl⟩
  ·have HT:Hid ((decide (245≤k) && decide (k<(D.n:Int)))=false):=hid (by rw [decide_eq_false h2,Bool.and_false]);go_enter func144,ntmps144;go_wp2_with fail;refine HB.out.mono ?_;rintro e w2 ⟨rfl,rfl⟩;go_wp2;go_ret;exact ⟨rfl,congrArg (fun b=>Ending.returned (.bool b)) ((decide_eq_false (by omega)).trans HT.out.symm)⟩
 ·have HT:Hid ((decide (245≤k) && decide (k<(D.n:Int)))=false):=hid (by rw [decide_eq_false h1,Bool.false_and]);go_enter func144,ntmps144;go_wp2;go_ret;exact ⟨rfl,congrArg (fun b=>Ending.returned (.bool b)) HT.out.symm⟩
def QiW (l:List Int) (k:Int) (r:Int):Prop:=
 (∃i:Nat,r=i∧l[i]?=some k∧∀j,j<i→l[j]?≠some k)∨(r= -1∧∀j:Nat,l[j]?≠some k)
theorem Qfm (w:World) (v:Value) (l:List Int) (k:Int) (hv:Qcw w v (l.map JX)) (hl:l.length≤1000000):
 Calls prog 145 #[v,.int .i64 k] w fun e w'=>w=w'∧∃r,e= .returned (.int .i64 r)∧QiW l k r:=by
 obtain ⟨a,cap,rfl,ha⟩:=hv;have HA:=hid ha;rw [List.length_map];clear ha;go_enter func145,ntmps145;go_wp2_with fail;go_loopw [5,8] (fun _ t wr=>wr=w∧∃i:Nat,i≤l.length∧t= .int .i64 i∧∀j,j<i→l[j]?≠some k) (fun _ t _=>l.length-(intOf t).toNat)
 case atStart=>exact ⟨rfl,0,Nat.zero_le _,rfl,fun j hj=>by omega⟩
 case round=>
  obtain ⟨rfl,i,hi,rfl,hno⟩:=hrel;have HNO:=hid hno;clear hno;by_cases hlt:i<l.length
  ·obtain ⟨x,hx⟩: ∃x,l[i]?=some x:=⟨_,List.getElem?_eq_getElem hlt⟩;obtain ⟨blk,off,rfl,hb,hc⟩:=HA.out i (JX x) (by rw [List.getElem?_map,hx];rfl);have hc':wr.cell? ⟨blk,off+i,none⟩=some (.int .i64 x):=hc;have hi0:(0:Int)≤(i:Int):=Qk _;have hi1:(i:Int)<(l.length:Int):=by omega
   have HX:=hid hx;clear hx hc hb;by_cases hk:k=x
   ·have hk2:(k==x)=true:=beq_iff_eq.2 hk;have HK:=hid hk;clear hk;go_wp2;go_ret;exact ⟨rfl,_,rfl,.inl ⟨i,rfl,by rw [HX.out,HK.out],HNO.out⟩⟩
   ·have hk2:(k==x)=false:=beq_eq_false_iff_ne.2 hk;have HK:=hid hk;clear hk;have hno2: ∀j,j<i+1→l[j]?≠some k:=fun j hj=>by
     rcases Nat.lt_or_ge j i with h | h
     ·exact HNO.out j h
     ·obtain rfl:j=i:=by omega
      rw [HX.out];intro e;injection e with e
      exact HK.out e.symm
    have HN2:=hid hno2;clear hno2;go_wp2;exact ⟨⟨trivial,i+1,hlt,by go_num,HN2.out⟩,by simp [intOf];omega⟩
  ·obtain rfl:i=l.length:=by omega
   go_wp2;go_ret;refine ⟨rfl,_,rfl,.inr ⟨rfl,fun j=>?_⟩⟩;rcases Nat.lt_or_ge j l.length with h | h
   ·exact HNO.out j h
   ·rw [List.getElem?_eq_none h];intro e;cases e
def QW (t:TypeId) (ht: ¬U8T t) (s:Nat) (v:Value) (n:Nat) (xs:List Value):Res where
 M:=fun x=>v.ownBlock=some x
 inv:=fun Z w=>w.ownsRow 0 t s v n xs
 lt:=fun Z w H x hx=>(H.lt x hx).2
 dry:=fun Z w H x hx c' e=>by
  rcases H.2 with ⟨rfl,_⟩ | ⟨g,cap,cur,rfl,_,h2,_⟩
  ·cases hx
  ·obtain rfl:g=x:=by simpa [Value.ownBlock] using hx
   exact Yf h2 ht _ e
 keep:=fun Z w w' N H hf hd ha=>Js H (fun g hg=>hf.block g (H.lt g hg).2 (ha g hg))
 zone:=fun Z Z' w H _ _=>H
theorem St.rowNil {w0:Gnd} {w:World} {rs:List Res} (h:St w0 w rs) (t:TypeId) (ht: ¬U8T t) (s:Nat):St w0 w (QW t ht s (.slice none 0 0) 0 []::rs):=
 h.make (Frm.refl _ _) (QW t ht s _ _ _) (World.ownsRow_nil _ _ _ _) (fun _ hx=>by cases hx)
theorem St.rowAppend {w0:Gnd} {w:World} {rs:List Res} (h:St w0 w rs) (i:Nat) {t:TypeId} {ht: ¬U8T t} {s n:Nat} {v:Value} {xs:List Value} (hr:rs[i]?=some (QW t ht s v n xs)) (o:Obj) {v':Value} {w':World} {m:Nat} {ys:List Value}
 (ho:w'.ownsRow 0 t s v' m ys) (hg:(w.alloc o).grownBy w' v.ownBlock) (hat:v'.ownBlock=v.ownBlock∨v'.ownBlock=some (w.alloc o).heap.size):
 St w0 w' (rs.set i (QW t ht s v' m ys)):=by
 refine h.write i hr (((Frm.refl (QW t ht s v n xs).M w).alloc o).trans (Frm.ofGrown hg) (fun y _ e=>e)) (QW t ht s v' m ys) ho (fun x hx=>?_);rcases hat with e | e
 ·exact .inl (show v.ownBlock=some x from e▸(show v'.ownBlock=some x from hx))
 ·have hx:v'.ownBlock=some x:=hx;rw [e] at hx;have e':(w.alloc o).heap.size=x:=by injection hx
  have:=((Frm.refl NoB w).alloc o).size;exact .inr (by omega)
theorem St.drop2nd {w0:Gnd} {w:World} {x y:Res} {rs:List Res} (h:St w0 w (x::y::rs)):St w0 w (x::rs):=h.sub ((List.sublist_cons_self y rs).cons_cons x)
theorem St.drop3rd {w0:Gnd} {w:World} {x y z:Res} {rs:List Res} (h:St w0 w (x::y::z::rs)):St w0 w (x::y::rs):=h.sub (((List.sublist_cons_self z rs).cons_cons y).cons_cons x)
theorem St.swap {w0:Gnd} {w:World} {x y:Res} {rs:List Res} (h:St w0 w (x::y::rs)):St w0 w (y::x::rs):=h.perm (List.Perm.swap _ _ _)
theorem EV (w:World) (x:Value) (t:TypeId) (j:Nat) (u:Value) (h:([x]:List Value)[j]?=some u):(w.alloc (.cells #[x] t (0,0))).cell? ((⟨w.heap.size,0,none⟩:Addr).add j)=some u:=by
 obtain ⟨h1,h2⟩:=List.getElem?_eq_some_iff.1 h;obtain rfl:j=0:=by simpa using h1
 rw [show ((⟨w.heap.size,0,none⟩:Addr).add 0)=⟨w.heap.size,0,none⟩ from rfl,Qa (Qb _ _),←h2];rfl
def QdI (k:Nat):Value:= .int .i64 (k:Int)
abbrev J4 (v:Value) (l:List Nat):Res:=QW 3 Jj 1 v l.length (l.map QdI)
theorem U7 {w:World} {v:Value} {l:List Nat} (h:w.ownsRow 0 3 1 v l.length (l.map QdI)):Qcw w v ((l.map (fun k:Nat=>(k:Int))).map JX):=by
 have e:(l.map (fun k:Nat=>(k:Int))).map JX=l.map QdI:=by rw [List.map_map];rfl
 have:=W9 (w:=w) (base:=0) (v:=v) (l:=l.map (fun k:Nat=>(k:Int))) (by rw [List.length_map,e];exact h);exact this
theorem St.rowICell {w0:Gnd} {w:World} {rs:List Res} (h:St w0 w rs) {i n cap:Nat} {a:Option Addr} {l:List Nat} (hr:rs[i]?=some (J4 (.slice a n cap) l)) {k x:Nat} (hx:l[k]?=some x):
 ∃gb go,a=some ⟨gb,go,none⟩∧gb<w.heap.size∧w.cell? ⟨gb,go+k,none⟩=some (.int .i64 x):=by
 obtain ⟨a',cap',e,hc⟩:=U7 (h.get hr);injection e with e1 e2 e3
 subst e1;obtain ⟨gb,go,h1,h2,h3⟩:=hc k (.int .i64 x) (by rw [List.getElem?_map,List.getElem?_map,hx];rfl);exact ⟨gb,go,h1,h2,h3⟩
theorem St.rowILen {w0:Gnd} {w:World} {rs:List Res} (h:St w0 w rs) {i:Nat} {v:Value} {l:List Nat} (hr:rs[i]?=some (J4 v l)): ∃a cap,v= .slice a l.length cap:=by
 obtain ⟨a',cap',e,hc⟩:=U7 (h.get hr);exact ⟨a',cap',by rw [e];simp⟩
theorem Qeg:(prog.info? 3).map (fun i=>(i.zero,i.size,i.bytes))=some (some (.int .i64 0),1,8):=Qix
def KK (w0:Gnd) (rs:List Res) (g:Nat) (b:Blk) (e:Ending) (w':World):Prop:=
 ∃v,e= .returned (.tuple #[.int .u64 (if Yv g b then E2 b else 0:Nat),v])∧St w0 w' (J4 v (if Yv g b then Qae b else [])::rs)
theorem KK.no {w0:Gnd} {w':World} {rs:List Res} {g:Nat} {b:Blk} (h:Yv g b=false) (hs:St w0 w' rs):KK w0 rs g b (.returned (.tuple #[.int .u64 0,.slice none 0 0])) w':=
 ⟨_,by rw [h];rfl,by rw [h];exact hs.rowNil _ _ _⟩
theorem KK.yes {w0:Gnd} {w':World} {rs:List Res} {g:Nat} {b:Blk} {v:Value} (h:Yv g b=true) (hs:St w0 w' (J4 v (Qae b)::rs)):KK w0 rs g b (.returned (.tuple #[.int .u64 (E2 b),v])) w':=
 ⟨_,by rw [h];rfl,by rw [h];exact hs⟩
theorem Qgx {w0:Gnd} {w:World} {rs:List Res} (h:St w0 w rs) (a i:Nat) {H:Hdl} {D:DSt} {jb:Nat} {c:Array Value} {ht: ¬U8T (219:TypeId)} (hr:rs[a]?=some (dev H D)) (hj:rs[i]?=some (arr jb c 219 ht))
 (hc0:c[0]?=some (.pointer (some ⟨H.b,0,none⟩))) {g:Nat} (hc1:c[1]?=some (.int .u64 g)) (s:Nat) (hs:s<4) (hn:246≤D.n) (ho:D.ops<4611686018427387904) (b:Blk) (hb:D.last (Qp s)=b) (hok:Yv g b=true→Kq b≤60):
 Calls prog 137 #[.pointer (some ⟨jb,0,none⟩),.int .i64 s] w (KK w0 rs g b):=by
 have H0:=hid h;have KA:Hid (∀y,Frm NoB w y→y.cell? ⟨jb,0,none⟩=some (.pointer (some ⟨H.b,0,none⟩))):=hid fun y hy=>((h.frm0 hy).arrCell hj 0).trans hc0
 have c1:=KA.out w (Frm.refl _ _);have KB:Hid (∀y v,St w0 y (v::rs)→y.cell? ⟨jb,0,none⟩=some (.pointer (some ⟨H.b,0,none⟩))∧y.cell? ⟨jb,1,none⟩=some (.int .u64 g)):=hid fun y v hy=>
  ⟨(hy.arrCell (i:=i+1) hj 0).trans hc0,(hy.arrCell (i:=i+1) hj 1).trans hc1⟩
 have hs0:(0:Int)≤(s:Int):=Qk _;have hs1:(s:Int)≤3:=by omega
 have HL:Hid (b.length=512):=hid (hb▸DSt.last_length (h.get hr).wf (Qp s));have HB:=hid hb;clear hb;have HOK:=hid hok;clear h hok;go_enter func137,ntmps137;go_wp2_with fail;clear c1;go_region_held3 (fun y=>y.cell? ⟨jb,0,none⟩=some (.pointer (some ⟨H.b,0,none⟩)))
  (first | exact hS5 | (refine KA.out _ ?_;first | assumption | exact (Frm.refl NoB w).drew | exact ⟨rfl,rfl,rfl,Nat.le_refl _,fun _ _ _=>rfl⟩))
  (first
   | (go_at_call 140;refine (E8 w.drew (s:Int) 0 hs0 (by omega) (by omega) (by omega)).mono ?_;rintro e w3 ⟨hf3,rfl⟩;have hf3':Frm NoB w w3:=((Frm.refl NoB w).drew).trans hf3 (fun _ _ e=>e))
   | (go_at_call 139;refine (Qhr (H0.out.frm0 hf3') a hr (1+(s:Int)*61) (by omega) (by omega) ho).mono ?_;rintro e w5 ⟨v5,rfl,h5⟩;have hS5:=(KB.out _ _ h5).1))
 all_goals
  have e:((1+(s:Int)*61)).toNat=Qp s:=by unfold Qp;omega
  rw [e,HB.out] at h5;have H5:=hid h5;clear h5 hS5 e hs hn ho;obtain ⟨blk,off,cap,rfl,hcap,_,_⟩:=(H5.out.get (i:=0) rfl).cells;have hcap8:8≤cap:=by have:=HL.out;omega
  have hl8:8≤b.length:=by have:=HL.out;omega
  have hce:w5.cell? ⟨jb,1,none⟩=some (.int .u64 g):=(KB.out _ _ H5.out).2;have HG:Hid (∀k,Calls prog 225 #[.slice (some ⟨blk,off,none⟩) b.length cap,.int .i64 1] (w5.drewN k) fun e w'=>e= .returned (.int .u64 (getLE b 8 8))∧w'=w5.drewN k):=hid fun k=>
   (EK (w5.drewN k) _ _ 1 (Qc.frm0 (H5.out.get (i:=0) rfl) ((Frm.refl NoB w5).drewN k)).sliceOf (by omega) HL.out).mono fun _ _ ⟨a,b⟩=>⟨b,a.symm⟩
  by_cases hm:b.take 8=QU
  ·have hst: ∀k c2,(convert 76 9 (.slice (some ⟨blk,off,none⟩) 8 c2)).run prog (w5.drewN k)= .ok (.string { data:= #[66,79,76,76,65,82,68,72] }) (w5.drewN k):=fun k c2=>
    (Ur (Qc.frm0 (H5.out.get (i:=0) rfl) ((Frm.refl NoB w5).drewN k)) hl8 c2).trans (by rw [hm];rfl)
   have HM:=hid hm;clear hm;obtain ⟨x,hx⟩: ∃x,getLE b 8 8=x:=⟨_,rfl⟩;rw [hx] at HG;have HX:=hid hx;clear hx;by_cases hxg:x=g
   ·subst hxg;have HT:Hid (Yv x b=true):=hid (by unfold Yv;rw [HM.out,HX.out];simp);have hcnt:((Kq b:Nat):Int)≤60:=by have:=HOK.out HT.out;omega
    have hcnt0:(0:Int)≤((Kq b:Nat):Int):=Qk _;have HG3:Hid (∀W,Qc W (.slice (some ⟨blk,off,none⟩) b.length cap) b Ku→Calls prog 225 #[.slice (some ⟨blk,off,none⟩) b.length cap,.int .i64 3] W fun e w'=>W=w'∧e= .returned (.int .u64 (Kq b))):=hid fun W hW=>EK W _ _ 3 hW.sliceOf (by omega) HL.out
    have HG2:Hid (∀W,Qc W (.slice (some ⟨blk,off,none⟩) b.length cap) b Ku→Calls prog 225 #[.slice (some ⟨blk,off,none⟩) b.length cap,.int .i64 2] W fun e w'=>W=w'∧e= .returned (.int .u64 (E2 b))):=hid fun W hW=>EK W _ _ 2 hW.sliceOf (by omega) HL.out
    have HGP:Hid (∀W (p:Nat),p≤508→Qc W (.slice (some ⟨blk,off,none⟩) b.length cap) b Ku→Calls prog 147 #[.slice (some ⟨blk,off,none⟩) b.length cap,.int .i64 p,.int .i64 4,.bool false] W fun e w'=>W=w'∧e= .returned (.tuple #[.int .u64 (getLE b p 4),.bool true])):=
     hid fun W p hp hW=>YJ W _ _ p 4 hW.sliceOf (by omega) (by omega) (by rw [HL.out];omega) (by rw [HL.out];omega)
    have HLT:Hid (∀p,p≤508→getLE b p 4<4294967296):=hid fun p hp=>EA b p 4 (by rw [HL.out];omega)
    clear HOK;generalize b.length=n512 at*
    obtain ⟨m,hm⟩: ∃m,Kq b=m:=⟨_,rfl⟩;rw [hm] at hcnt hcnt0 HG3;have HMM:=hid hm;clear hm;go_wp2_with fail;go_quiet ((go_at_call 225;exact Calls.quiet_of_same (HG.out _)));have H6:Hid (St w0 (w5.drewN nq) (byt (.slice (some ⟨blk,off,none⟩) n512 cap) b::rs)):=hid (H5.out.frm0 ((Frm.refl NoB w5).drewN _));clear hce hst HG;go_wp2_with fail;refine (HG3.out _ (H6.out.get (i:=0) rfl)).mono ?_;rintro e w6 ⟨rfl,rfl⟩;go_wp2_with fail;go_loopw [5,8,9,10,42] (fun v _ _ _ t wr=> ∃k:Nat,k≤m∧t= .int .i64 k∧St w0 wr (J4 v ((List.range k).map (EW b))::byt (.slice (some ⟨blk,off,none⟩) n512 cap) b::rs)) (fun _ _ _ _ t _=>m-(intOf t).toNat)
    case atStart=>exact ⟨0,Nat.zero_le _,rfl,H6.out.rowNil _ _ _⟩
    case round=>
     clear H6;obtain ⟨k,hk,rfl,hst⟩:=hrel;have HST:=hid hst;clear hst;by_cases hlt:k<m
     ·have hk0:(0:Int)≤(k:Int):=Qk _;have hk1:(k:Int)<(m:Int):=by omega
      obtain ⟨p,hp⟩: ∃p:Nat,32+4*k=p:=⟨_,rfl⟩;have hp2:32+4*(k:Int)=(p:Int):=by omega
      have hp3:p≤508:=by omega
      have HG4:=hid (HGP.out wr p hp3 (HST.out.get (i:=1) rfl));obtain ⟨y,hy⟩: ∃y,getLE b p 4=y:=⟨_,rfl⟩;rw [hy] at HG4;have hyl:y<4294967296:=hy▸HLT.out p hp3;have hy0:(0:Int)≤(y:Int):=Qk _;have hy1:(y:Int)<4294967296:=by omega
      have HY:Hid ((List.range (k+1)).map (EW b)=(List.range k).map (EW b)++ [y]):=hid (by
       rw [List.range_succ,List.map_append];have:EW b k=y:=by unfold EW;rw [hp];exact hy
       simp [this])
      have HLN:Hid (((List.range k).map (EW b)).length=k):=hid (by simp);obtain ⟨L,hL⟩: ∃L,(List.range k).map (EW b)=L:=⟨_,rfl⟩;rw [hL] at HY HLN HST;have HHP:=hid hp;clear hy hyl hp hp3 hL;go_wp2_with fail;refine HG4.out.mono ?_;clear HG4;rintro e w7 ⟨rfl,rfl⟩;have HO:=hid (World.ownsRow.alloc (HST.out.get (i:=0) rfl) (.cells #[.int .i64 (y:Int)] 3 (0,0)));obtain ⟨ii,hi0i,hz0,hz1,hz2⟩:=info_parts Qeg;have HN:Hid (∀(j:Nat) u,([.int .i64 (y:Int)]:List Value)[j]?=some u→(wr.alloc (.cells #[.int .i64 (y:Int)] 3 (0,0))).cell? ((⟨wr.heap.size,0,none⟩:Addr).add j)=some u):=hid (EV wr _ _);go_wp2_with (at_builtin;refine wpList_append_own_at _ rfl _ _ 64 rfl 0 3 ii (.int .i64 0) 1 8 underlying64 hi0i hz0 hz1 hz2 rfl (by decide) _ _ _ rfl HO.out ⟨wr.heap.size,0,none⟩ 1 1 [.int .i64 (y:Int)] rfl rfl HN.out ?c0 ?c1 ?c2 ?c3 ?_)
      case c0=>intro u hu;simp at hu;subst hu;rfl
      case c1=>rw [HLN.out];simp only [maxLen];omega
      case c2=>rw [HLN.out];omega
      case c3=>omega
      intro v' w8 ho hg2 hnn hat;have h7:=HST.out.rowAppend 0 rfl (.cells #[.int .i64 (y:Int)] 3 (0,0)) (m:=(L++ [y]).length) (ys:=(L++ [y]).map QdI) (by rw [List.length_append,List.map_append];exact ho) hg2 (by rw [size_alloc];first | exact hat | (rw [size_alloc] at hat;exact hat));have H7:=hid (show St w0 w8 (J4 v' (L++ [y])::byt (.slice (some ⟨blk,off,none⟩) n512 cap) b::rs) from h7);rw [←HY.out] at H7;clear ho hg2 hnn hat h7 HO HN;go_wp2
      first | exact ⟨⟨k+1,hlt,by go_num,H7.out⟩,by simp [intOf];omega⟩ | (go_roundw;case rel=>first | exact ⟨k+1,hlt,by go_num,H7.out⟩ | ((repeat apply Exists.intro);exact ⟨⟨k+1,hlt,by go_num,H7.out⟩,rfl⟩);case measure=>simp [intOf];omega)
     ·have hk1: ¬(k:Int)<(m:Int):=by omega
      have HKM:Hid (k=m):=hid (by omega);have HGT:=hid (HG2.out wr (HST.out.get (i:=1) rfl));go_wp2_with fail;refine HGT.out.mono ?_;clear HGT;rintro e w7 ⟨rfl,rfl⟩;go_wp2;go_ret2;refine KK.yes HT.out ?_;have e:Qae b=(List.range k).map (EW b):=by unfold Qae;rw [HMM.out,HKM.out]
      rw [e];exact HST.out.drop2nd
   ·have HT:Hid (Yv g b=false):=hid (by unfold Yv;rw [HX.out];simp [hxg]);have hb1:((x:Int)!=(g:Int))=true:=by rw [bne_iff_ne];omega
    clear hxg HOK;generalize b.length=n512 at*
    go_wp2_with fail;go_quiet ((go_at_call 225;exact Calls.quiet_of_same (HG.out _)));go_wp2;go_ret2;exact KK.no HT.out ((H5.out.frm0 ((Frm.refl NoB w5).drewN _)).drop 1)
  ·have hst: ∀k c2,(convert 76 9 (.slice (some ⟨blk,off,none⟩) 8 c2)).run prog (w5.drewN k)= .ok (.string ⟨(b.take 8).toArray⟩) (w5.drewN k):=fun k c2=>
    Ur (Qc.frm0 (H5.out.get (i:=0) rfl) ((Frm.refl NoB w5).drewN k)) hl8 c2
   have HT:Hid (Yv g b=false):=hid (by unfold Yv;simp [hm]);have hb1:(b.take 8== [66,79,76,76,65,82,68,72])=false:=by simpa [QU] using hm
   clear hm HG hce HOK;generalize b.length=n512 at*
   go_wp2_with fail;go_quiet (fail);go_wp2;go_ret2;exact KK.no HT.out ((H5.out.frm0 ((Frm.refl NoB w5).drewN _)).drop 1)
theorem QdB:prog.keyType 224=true:=by kernel_rfl
theorem WC:prog.cellsOf 224=2:=by kernel_rfl
theorem Qce (a b:Int) (wa:okI a) (wb:okI b):
 keyOf prog 224 (.agg #[.int .i64 a,.int .i64 b])=some (.string (keyBytes [.int .i64 a,.int .i64 b])):=by
 obtain ⟨d,hd⟩:=Ez;unfold keyOf;simp only [underlying224];rw [if_pos (by simp [QdB,Value.formed,underlying224,WC]),hd];unfold Program.keyLits;simp only [underlying224,Value.cells];rw [if_pos (by rw [WC];exact ⟨rfl,by decide+kernel⟩)];simp only [List.mapM_cons,List.mapM_nil,Wz,List.drop_zero,List.take_succ_cons,List.take_zero,List.drop_succ_cons,keyLits_int _ _ wa,keyLits_int _ _ wb];rfl
theorem QaW:JK prog 224 Ug okP:=by
 have K:WideMaps.KeyLaw prog 224:=deep_law_laid UE (m:=2) (by omega) (by decide+kernel) (by kernel_rfl) (by kernel_rfl);refine ⟨Go.Maps.Keyed.of_law K,fun a ha=>⟨_,Qce a.1 a.2 ha.1 ha.2⟩,fun a b h=>?_⟩;simp only [Ug,Value.agg.injEq] at h;have h0:=congrArg (fun x=>x[0]?) h;have h1:=congrArg (fun x=>x[1]?) h;simp at h0 h1;exact Prod.ext h0 h1
def chg (mb sl:Nat) (dt:List Blk):Res where
 M:=Q0 mb
 inv:=fun Z w=> ∃n f,Qn Ug okP w mb n f∧∀(i:Nat) b,dt[i]?=some b→∃v,f ((sl:Int),(i:Int))=some v∧Qc w v b (Off Z)
 lt:=fun Z w H x hx=>by obtain rfl:x=mb:=hx;obtain ⟨n,f,h,_⟩:=H;exact h.lt
 dry:=fun Z w H x hx c e=>by
  obtain rfl:x=mb:=hx;obtain ⟨n,f,⟨es,clock,h,_⟩,_⟩:=H;exact YO h c e
 keep:=fun Z w w' N H hf hd ha=>by
  obtain ⟨n,f,h,hb⟩:=H;refine ⟨n,f,h.of_block (hf.block mb h.lt (ha mb rfl)),fun i b hi=>?_⟩;obtain ⟨v,h1,h2⟩:=hb i b hi;exact ⟨v,h1,h2.frmZ hf hd⟩
 zone:=fun Z Z' w H hz _=>by
  obtain ⟨n,f,h,hb⟩:=H;refine ⟨n,f,h,fun i b hi=>?_⟩;obtain ⟨v,h1,h2⟩:=hb i b hi;exact ⟨v,h1,h2.zone hz⟩
theorem Kl (i:Nat) (h:i<1000000):okI (i:Int):=(Yx _).2 (by omega)
theorem St.chgNew {w0:Gnd} {w:World} {rs:List Res} (h:St w0 w rs) (sl:Nat):St w0 (w.alloc (.map #[] 0)) (chg w.heap.size sl []::rs):=
 h.make ((Frm.refl _ _).alloc _) (chg w.heap.size sl []) ⟨0,_,Qn.made w,fun i b hi=>by simp at hi⟩ (fun x hx=>by obtain rfl:x=w.heap.size:=hx;exact Nat.le_refl _)
theorem St.chgLook {w0:Gnd} {w:World} {rs:List Res} (h:St w0 w rs) {i mb sl:Nat} {dt:List Blk} (hr:rs[i]?=some (chg mb sl dt)) (k:Nat) {b:Blk} (hb:dt[k]?=some b) (hk:k<1000000) (hs:sl<1000000):
 ∃v,(∀W,W.heap[mb]?=w.heap[mb]?→(Instr.lookup 217 (.map (some mb)) (.agg #[.int .i64 sl,.int .i64 k]) false).run prog W= .ok v W)∧Qc w v b (Off w0.Z):=by
 obtain ⟨n,f,hm,hv⟩:=h.get hr;obtain ⟨v,h1,h2⟩:=hv k b hb;refine ⟨v,fun W hW=>?_,h2⟩;have:=hm.lookup QaW underlying217 (a:=((sl:Int),(k:Int))) ⟨Kl _ hs,Kl _ hk⟩ Om W hW;rw [h1] at this;exact this
theorem Oe {w0:Gnd} {w:World} {rs:List Res} (h:St w0 w rs) (i j:Nat) {H:Hdl} {D:DSt} {v:Value} {bs:Blk} (hr:rs[i]?=some (dev H D)) (hv:rs[j]?=some (byt v bs)) (k:Int) (ho:D.ops<4611686018427387904) (h0:0≤k) (hk:k<D.n) (hbs:bs.length=512):
 Calls prog 227 #[.pointer (some ⟨H.b,0,none⟩),.int .i64 k,v] w fun e w'=>e= .returned (.int .i64 (Jp [.wr k.toNat bs] D))∧St w0 w' (rs.set i (dev H (QL [.wr k.toNat bs] D))):=by
 by_cases ho2:D.off=true
 ·rw [Kf ho2,Kg ho2];exact Qdw h i hr k v ho ho2
 ·rw [VX ho2,VS ho2];exact OX h i j hr hv k ho (by simpa using ho2) h0 hk hbs
theorem E3 {w0:Gnd} {w:World} {rs:List Res} (h:St w0 w rs) (i:Nat) {H:Hdl} {D:DSt} (hr:rs[i]?=some (dev H D)) (ho:D.ops<4611686018427387903):
 Calls prog 143 #[.pointer (some ⟨H.b,0,none⟩)] w fun e w'=>e= .returned (.int .i64 (Jp [.fl] D))∧St w0 w' (rs.set i (dev H (QL [.fl] D))):=by
 by_cases ho2:D.off=true
 ·rw [Kf ho2,Kg ho2];exact QdH h i hr (by omega) ho2
 ·rw [VX ho2,VS ho2];exact Qbn h i hr ho (by simpa using ho2)
theorem UR (w:World) (n s:Nat) (hn:n<18446744073709551616) (hs:n%4=s):
 Calls prog 138 #[.int .u64 n] w fun e w'=>e= .returned (.int .i64 s)∧w'=w:=by
 subst hs;exact (QhD w n hn).mono fun _ _ ⟨a,b⟩=>⟨b,a.symm⟩
def U5 (w0:Gnd) (rs:List Res) (a:Nat) (H:Hdl) (l:List DOp) (D:DSt) (e:Ending) (w':World):Prop:=
 e= .returned (.int .i64 (Jp l D))∧St w0 w' (rs.set a (dev H (QL l D)))
theorem QcU {w0:Gnd} {w:World} {rs:List Res} (h:St w0 w rs) (a i p q:Nat) {H:Hdl} {D:DSt} {jb mb last sl:Nat} {ov:Value} {o:List Nat} {dt:List Blk} {c:Array Value} {ht: ¬U8T (219:TypeId)} (hr:rs[a]?=some (dev H D)) (hj:rs[i]?=some (arr jb c 219 ht))
 (hov:rs[p]?=some (J4 ov o)) (hmb:rs[q]?=some (chg mb sl dt)) (hc0:c[0]?=some (.pointer (some ⟨H.b,0,none⟩))) (hc2:c[2]?=some (.int .u64 last)) (hc4:c[4]?=some ov) (hc5:c[5]?=some (.map (some mb)))
 (hsl:last%4=sl) (hla:last<18446744073709551616) (hlen:dt.length=o.length) (ho60:o.length≤60) (hho: ∀k∈o,k<D.n) (hb512: ∀b∈dt,b.length=512) (ho:D.ops<1000000000) (hia:i≠a) (hpa:p≠a) (hqa:q≠a):
 Calls prog 142 #[.pointer (some ⟨jb,0,none⟩)] w (U5 w0 rs a H (Qi o dt) D):=by
 have H0:=hid h;obtain ⟨oa,ocap,rfl⟩:=h.rowILen hov;have c4:w.cell? ⟨jb,4,none⟩=some (.slice oa o.length ocap):=(h.arrCell hj 4).trans hc4;have KC:Hid (∀W X,St w0 W (rs.set a X)→W.cell? ⟨jb,0,none⟩=some (.pointer (some ⟨H.b,0,none⟩))∧W.cell? ⟨jb,2,none⟩=some (.int .u64 last)∧W.cell? ⟨jb,5,none⟩=some (.map (some mb))):=hid fun W X hW=>
  ⟨(hW.arrCell (i:=i) (by rw [List.getElem?_set_ne (Ne.symm hia)];exact hj) 0).trans hc0,(hW.arrCell (i:=i) (by rw [List.getElem?_set_ne (Ne.symm hia)];exact hj) 2).trans hc2,(hW.arrCell (i:=i) (by rw [List.getElem?_set_ne (Ne.symm hia)];exact hj) 5).trans hc5⟩
 obtain ⟨ha1,ha2⟩:=List.getElem?_eq_some_iff.1 hr;have hrs:rs.set a (dev H D)=rs:=by rw [←ha2];exact List.set_getElem_self ha1
 have HRS:=hid hrs;have HSL:Hid (∀W,Calls prog 138 #[.int .u64 last] W fun e w'=>e= .returned (.int .i64 sl)∧w'=W):=hid fun W=>UR W last sl hla hsl
 have hsl4:sl<4:=by omega
 have HHO:=hid hho;have HLEN:=hid hlen;have H512:=hid hb512;have HX:Hid (∀X,(rs.set a X)[a]?=some X):=hid fun X=>List.getElem?_set_self ha1
 have HOV:Hid (∀X,(rs.set a X)[p]?=some (J4 (.slice oa o.length ocap) o)):=hid fun X=>by rw [List.getElem?_set_ne (Ne.symm hpa)];exact hov
 have HMB:Hid (∀X,(rs.set a X)[q]?=some (chg mb sl dt)):=hid fun X=>by rw [List.getElem?_set_ne (Ne.symm hqa)];exact hmb
 have HD:=hid ho;clear h hrs ha2 ha1 hr hj hov hmb hc0 hc2 hc4 hc5 hho hlen hb512 hsl hla ho;go_enter func142,ntmps142;go_wp2_with fail;go_loopw [2,3,4,5,11] (fun _ _ _ _ t wr=> ∃k:Nat,k≤o.length∧t= .int .i64 k∧Jp (Qi (o.take k) (dt.take k)) D=0∧St w0 wr (rs.set a (dev H (QL (Qi (o.take k) (dt.take k)) D)))) (fun _ _ _ _ t _=>o.length-(intOf t).toNat)
 case atStart=>exact ⟨0,Nat.zero_le _,rfl,by simp [Qi,Jp],by simp only [List.take_zero,Qi,QL];rw [HRS.out];exact H0.out⟩
 case round=>
  clear H0 HRS c4;obtain ⟨k,hk,rfl,he,hst⟩:=hrel;have HST:=hid hst;have HE:=hid he;clear hst he;by_cases hlt:k<o.length
  ·have hk0:(0:Int)≤(k:Int):=Qk _;have hk1:(k:Int)<(o.length:Int):=by omega
   obtain ⟨x,hx⟩: ∃x,o[k]?=some x:=⟨_,List.getElem?_eq_getElem hlt⟩;obtain ⟨b,hb⟩: ∃b,dt[k]?=some b:=⟨_,List.getElem?_eq_getElem (by rw [HLEN.out];exact hlt)⟩;obtain ⟨gb,go,rfl,hgb,hcx⟩:=HST.out.rowICell (HOV.out _) hx;obtain ⟨v,hlk0,hbv⟩:=HST.out.chgLook (HMB.out _) k hb (by omega) (by omega);have hlk:(Instr.lookup 217 (.map (some mb)) (.agg #[.int .i64 sl,.int .i64 k]) false).run prog wr.drew= .ok v wr.drew:=hlk0 _ rfl;have hxn:x<D.n:=HHO.out x (List.mem_of_getElem? hx);have hbl:b.length=512:=H512.out b (List.mem_of_getElem? hb);obtain ⟨E,hE⟩: ∃E,QL (Qi (o.take k) (dt.take k)) D=E:=⟨_,rfl⟩;have HS:=hid (Uk o dt k x b hx hb);rw [hE] at HST;have hEn:E.n=D.n:=hE▸Ea _ _;have hEo:E.ops≤1000001000:=by
    have h1:=Ko (Qi (o.take k) (dt.take k)) D;rw [hE,Jo _ _ (by rw [List.length_take,List.length_take,HLEN.out])] at h1;have h2:=HD.out;rw [List.length_take] at h1;omega
   have HAP:=hid (YH (Qi (o.take k) (dt.take k)) [.wr x b] D HE.out);rw [hE,←HS.out] at HAP;have hkc:=KC.out _ _ HST.out;obtain ⟨k0,k2,k5⟩:=hkc;have HW:Hid (Calls prog 227 #[.pointer (some ⟨H.b,0,none⟩),.int .i64 x,v] wr.drew fun e w'=>e= .returned (.int .i64 (Jp [.wr x b] E))∧St w0 w' (rs.set a (dev H (QL [.wr x b] E)))):=by
    have h1:St w0 wr.drew (byt v b::rs.set a (dev H E)):=(HST.out.mkByt (Frm.refl _ _) hbv).frm0 ((Frm.refl NoB wr).drew);have:=Oe h1 (a+1) 0 (HX.out _) rfl (x:Int) (by omega) (by omega) (by omega) hbl;refine hid (this.mono fun e w' ⟨h1,h2⟩=>⟨h1,?_⟩);have h3:=h2.drop 1;rw [show (x:Int).toNat=x from by omega] at h3;simp only [List.set_cons_succ,List.drop_succ_cons,List.drop_zero,List.set_set] at h3;exact h3
   clear hx hb hE hEn hEo hbl hxn hbv hlk0 hgb;go_wp2_with fail;refine wp_region_still_tail 17 (by kernel_rfl) (by kernel_rfl) ?_;simp only [List.take_succ_cons,List.take_zero,List.drop_succ_cons,List.drop_zero]
   repeat still_step
   still_call (HSL.out _)
   repeat still_step
   refine wpStill_nil ?_;change wpList _ _ _ _ _ wr.drew;go_wp2_with fail;refine HW.out.mono ?_;rintro e w2 ⟨he,h2⟩;rcases Ym [.wr x b] E with e0 | e9
   ·rw [e0] at he;subst he;have hend:Jp (Qi (o.take (k+1)) (dt.take (k+1))) D=0:=HAP.out.2.trans e0;rw [←HAP.out.1] at h2;have H2:=hid h2;have HE2:=hid hend;clear h2 hend e0 HW hlk k0 k2 k5 hcx;go_wp2
    first | exact ⟨⟨k+1,hlt,by go_num,HE2.out,H2.out⟩,by simp [intOf];omega⟩ | (go_roundw;case rel=>first | exact ⟨k+1,hlt,by go_num,HE2.out,H2.out⟩ | ((repeat apply Exists.intro);exact ⟨⟨k+1,hlt,by go_num,HE2.out,H2.out⟩,rfl⟩);case measure=>simp [intOf];omega)
   ·rw [e9] at he;subst he;have hst2:=Vo (Qi (o.take (k+1)) (dt.take (k+1))) (Qi (o.drop (k+1)) (dt.drop (k+1))) D (HAP.out.2.trans e9);have hsp:=Ue o dt (k+1);rw [hsp] at hst2;rw [←HAP.out.1,←hst2.1] at h2;have H2:=hid h2;have HE2:=hid hst2.2;clear h2 e9 HW hlk k0 k2 k5 hcx hst2 hsp;go_wp2;go_ret;exact ⟨by rw [HE2.out];rfl,H2.out⟩
  ·have hk1: ¬(k:Int)<(o.length:Int):=by omega
   have hkl:k=o.length:=by omega
   have HE2:Hid (Jp (Qi o dt) D=0):=hid (by have:=HE.out;rw [hkl,List.take_length,←HLEN.out,List.take_length] at this;exact this);have H2:Hid (St w0 wr (rs.set a (dev H (QL (Qi o dt) D)))):=hid (by have:=HST.out;rw [hkl,List.take_length,←HLEN.out,List.take_length] at this;exact this);clear hkl HE HST;go_wp2;go_ret;exact ⟨by rw [HE2.out];rfl,H2.out⟩
def Res.and (r s:Res):Res where
 M:=fun x=>r.M x∨s.M x
 inv:=fun Z w=>r.inv Z w∧s.inv Z w∧∀x,r.M x→¬s.M x
 lt:=fun Z w H x hx=>hx.elim (r.lt Z w H.1 x) (s.lt Z w H.2.1 x)
 dry:=fun Z w H x hx=>hx.elim (r.dry Z w H.1 x) (s.dry Z w H.2.1 x)
 keep:=fun Z w w' N H hf hd ha=>⟨r.keep Z w w' N H.1 hf hd (fun x hx=>ha x (.inl hx)),s.keep Z w w' N H.2.1 hf hd (fun x hx=>ha x (.inr hx)),H.2.2⟩
 zone:=fun Z Z' w H h1 h2=>⟨r.zone Z Z' w H.1 h1 h2,s.zone Z Z' w H.2.1 h1 h2,H.2.2⟩
theorem St.join {w0:Gnd} {w:World} {r s:Res} {rs:List Res} (h:St w0 w (r::s::rs)):St w0 w (r.and s::rs):=by
 obtain ⟨h1,h2⟩:=List.pairwise_cons.1 h.apart;obtain ⟨h3,h4⟩:=List.pairwise_cons.1 h2;refine ⟨h.base,h.zin,fun a ha=>?_,fun a ha x hx=>?_,List.pairwise_cons.2 ⟨fun b hb x hx=>?_,h4⟩⟩
 ·rcases List.mem_cons.1 ha with rfl | ha
  ·exact ⟨h.inv r (by simp),h.inv s (by simp),h1 s (by simp)⟩
  ·exact h.inv a (by simp [ha])
 ·rcases List.mem_cons.1 ha with rfl | ha
  ·rcases hx with hx | hx
   ·exact h.new r (by simp) x hx
   ·exact h.new s (by simp) x hx
  ·exact h.new a (by simp [ha]) x hx
 ·rcases hx with hx | hx
  ·exact h1 b (by simp [hb]) x hx
  ·exact h3 b hb x hx
theorem St.part {w0:Gnd} {w:World} {r s:Res} {rs:List Res} (h:St w0 w (r.and s::rs)):St w0 w (r::s::rs):=by
 obtain ⟨h1,h2⟩:=List.pairwise_cons.1 h.apart;obtain ⟨i1,i2,i3⟩:=h.inv (r.and s) (by simp);refine ⟨h.base,h.zin,fun a ha=>?_,fun a ha x hx=>?_,List.pairwise_cons.2 ⟨fun b hb x hx=>?_,List.pairwise_cons.2 ⟨fun b hb x hx=>h1 b hb x (.inr hx),h2⟩⟩⟩
 ·rcases List.mem_cons.1 ha with rfl | ha
  ·exact i1
  ·rcases List.mem_cons.1 ha with rfl | ha
   ·exact i2
   ·exact h.inv a (by simp [ha])
 ·rcases List.mem_cons.1 ha with rfl | ha
  ·exact h.new (a.and s) (by simp) x (.inl hx)
  ·rcases List.mem_cons.1 ha with rfl | ha
   ·exact h.new (r.and a) (by simp) x (.inr hx)
   ·exact h.new a (by simp [ha]) x hx
 ·rcases List.mem_cons.1 hb with rfl | hb
  ·exact i3 x hx
  ·exact h1 b hb x (.inl hx)
def QkI:Res where
 M:=NoB
 inv:=fun _ _=>True
 lt:=fun _ _ _ _ h=>h.elim
 dry:=fun _ _ _ _ h=>h.elim
 keep:=fun _ _ _ _ _ _ _ _=>trivial
 zone:=fun _ _ _ _ _ _=>trivial
structure JSt where
 gen:Nat
 last:Nat
 dead:Bool
 order:List Nat
 data:List Blk
structure K9 where
 jb:Nat
 ov:Value
 mb:Nat
def Ol (H:Hdl) (h:K9) (J:JSt):Array Value:= #[.pointer (some ⟨H.b,0,none⟩),.int .u64 J.gen,.int .u64 J.last,.bool J.dead,h.ov,.map (some h.mb)]
def jrn (H:Hdl) (h:K9) (J:JSt):Res:=(arr h.jb (Ol H h J) 219 JF).and ((J4 h.ov J.order).and (chg h.mb (J.last%4) J.data))
theorem St.jOpen {w0:Gnd} {w:World} {rs:List Res} {H:Hdl} {h:K9} {J:JSt} (hs:St w0 w (jrn H h J::rs)):St w0 w (arr h.jb (Ol H h J) 219 JF::J4 h.ov J.order::chg h.mb (J.last%4) J.data::rs):=by
 have h1:=hs.part;have h2:=h1.perm (rs':=(J4 h.ov J.order).and (chg h.mb (J.last%4) J.data)::arr h.jb (Ol H h J) 219 JF::rs) (List.Perm.swap _ _ _);exact h2.part.perm ((List.Perm.cons _ (List.Perm.swap _ _ _)).trans (List.Perm.swap _ _ _))
theorem St.jShut {w0:Gnd} {w:World} {rs:List Res} {H:Hdl} {h:K9} {J:JSt} (hs:St w0 w (arr h.jb (Ol H h J) 219 JF::J4 h.ov J.order::chg h.mb (J.last%4) J.data::rs)):St w0 w (jrn H h J::rs):=by
 have h1:=hs.perm (rs':=J4 h.ov J.order::chg h.mb (J.last%4) J.data::arr h.jb (Ol H h J) 219 JF::rs) ((List.Perm.swap _ _ _).trans (List.Perm.cons _ (List.Perm.swap _ _ _)));exact (h1.join.perm (List.Perm.swap _ _ _)).join
theorem Wb: ∀(o:List Nat) (dt:List Blk) (C:Nat→Blk) (i k:Nat) (b:Blk),o[i]?=some k→dt[i]?=some b→(∀j,j<i→o[j]?≠some k)→QH o dt C k=b
 | [],_,_,_,_,_,h,_,_=>by simp at h
 | x::o,[],_,_,_,_,_,h,_=>by simp at h
 | x::o,c::dt,C,0,k,b,h1,h2,_=>by
   simp at h1 h2;subst h1 h2;unfold QH;rw [if_pos rfl]
 | x::o,c::dt,C,i+1,k,b,h1,h2,h3=>by
   simp only [List.getElem?_cons_succ] at h1 h2;have hne: ¬x=k:=fun e=>h3 0 (by omega) (by simp [e])
   unfold QH;rw [if_neg hne];exact Wb o dt C i k b h1 h2 (fun j hj=>by have:=h3 (j+1) (by omega);simpa using this)
def VZ (J:JSt) (D:DSt) (k:Nat):Blk:=QH J.order J.data D.last k
theorem QcB {w0:Gnd} {w:World} {rs:List Res} (h:St w0 w rs) (a i p q:Nat) {H:Hdl} {D:DSt} {jb mb last sl:Nat} {ov:Value} {o:List Nat} {dt:List Blk} {c:Array Value} {ht: ¬U8T (219:TypeId)} (hr:rs[a]?=some (dev H D)) (hj:rs[i]?=some (arr jb c 219 ht))
 (hov:rs[p]?=some (J4 ov o)) (hmb:rs[q]?=some (chg mb sl dt)) (hc0:c[0]?=some (.pointer (some ⟨H.b,0,none⟩))) (hc2:c[2]?=some (.int .u64 last)) (hc4:c[4]?=some ov) (hc5:c[5]?=some (.map (some mb)))
 (hsl:last%4=sl) (hla:last<18446744073709551616) (hlen:dt.length=o.length) (ho60:o.length≤60) (hb512: ∀b∈dt,b.length=512) (ho:D.ops<1000000000) (k:Int) (hk0:245≤k) (hk1:k<(D.n:Int)):
 Calls prog 64 #[.pointer (some ⟨jb,0,none⟩),.int .i64 k] w fun e w'=> ∃v,e= .returned (.tuple #[v,.int .i64 0])∧Frm NoB w w'∧Qc w' v (QH o dt D.last k.toNat) (QR w):=by
 have HB:=hid (Qhu h a i hr hj hc0 k);have hT:(decide (245≤k) && decide (k<(D.n:Int)))=true:=by rw [decide_eq_true hk0,decide_eq_true hk1];rfl
 rw [hT] at HB;have H0:=hid h;have HIX:=hid (Qfm w ov (o.map fun k:Nat=>(k:Int)) k (U7 (h.get hov)) (by rw [List.length_map];omega));have c0:w.cell? ⟨jb,0,none⟩=some (.pointer (some ⟨H.b,0,none⟩)):=(h.arrCell hj 0).trans hc0;have c2:w.cell? ⟨jb,2,none⟩=some (.int .u64 last):=(h.arrCell hj 2).trans hc2;have c4:w.cell? ⟨jb,4,none⟩=some ov:=(h.arrCell hj 4).trans hc4;have c5:w.cell? ⟨jb,5,none⟩=some (.map (some mb)):=(h.arrCell hj 5).trans hc5;have HRD:=hid (Qa4 w H D (h.get hr) k (by omega) hk1 (by omega));have HSL:Hid (∀W,Calls prog 138 #[.int .u64 last] W fun e w'=>e= .returned (.int .i64 sl)∧w'=W):=hid fun W=>UR W last sl hla hsl
 have hsl4:sl<4:=by omega
 have HLEN:=hid hlen;have H512:=hid hb512;have HMB:=hid hmb;clear h hT hr hj hov hc0 hc2 hc4 hc5 hlen hb512 hsl hla hmb ho;go_enter func64,ntmps64;go_wp2_with fail;refine HB.out.mono ?_;rintro e w2 ⟨rfl,rfl⟩;go_wp2_with fail;refine HIX.out.mono ?_;rintro e w3 ⟨rfl,r,rfl,hfst⟩;rcases hfst with ⟨x,hx1,hx2,hx3⟩ | ⟨hx1,hx2⟩
 ·have hox:o[x]?=some k.toNat:=by
   rw [List.getElem?_map] at hx2;cases hq:o[x]? with
   | none=>rw [hq] at hx2;cases hx2
   | some y=>rw [hq] at hx2;simp at hx2;rw [←hx2];simp
  have hxl:x<o.length:=(List.getElem?_eq_some_iff.1 hox).1;obtain ⟨b,hb⟩: ∃b,dt[x]?=some b:=⟨_,List.getElem?_eq_getElem (by rw [HLEN.out];exact hxl)⟩;obtain ⟨v,hlk0,hbv⟩:=H0.out.chgLook HMB.out x hb (by omega) (by omega);have hOV:Hid (QH o dt D.last k.toNat=b):=hid (Wb o dt _ x _ b hox hb (fun j hj e=>hx3 j hj (by rw [List.getElem?_map,e];simp;omega)));have hbl:b.length=512:=H512.out b (List.mem_of_getElem? hb);have hlk:(Instr.lookup 217 (.map (some mb)) (.agg #[.int .i64 sl,.int .i64 x]) false).run prog w.drew= .ok v w.drew:=hlk0 _ rfl;have HBV:Hid (Qc w.drew v b (Off w0.Z)):=hid (hbv.frm0 ((Frm.refl NoB w).drew));have HCL:Hid (Calls prog 146 #[v] w.drew fun e w'=> ∃v',e= .returned v'∧Frm NoB w w'∧Qc w' v' b (QR w)):=hid ((Vn w.drew v b (Off w0.Z) HBV.out (by omega)).mono fun e w' ⟨hf,v',e1,hb1⟩=>⟨v',e1,((Frm.refl NoB w).drew).trans hf (fun _ _ e=>e),hb1.fresh (Nat.le_refl _)⟩);subst hx1;have hx0:(0:Int)≤(x:Int):=Qk _;clear hlk0 hbv hbl hb hox hx2 hx3 hxl c4;go_wp2_with fail;refine wp_region_still_tail 12 (by kernel_rfl) (by kernel_rfl) ?_;simp only [List.take_succ_cons,List.take_zero,List.drop_succ_cons,List.drop_zero]
  repeat still_step
  still_call (HSL.out _)
  repeat still_step
  refine wpStill_nil ?_;change wpList _ _ _ _ _ w.drew;go_wp2_with fail;refine HCL.out.mono ?_;rintro e w4 ⟨v',rfl,h4⟩;have H4:=hid h4;clear h4;go_wp2;go_ret2;exact ⟨_,rfl,by rw [hOV.out];exact H4.out⟩
 ·have hOV:Hid (QH o dt D.last k.toNat=D.last k.toNat):=hid (UI _ _ _ _ (fun hm=>by
   obtain ⟨x,hx⟩:=List.getElem?_of_mem hm;exact hx2 x (by rw [List.getElem?_map,hx];simp;omega)))
  subst hx1;clear hx2 c4;go_wp2_with fail;refine HRD.out.mono ?_;rintro e w4 ⟨v',rfl,h4b,h4f⟩;have h4:=And.intro h4f h4b;clear h4b h4f;have H4:=hid h4;clear h4;go_wp2;go_ret2;exact ⟨_,rfl,by rw [hOV.out];exact H4.out⟩
theorem Qip {w0:Gnd} {w:World} {rs:List Res} (h:St w0 w rs) (a i p q:Nat) {H:Hdl} {D:DSt} {jb mb last sl:Nat} {ov:Value} {o:List Nat} {dt:List Blk} {c:Array Value} {ht: ¬U8T (219:TypeId)} (hr:rs[a]?=some (dev H D)) (hj:rs[i]?=some (arr jb c 219 ht))
 (hov:rs[p]?=some (J4 ov o)) (hmb:rs[q]?=some (chg mb sl dt)) (hc0:c[0]?=some (.pointer (some ⟨H.b,0,none⟩))) (hc2:c[2]?=some (.int .u64 last)) (hc4:c[4]?=some ov) (hc5:c[5]?=some (.map (some mb)))
 (hsl:last%4=sl) (hla:last<18446744073709551616) (hlen:dt.length=o.length) (ho60:o.length≤60) (hb512: ∀b∈dt,b.length=512) (ho:D.ops<1000000000) (k:Int) (hk0:245≤k) (hk1:k<(D.n:Int)):
 Calls prog 64 #[.pointer (some ⟨jb,0,none⟩),.int .i64 k] w fun e w'=> ∃v,e= .returned (.tuple #[v,.int .i64 0])∧St w0 w' (byt v (QH o dt D.last k.toNat)::rs):=
 (QcB h a i p q hr hj hov hmb hc0 hc2 hc4 hc5 hsl hla hlen ho60 hb512 ho k hk0 hk1).mono fun _ _ ⟨v,e,hf,hb⟩=>⟨v,e,h.mkByt hf hb⟩
theorem St.chgPut {w0:Gnd} {w:World} {rs:List Res} (h:St w0 w rs) (i:Nat) {mb sl:Nat} {dt:List Blk} (hr:rs[i]?=some (chg mb sl dt)) (v:Value) (b:Blk) (hv:Qc w v b (Off w0.Z)) (hl:dt.length<1000000) (hs:sl<1000000) (k:Nat) (hk:k=dt.length):
 ∃o,(Instr.mapUpdate 217 (.map (some mb)) (.agg #[.int .i64 sl,.int .i64 k]) v).run prog w= .ok () (setBlock w mb o)∧St w0 (setBlock w mb o) (rs.set i (chg mb sl (dt++ [b]))):=by
 subst hk;obtain ⟨n,f,hm,hf⟩:=h.get hr;obtain ⟨o,q1,q2⟩:=hm.update QaW underlying217 (a:=((sl:Int),(dt.length:Int))) ⟨Kl _ hs,Kl _ hl⟩ v;have hno: ∀(u:Value) (x:Blk),Qc w u x (Off w0.Z)→Qc (setBlock w mb o) u x (Off w0.Z):=fun u x hu=>hu.of_block fun y c _ hc=>Qm _ rfl fun e=>by
  subst e;obtain ⟨es,cl,h1,_⟩:=hm;exact YO h1 c hc
 refine ⟨o,q1 w rfl,h.write i hr ((Frm.refl (Q0 mb) w).setBlock (.inl rfl) o) (chg mb sl (dt++ [b])) ⟨_,_,q2 w hm.lt,fun j x hx=>?_⟩ (fun _ hx=> .inl hx)⟩;rcases Nat.lt_trichotomy j dt.length with hj | hj | hj
 ·rw [List.getElem?_append_left hj] at hx;obtain ⟨u,h1,h2⟩:=hf j x hx;refine ⟨u,?_,hno u x h2⟩;unfold upd;rw [if_neg (by intro e;injection e with _ e;omega)];exact h1
 ·subst hj;rw [List.getElem?_append_right (Nat.le_refl _),Nat.sub_self] at hx;simp at hx;subst hx;exact ⟨v,by unfold upd;rw [if_pos rfl],hno v b hv⟩
 ·rw [List.getElem?_eq_none (by simp;omega)] at hx;cases hx
def Qiz (g:Nat) (b:Blk):Nat:=if Yv g b then E2 b else 0
def Qjx (g:Nat) (b:Blk):List Nat:=if Yv g b then Qae b else []
theorem QfW (g:Nat) (C:Nat→Blk) (i:Nat):Q5 g C (i+1)=if (Q5 g C i).1<Qiz g (C (Qp i)) then (Qiz g (C (Qp i)),Qjx g (C (Qp i))) else Q5 g C i:=by
 conv=>lhs;unfold Q5
 unfold Qiz Qjx;by_cases h:Yv g (C (Qp i))=true
 ·simp only [h,if_true,true_and]
 ·rw [if_neg (fun x=>h x.1),if_neg h,if_neg (by omega)]
def Qja (w0:Gnd) (rs:List Res) (a:Nat) (H:Hdl) (D:DSt) (g last:Nat) (o:List Nat) (dt:List Blk) (e:Ending) (w':World):Prop:=
 (Jp (QK o dt) D=0∧∃jh:K9,e= .returned (.tuple #[.pointer (some ⟨jh.jb,0,none⟩),.int .i64 0])∧St w0 w' (jrn H jh ⟨g,last,false,[],[]⟩::rs.set a (dev H (QL (QK o dt) D))))∨
 (Jp (QK o dt) D=9∧e= .returned (.tuple #[.pointer none,.int .i64 9])∧St w0 w' (rs.set a (dev H (QL (QK o dt) D))))
theorem St.chgTurn {w0:Gnd} {w:World} {rs:List Res} (h:St w0 w rs) (i:Nat) {mb sl:Nat} (hr:rs[i]?=some (chg mb sl [])) (sl':Nat):St w0 w (rs.set i (chg mb sl' [])):=by
 obtain ⟨n,f,hm,_⟩:=h.get hr;exact h.write i hr (Frm.refl _ _) (chg mb sl' []) ⟨n,f,hm,fun j b hj=>by simp at hj⟩ (fun _ hx=> .inl hx)
theorem Qbp (W:World):(Instr.makeMap 217 none).run prog W= .ok (.map (some W.heap.size)) (W.alloc (.map #[] 0)):=rfl
theorem QaN:QE prog 142:=QJ func142 (by kernel_rfl) rfl
theorem YM.dt512 {n g last:Nat} {C:Nat→Blk} {o:List Nat} {dt:List Blk} (h:YM n g C last o dt) (hC: ∀k,(C k).length=512): ∀b∈dt,b.length=512:=fun b hb=>by
 rcases h.chosen with ⟨_,_,h3⟩ | ⟨_,_,_,_,h5⟩
 ·rw [h3] at hb;cases hb
 ·rw [h5] at hb;unfold WE at hb;obtain ⟨i,_,rfl⟩:=List.mem_map.1 hb;exact hC _
theorem Qkm {w0:Gnd} {w:World} {rs:List Res} (h:St w0 w rs) (a:Nat) {H:Hdl} {D:DSt} (hr:rs[a]?=some (dev H D)) {g last:Nat} {o:List Nat} {dt:List Blk} (hd:YM D.n g D.last last o dt) (hn:246≤D.n) (hla:last<18446744073709551616) (hg:g<18446744073709551616) (ho:D.ops<1000000000):
 Calls prog 63 #[.pointer (some ⟨H.b,0,none⟩)] w (Qja w0 rs a H D g last o dt):=by
 have HB:=hid (Kk h a hr);have HF:=hid (Qa1 h a hr (by omega) (by omega));rw [hd.gen,hd.magic] at HF;have hn': ¬(D.n:Int)<246:=by omega
 have HR:=hid hr;have HDI:=hid hd;have HLA:=hid hla;have HGG:=hid hg;have HO:=hid ho;have HN:=hid hn;have H512:=hid (hd.dt512 (fun k=>DSt.last_length (h.get hr).wf k));clear h hr hd hla hg ho hn;go_enter func63,ntmps63;go_wp2_with fail;refine HB.out.mono ?_;rintro e w2 ⟨rfl,rfl⟩;go_wp2_with fail;refine HF.out.mono ?_;rintro e w3 ⟨rfl,h3⟩;have H3:=hid h3;clear h3 HB HF;have hmk:=Qbp w3;have H4:Hid (St w0 ((w3.alloc (.map #[] 0)).alloc (.cells #[.pointer (some ⟨H.b,0,none⟩),.int .u64 g,.int .u64 0,.bool false,.slice none 0 0,.map (some w3.heap.size)] 219 (0,0)))
  (arr (w3.heap.size+1) #[.pointer (some ⟨H.b,0,none⟩),.int .u64 g,.int .u64 0,.bool false,.slice none 0 0,.map (some w3.heap.size)] 219 JF::J4 (.slice none 0 0) []::chg w3.heap.size 0 []::rs)):=hid (by
  have h1:=(H3.out.chgNew 0).rowNil 3 Jj 1;have h2:=h1.newArr #[.pointer (some ⟨H.b,0,none⟩),.int .u64 g,.int .u64 0,.bool false,.slice none 0 0,.map (some w3.heap.size)] 219 JF;rw [size_alloc] at h2;exact h2)
 clear H3;go_wp2_with fail;clear hmk;generalize w3.heap.size=mb at*
 generalize mb+1=jb at*
 go_loopw [7,8,9,28] (fun _ _ _ t wr=> ∃(k:Nat) (ov:Value),k≤4∧t= .int .i64 k∧St w0 wr (arr jb #[.pointer (some ⟨H.b,0,none⟩),.int .u64 g,.int .u64 ((Q5 g D.last k).1:Nat),.bool false,ov,.map (some mb)] 219 JF::J4 ov (Q5 g D.last k).2::chg mb 0 []::rs)) (fun _ _ _ t _=>4-(intOf t).toNat)
 case atStart=>exact ⟨0,_,Nat.zero_le _,rfl,H4.out⟩
 case round=>
  clear H4;obtain ⟨k,ov,hk,rfl,hst⟩:=hrel;have HST:=hid hst;clear hst;by_cases hlt:k<4
  ·have hk0:(0:Int)≤(k:Int):=Qk _;have hk1:(k:Int)<4:=by omega
   have HP:=hid (QfW g D.last k);have HH:Hid (Calls prog 137 #[.pointer (some ⟨jb,0,none⟩),.int .i64 k] wr (KK w0 (arr jb #[.pointer (some ⟨H.b,0,none⟩),.int .u64 g,.int .u64 ((Q5 g D.last k).1:Nat),.bool false,ov,.map (some mb)] 219 JF::J4 ov (Q5 g D.last k).2::chg mb 0 []::rs) g (D.last (Qp k)))):=
    hid (Qgx HST.out (a+3) 0 HR.out rfl rfl rfl k hlt HN.out (by have:=HO.out;omega) _ rfl (fun hx=>(HDI.out.slots k hlt hx).1))
   obtain ⟨n0,hn0⟩: ∃n,(Q5 g D.last k).1=n:=⟨_,rfl⟩;obtain ⟨l0,hl0⟩: ∃l,(Q5 g D.last k).2=l:=⟨_,rfl⟩;obtain ⟨n1,hn1⟩: ∃n,Qiz g (D.last (Qp k))=n:=⟨_,rfl⟩;obtain ⟨l1,hl1⟩: ∃l,Qjx g (D.last (Qp k))=l:=⟨_,rfl⟩;have HH:Hid (Calls prog 137 #[.pointer (some ⟨jb,0,none⟩),.int .i64 k] wr fun e w'=> ∃v,e= .returned (.tuple #[.int .u64 n1,v])∧St w0 w' (J4 v l1::arr jb #[.pointer (some ⟨H.b,0,none⟩),.int .u64 g,.int .u64 n0,.bool false,ov,.map (some mb)] 219 JF::J4 ov l0::chg mb 0 []::rs)):=hid (HH.out.mono fun e w' hx=>by
    obtain ⟨v,h1,h2⟩:=hx;rw [hn0,hl0] at h2;refine ⟨v,?_,?_⟩
    ·rw [h1,←hn1];rfl
    ·rw [←hl1];exact h2)
   rw [hn1,hl1,hn0] at HP;have HPE:Hid (Q5 g D.last k=(n0,l0)):=hid (by rw [←hn0,←hl0]);rw [HPE.out] at HP;clear hn0 hl0 hn1 hl1 HST;go_wp2_with fail;refine HH.out.mono ?_;clear HH;rintro e w4 ⟨v,rfl,h4⟩;have H4:=hid h4;have c2:w4.cell? ⟨jb,2,none⟩=some (.int .u64 n0):=(h4.arrCell (i:=1) rfl 2).trans rfl;clear h4;obtain ⟨va,vc,rfl⟩:=H4.out.rowILen (i:=0) rfl;by_cases hgt:n0<n1
   ·have hgt2:(n0:Int)<(n1:Int):=by omega
    have fz:w4.frozen? ⟨jb,2,none⟩=false:=H4.out.arrFree (i:=1) rfl 2;have c4:w4.cell? ⟨jb,4,none⟩=some ov:=(H4.out.arrCell (i:=1) rfl 4).trans rfl;have fz4:w4.frozen? ⟨jb,4,none⟩=false:=H4.out.arrFree (i:=1) rfl 4;have h5:=(H4.out.setArr 1 rfl 2 (.int .u64 n1)).setArr 1 rfl 4 (.slice va l1.length vc);have h6:St w0 _ (arr jb #[.pointer (some ⟨H.b,0,none⟩),.int .u64 g,.int .u64 n1,.bool false,.slice va l1.length vc,.map (some mb)] 219 JF::J4 (.slice va l1.length vc) l1::chg mb 0 []::rs):=h5.swap.drop3rd;have H6:Hid (St w0 _ (arr jb #[.pointer (some ⟨H.b,0,none⟩),.int .u64 g,.int .u64 ((Q5 g D.last (k+1)).1:Nat),.bool false,.slice va l1.length vc,.map (some mb)] 219 JF::J4 (.slice va l1.length vc) (Q5 g D.last (k+1)).2::chg mb 0 []::rs)):=hid (by
     rw [HP.out,if_pos hgt];exact h6)
    clear h5 h6 hgt;go_wp2
    first | exact ⟨⟨k+1,_,hlt,by go_num,H6.out⟩,by simp [intOf];omega⟩ | (go_roundw;case rel=>first | exact ⟨k+1,_,hlt,by go_num,H6.out⟩ | ((repeat apply Exists.intro);exact ⟨⟨k+1,_,hlt,by go_num,H6.out⟩,rfl⟩);case measure=>simp [intOf];omega)
   ·have hgt2: ¬(n0:Int)<(n1:Int):=by omega
    have H6:Hid (St w0 w4 (arr jb #[.pointer (some ⟨H.b,0,none⟩),.int .u64 g,.int .u64 ((Q5 g D.last (k+1)).1:Nat),.bool false,ov,.map (some mb)] 219 JF::J4 ov (Q5 g D.last (k+1)).2::chg mb 0 []::rs)):=hid (by
     rw [HP.out,if_neg hgt];exact H4.out.drop 1)
    clear hgt;go_wp2
    first | exact ⟨⟨k+1,_,hlt,by go_num,H6.out⟩,by simp [intOf];omega⟩ | (go_roundw;case rel=>first | exact ⟨k+1,_,hlt,by go_num,H6.out⟩ | ((repeat apply Exists.intro);exact ⟨⟨k+1,_,hlt,by go_num,H6.out⟩,rfl⟩);case measure=>simp [intOf];omega)
  ·have hk1: ¬(k:Int)<4:=by omega
   obtain rfl:k=4:=by omega
   have HP:=hid HDI.out.pick;have H5:=HST.out;rw [HP.out] at H5;clear hk HST HP;obtain ⟨oa,ocap,rfl⟩:=H5.rowILen (i:=1) rfl;have H5:=hid H5;have c4:wr.cell? ⟨jb,4,none⟩=some (.slice oa o.length ocap):=(H5.out.arrCell (i:=0) rfl 4).trans rfl;go_wp2_with fail;have H5:Hid (St w0 wr (arr jb #[.pointer (some ⟨H.b,0,none⟩),.int .u64 g,.int .u64 last,.bool false,.slice oa o.length ocap,.map (some mb)] 219 JF::J4 (.slice oa o.length ocap) o::chg mb (last%4) []::rs)):=hid (H5.out.chgTurn 2 rfl (last%4));have HSL:Hid (∀W,Calls prog 138 #[.int .u64 last] W fun e w'=>e= .returned (.int .i64 ((last%4:Nat):Int))∧w'=W):=hid fun W=>UR W last (last%4) HLA.out rfl
   obtain ⟨sl,hsl⟩: ∃sl,last%4=sl:=⟨_,rfl⟩;have hsl4:sl<4:=by omega
   have hsl5:(0:Int)≤(sl:Int):=Qk _;have hsl6:(sl:Int)≤3:=by omega
   rw [hsl] at H5 HSL;have HSS:=hid hsl;clear hsl;go_loopw [10,11,57] (fun _ _ t wr=> ∃k:Nat,k≤o.length∧t= .int .i64 k∧St w0 wr (arr jb #[.pointer (some ⟨H.b,0,none⟩),.int .u64 g,.int .u64 last,.bool false,.slice oa o.length ocap,.map (some mb)] 219 JF::J4 (.slice oa o.length ocap) o::chg mb sl (dt.take k)::rs)) (fun _ _ t _=>o.length-(intOf t).toNat)
   case atStart=>exact ⟨0,Nat.zero_le _,rfl,H5.out⟩
   case round=>
    clear H5 c4;obtain ⟨k,hk,rfl,hst⟩:=hrel;have HST:=hid hst;by_cases hlt:k<o.length
    ·have hk0:(0:Int)≤(k:Int):=Qk _;have hk1:(k:Int)<(o.length:Int):=by omega
     have c2:wr.cell? ⟨jb,2,none⟩=some (.int .u64 last):=(hst.arrCell (i:=0) rfl 2).trans rfl;clear hst;go_wp2_with fail;refine (HSL.out _).mono ?_;rintro e w4 ⟨rfl,rfl⟩;have H6:=hid (HST.out.newArr #[.int .i64 sl,.int .i64 k] 224 (by decide));go_wp2_with fail;obtain ⟨w5,hw5⟩: ∃w5,w5=w4.alloc (.cells #[.int .i64 sl,.int .i64 k] 224 (0,0)):=⟨_,rfl⟩;rw [←hw5] at H6 ⊢;clear hw5 c2 HST;generalize w4.heap.size=pb at*
     obtain ⟨b,hb⟩: ∃b,dt[k]?=some b:=⟨_,List.getElem?_eq_getElem (by rw [HDI.out.len];exact hlt)⟩;have hbD:D.last (Qp sl+1+k)=b:=by
      have:=HDI.out.chosen;rcases this with ⟨_,h1,_⟩ | ⟨_,_,_,_,h5⟩
      ·rw [h1] at hlt;simp at hlt
      ·rw [HSS.out] at h5;rw [h5,QaI _ _ _ _ hlt] at hb;exact Option.some.inj hb
     have HBD:Hid (D.last (1+(sl:Int)*61+((k:Int)+1)).toNat=b):=hid (by
      rw [show (1+(sl:Int)*61+((k:Int)+1)).toNat=Qp sl+1+k from by unfold Qp;omega];exact hbD)
     have hfew:=HDI.out.few;have HTK:Hid (dt.take (k+1)=dt.take k++ [b]):=hid (by
      obtain ⟨h1,h2⟩:=List.getElem?_eq_some_iff.1 hb;rw [List.take_succ_eq_append_getElem h1,h2])
     have HKL:Hid (k=(dt.take k).length):=hid (by rw [List.length_take,HDI.out.len];omega);have KA:Hid (∀y,Frm NoB w5 y→y.cell? ⟨jb,5,none⟩=some (.map (some mb))∧y.cell? ⟨pb,0,none⟩=some (.int .i64 sl)∧y.cell? ⟨pb,1,none⟩=some (.int .i64 k)):=hid fun y hy=>
      ⟨((H6.out.frm0 hy).arrCell (i:=1) rfl 5).trans rfl,((H6.out.frm0 hy).arrCell (i:=0) rfl 0).trans rfl,((H6.out.frm0 hy).arrCell (i:=0) rfl 1).trans rfl⟩
     have KB:Hid (∀y u1 u2,St w0 y (u1::arr pb #[.int .i64 sl,.int .i64 k] 224 (by decide)::arr jb #[.pointer (some ⟨H.b,0,none⟩),.int .u64 g,.int .u64 last,.bool false,.slice oa o.length ocap,.map (some mb)] 219 JF::u2)→y.cell? ⟨jb,5,none⟩=some (.map (some mb))∧y.cell? ⟨pb,0,none⟩=some (.int .i64 sl)∧y.cell? ⟨pb,1,none⟩=some (.int .i64 k)):=hid fun y u1 u2 hy=>
      ⟨(hy.arrCell (i:=2) rfl 5).trans rfl,(hy.arrCell (i:=1) rfl 0).trans rfl,(hy.arrCell (i:=1) rfl 1).trans rfl⟩
     have c1:=(KA.out w5 (Frm.refl _ _)).1;have c2:=(KA.out w5 (Frm.refl _ _)).2.1;have c3:=(KA.out w5 (Frm.refl _ _)).2.2;obtain ⟨j,hj⟩: ∃j:Int,(k:Int)+1=j:=⟨_,rfl⟩;rw [hj] at HBD;have b1:0≤j:=by omega
     have b2:j≤1000:=by omega
     have b3:(sl:Int)≤1000:=by omega
     have b4:0≤1+(sl:Int)*61+j:=by omega
     have b5:1+(sl:Int)*61+j<(D.n:Int):=by have:=HN.out;omega
     have b6:D.ops<4611686018427387904:=by have:=HO.out;omega
     have b7:(dt.take k).length<1000000:=by have:=HKL.out;omega
     have b8:sl<1000000:=by omega
     have hwr:IntKind.i64.wrap ((k:Int)+1)=j:=by rw [IntWalk.i64_in _ (by omega)];exact hj
     have HB6:=hid b6;clear hb hbD hj b6;go_region_held3 (fun y=>y.cell? ⟨jb,5,none⟩=some (.map (some mb))∧y.cell? ⟨pb,0,none⟩=some (.int .i64 sl)∧y.cell? ⟨pb,1,none⟩=some (.int .i64 k))
      (first | exact hS8 | (refine KA.out _ ?_;first | assumption | exact (Frm.refl NoB w5).drew | exact ⟨rfl,rfl,rfl,Nat.le_refl _,fun _ _ _=>rfl⟩) | exact hS7)
      (first
       | (go_at_call 140;refine (E8 w5.drew (sl:Int) j hsl5 b3 b1 b2).mono ?_;rintro e w6 ⟨hf6,rfl⟩;have hf6':Frm NoB w5 w6:=((Frm.refl NoB w5).drew).trans hf6 (fun _ _ e=>e))
       | (go_at_call 139;refine (QiF (H6.out.frm0 hf6') (a+4) HR.out (1+(sl:Int)*61+j) b4 b5 HB6.out).mono ?_;rintro e w7 ⟨v7,rfl,h7,hz7⟩;have hS7:=KB.out _ _ _ h7;obtain ⟨o7,q7,h8⟩:=h7.chgPut 4 rfl v7 _ hz7 b7 b8 k HKL.out;have hS8:=KB.out _ _ _ h8))
     all_goals
      rw [HBD.out,←HTK.out] at h8;have H8:=hid ((h8.drop 2));clear h8 h7 hz7 hS7 hS8 q7 hwr;go_wp2
      first | exact ⟨⟨k+1,hlt,by go_num,H8.out⟩,by simp [intOf];omega⟩ | (go_roundw;case rel=>first | exact ⟨k+1,hlt,by go_num,H8.out⟩ | ((repeat apply Exists.intro);exact ⟨⟨k+1,hlt,by go_num,H8.out⟩,rfl⟩);case measure=>simp [intOf];omega)
    ·have hk1: ¬(k:Int)<(o.length:Int):=by omega
     have H9:=hst;rw [show dt.take k=dt from List.take_of_length_le (by rw [HDI.out.len];omega)] at H9;have HT:=hid (H9.newArr #[.func (.func 142) #[.pointer (some ⟨jb,0,none⟩)] #[],.func (.func 143) #[.pointer (some ⟨H.b,0,none⟩)] #[]] 100 J6);have hmf: ∀(fn:Fn) (first cap:Array Value) (W:World),(Instr.makeFunc fn first cap).run prog W= .ok (.func fn first cap) W:=fun _ _ _ _=>rfl
     clear hst HST H9;go_wp2_with fail;clear hmf;generalize wr.heap.size=fb at*
     obtain ⟨w5,hw5⟩: ∃w5,w5=wr.alloc (.cells #[.func (.func 142) #[.pointer (some ⟨jb,0,none⟩)] #[],.func (.func 143) #[.pointer (some ⟨H.b,0,none⟩)] #[]] 100 (0,0)):=⟨_,rfl⟩;rw [←hw5] at HT ⊢;clear hw5;have HTR:Hid (Calls prog 141 #[.slice (some ⟨fb,0,none⟩) 2 2] w5 fun e w'=>(e= .returned (.int .i64 0)∧Jp (QK o dt) D=0∧St w0 w' (arr fb #[.func (.func 142) #[.pointer (some ⟨jb,0,none⟩)] #[],.func (.func 143) #[.pointer (some ⟨H.b,0,none⟩)] #[]] 100 J6::arr jb #[.pointer (some ⟨H.b,0,none⟩),.int .u64 g,.int .u64 last,.bool false,.slice oa o.length ocap,.map (some mb)] 219 JF::J4 (.slice oa o.length ocap) o::chg mb sl dt::rs.set a (dev H (QL (QK o dt) D))))∨
      (e= .returned (.int .i64 9)∧Jp (QK o dt) D=9∧St w0 w' (rs.set a (dev H (QL (QK o dt) D))))):=hid (by
      have hset: ∀X Y:Res,(rs.set a X).set a Y=rs.set a Y:=fun X Y=>List.set_set ..
      have hdev: ∀X:Res,(rs.set a X)[a]?=some X:=fun X=>List.getElem?_set_self (List.getElem?_eq_some_iff.1 HR.out).1
      refine (E9 w5 fb 0 2 2 (fun i W=>Jp ([[],Qi o dt,QK o dt].getD i []) D=0∧St w0 W (arr fb #[.func (.func 142) #[.pointer (some ⟨jb,0,none⟩)] #[],.func (.func 143) #[.pointer (some ⟨H.b,0,none⟩)] #[]] 100 J6::arr jb #[.pointer (some ⟨H.b,0,none⟩),.int .u64 g,.int .u64 last,.bool false,.slice oa o.length ocap,.map (some mb)] 219 JF::J4 (.slice oa o.length ocap) o::chg mb sl dt::rs.set a (dev H (QL ([[],Qi o dt,QK o dt].getD i []) D))))
       (fun x W=>x=9∧Jp (QK o dt) D=9∧St w0 W (rs.set a (dev H (QL (QK o dt) D)))) (fun i=> [142,143].getD i 0) (fun i=> [#[.pointer (some ⟨jb,0,none⟩)],#[.pointer (some ⟨H.b,0,none⟩)]].getD i #[]) (fun i=> #[]) ?_ ?_ ?_ (by omega) ?_).mono ?_
      ·refine ⟨rfl,?_⟩;have e:rs.set a (dev H D)=rs:=by
        obtain ⟨h1,h2⟩:=List.getElem?_eq_some_iff.1 HR.out;rw [←h2];exact List.set_getElem_self h1
       show St w0 w5 (_::_::_::_::rs.set a (dev H D));rw [e];exact HT.out
      ·intro i W hi hW;rcases (by omega:i=0∨i=1) with rfl | rfl
       ·exact (hW.2.arrCell (i:=0) rfl 0).trans rfl
       ·exact (hW.2.arrCell (i:=0) rfl 1).trans rfl
      ·intro i hi;rcases (by omega:i=0∨i=1) with rfl | rfl
       ·exact QaN
       ·exact UA
      ·intro i W hi hW;rcases (by omega:i=0∨i=1) with rfl | rfl
       ·have hs:=QcU (D:=D) hW.2 (a+4) 1 2 3 (hdev _) rfl rfl rfl rfl rfl rfl rfl HSS.out HLA.out HDI.out.len HDI.out.few (fun k hk=>(HDI.out.homes k hk).2) H512.out HO.out (by omega) (by omega) (by omega);refine hs.mono fun e w' hr=>⟨_,hr.1,fun h0=>⟨h0,?_⟩,fun h0=>?_⟩
        ·have:=hr.2;simp only [List.set_cons_succ] at this;rw [hset] at this;exact this
        ·have h9:Jp (Qi o dt) D=9:=(Ym _ _).resolve_left h0;obtain ⟨e1,e2⟩:=Vo (Qi o dt) [.fl] D h9;have:=hr.2.drop 4;simp only [List.set_cons_succ,List.drop_succ_cons,List.drop_zero] at this;rw [hset,←e1] at this;exact ⟨h9,e2,this⟩
       ·have h0:Jp (Qi o dt) D=0:=hW.1;obtain ⟨e1,e2⟩:=YH (Qi o dt) [.fl] D h0;have hs:=E3 (D:=QL (Qi o dt) D) hW.2 (a+4) (hdev _) (by
         have h1:=Ko (Qi o dt) D;rw [Jo _ _ HDI.out.len] at h1;have:=HO.out;have:=HDI.out.few;omega)
        refine hs.mono fun e w' hr=>⟨_,hr.1,fun h1=>⟨e2.trans h1,?_⟩,fun h1=>?_⟩
        ·have:=hr.2;simp only [List.set_cons_succ] at this;rw [hset,←e1] at this;exact this
        ·have h9:=(Ym [.fl] (QL (Qi o dt) D)).resolve_left h1;have:=hr.2.drop 4;simp only [List.set_cons_succ,List.drop_succ_cons,List.drop_zero] at this;rw [hset,←e1] at this;exact ⟨h9,e2.trans h9,this⟩
      ·rintro e w6 (⟨h1,h2,h3⟩ | ⟨x,hx,h1,h2,h3,h4⟩)
       ·exact .inl ⟨h1,h2,h3⟩
       ·exact .inr ⟨by rw [h1,h2],h3,h4⟩)
     clear HT;refine HTR.out.mono ?_;clear HTR;rintro e w6 (⟨rfl,h1,h2⟩ | ⟨rfl,h1,h2⟩)
     ·have HE:=hid h1;have H6:=hid (h2.drop 1);have hmk:=Qbp w6;have f4:w6.frozen? ⟨jb,4,none⟩=false:=H6.out.arrFree (i:=0) rfl 4;have f5:w6.frozen? ⟨jb,5,none⟩=false:=H6.out.arrFree (i:=0) rfl 5;have c4:w6.cell? ⟨jb,4,none⟩=some (.slice oa o.length ocap):=(H6.out.arrCell (i:=0) rfl 4).trans rfl;have c5:w6.cell? ⟨jb,5,none⟩=some (.map (some mb)):=(H6.out.arrCell (i:=0) rfl 5).trans rfl;have hjl:jb<w6.heap.size:=lt_of_block (H6.out.get (i:=0) rfl);clear h1 h2;go_wp2;go_ret2;refine .inl ⟨HE.out,⟨jb,.slice none 0 0,w6.heap.size⟩,rfl,St.jShut ?_⟩;have h7:=((H6.out.setArr 0 rfl 4 (.slice none 0 0)).setArr 0 rfl 5 (.map (some w6.heap.size))).chgNew (last%4);have h8:=h7.rowNil 3 Jj 1;rw [World.size_setCell,World.size_setCell] at h8;have h9:=h8.sub ((((List.drop_sublist 2 _).cons_cons _).cons_cons _).cons_cons _);exact h9.perm ((List.Perm.cons _ (List.Perm.swap _ _ _)).trans (List.Perm.swap _ _ _))
     ·have HE:=hid h1;have H6:=hid h2;clear h1 h2;go_wp2;go_ret2;exact .inr ⟨HE.out,rfl,H6.out⟩
theorem Qfr {w0:Gnd} {w:World} {rs:List Res} (h:St w0 w rs) (a:Nat) {H:Hdl} {D:DSt} (hr:rs[a]?=some (dev H D)) (hn:246≤D.n) (ho:D.ops<1000000000) (hm:UM (D.last 0)=false):
 Calls prog 63 #[.pointer (some ⟨H.b,0,none⟩)] w fun e w'=>e= .returned (.tuple #[.pointer none,.int .i64 10])∧St w0 w' rs:=by
 have HB:=hid (Kk h a hr);have HF:=hid (Qa1 h a hr (by omega) (by omega));rw [hm] at HF;have hn': ¬(D.n:Int)<246:=by omega
 clear h hr hn ho hm;go_enter func63,ntmps63;go_wp2_with fail;refine HB.out.mono ?_;rintro e w2 ⟨rfl,rfl⟩;go_wp2_with fail;refine HF.out.mono ?_;rintro e w3 ⟨rfl,h3⟩;have H3:=hid h3;clear h3 HF HB;go_wp2;go_ret2;exact ⟨rfl,H3.out⟩
theorem VD: ¬U8T (274:TypeId):=by decide
def flat:List Int→List Value→List Value
 | k::ks,u::vs=>JX k::u::flat ks vs
 | _,_=> []
theorem QaS: ∀(ks:List Int) (vs:List Value) (k:Int) (u:Value),vs.length=ks.length→flat (ks++ [k]) (vs++ [u])=flat ks vs++ [JX k,u]
 | [],[],_,_,_=>rfl
 | [],_::_,_,_,h=>by simp at h
 | _::_,[],_,_,h=>by simp at h
 | a::ks,b::vs,k,u,h=>by
   show JX a::b::flat (ks++ [k]) (vs++ [u])=_;rw [QaS ks vs k u (by simpa using h)];rfl
theorem flat_get: ∀(ks:List Int) (vs:List Value) (j:Nat) (k:Int) (u:Value),ks[j]?=some k→vs[j]?=some u→(flat ks vs)[2*j]?=some (JX k)∧(flat ks vs)[2*j+1]?=some u
 | [],_,_,_,_,h,_=>by simp at h
 | _::_,[],_,_,_,_,h=>by simp at h
 | a::ks,b::vs,0,k,u,h1,h2=>by simp at h1 h2;subst h1 h2;exact ⟨rfl,rfl⟩
 | a::ks,b::vs,j+1,k,u,h1,h2=>by
   obtain ⟨g1,g2⟩:=flat_get ks vs j k u (by simpa using h1) (by simpa using h2);exact ⟨g1,g2⟩
def VL (v:Value) (ks:List Int) (vs:List Value) (ds:List Blk):Res where
 M:=fun x=>v.ownBlock=some x
 inv:=fun Z w=>w.ownsRow 0 274 2 v ks.length (flat ks vs)∧vs.length=ks.length∧ds.length=ks.length∧∀(i:Nat) u b,vs[i]?=some u→ds[i]?=some b→Qc w u b Ku
 lt:=fun Z w H x hx=>(H.1.lt x hx).2
 dry:=fun Z w H x hx c' e=>by
  rcases H.1.2 with ⟨rfl,_⟩ | ⟨g,cap,cur,rfl,_,h2,_⟩
  ·cases hx
  ·obtain rfl:g=x:=by simpa [Value.ownBlock] using hx
   exact Yf h2 VD _ e
 keep:=fun Z w w' N H hf hd ha=>⟨Js H.1 (fun g hg=>hf.block g (H.1.lt g hg).2 (ha g hg)),H.2.1,H.2.2.1,fun i u b h1 h2=>(H.2.2.2 i u b h1 h2).frmZ hf hd⟩
 zone:=fun _ _ _ H _ _=>H
theorem St.chgsLen {w0:Gnd} {w:World} {rs:List Res} (h:St w0 w rs) {i:Nat} {v:Value} {ks:List Int} {vs:List Value} {ds:List Blk} (hr:rs[i]?=some (VL v ks vs ds)): ∃a cap,v= .slice a ks.length cap:=by
 rcases (h.get hr).1.2 with ⟨e,hl⟩ | ⟨g,cap,cur,e,_⟩
 ·exact ⟨none,0,by rw [e,hl]⟩
 ·exact ⟨_,_,e⟩
theorem St.chgsCell {w0:Gnd} {w:World} {rs:List Res} (h:St w0 w rs) {i n cap:Nat} {a:Option Addr} {ks:List Int} {vs:List Value} {ds:List Blk} (hr:rs[i]?=some (VL (.slice a n cap) ks vs ds)) {j:Nat} {k:Int} (hk:ks[j]?=some k):
 ∃gb u b,a=some ⟨gb,0,none⟩∧gb<w.heap.size∧vs[j]?=some u∧ds[j]?=some b∧w.cell? ⟨gb,j*2,none⟩=some (.int .i64 k)∧w.cell? ⟨gb,j*2+1,none⟩=some u∧Qc w u b Ku:=by
 obtain ⟨H1,H2,H3,H4⟩:=h.get hr;have hj:=(List.getElem?_eq_some_iff.1 hk).1;have hu:vs[j]?=some (vs[j]'(by omega)):=List.getElem?_eq_getElem _;have hb:ds[j]?=some (ds[j]'(by omega)):=List.getElem?_eq_getElem _;rcases H1.2 with ⟨e,hl⟩ | ⟨g,cap',cur,e,_,h2,_,_,h4⟩
 ·rw [hl] at hj;omega
 ·injection e with e1 e2 e3
  obtain ⟨f1,f2⟩:=flat_get ks vs j k _ hk hu;have hrow:=H1.cells (g:=g) (by rw [e1];rfl);have add0: ∀m,(⟨g,0,none⟩:Addr).add m=⟨g,m,none⟩:=fun m=>by unfold Addr.add;split<;>simp_all
  rw [Nat.mul_comm j 2];refine ⟨g,_,_,e1,lt_of_block h2,hu,hb,?_,?_,H4 j _ _ hu hb⟩
  ·have:=hrow _ _ f1;rw [add0] at this;exact this
  ·have:=hrow _ _ f2;rw [add0] at this;exact this
def UB (n:Nat) (ks:List Int) (ds:List Blk) (i:Nat):Bool:=
 decide (245≤ks.getD i 0∧ks.getD i 0<(n:Int)) && !(ks.take i).contains (ks.getD i 0) && (ds.getD i []).length==512
def Ul (n:Nat) (ks:List Int) (ds:List Blk):Nat→Bool
 | 0=>true
 | i+1=>Ul n ks ds i && UB n ks ds i
def WB (n:Nat) (ks:List Int) (ds:List Blk):Int:=if Ul n ks ds ks.length then (if 60<ks.length then 2 else 0) else 1
theorem WY {n:Nat} {ks:List Int} {ds:List Blk} {i:Nat} (hf:UB n ks ds i=false): ∀j,i<j→Ul n ks ds j=false
 | 0,h=>by omega
 | j+1,h=>by
   unfold Ul;rcases Nat.lt_or_eq_of_le (Nat.le_of_lt_succ h) with h' | h'
   ·rw [WY hf j h'];rfl
   ·subst h';rw [hf,Bool.and_false]
def Qdb (mb:Nat) (l:List Int):Res where
 M:=Q0 mb
 inv:=fun Z w=> ∃n f,Qn JX okI w mb n f∧∀k,okI k→f k=if l.contains k then some (.int .i64 1) else none
 lt:=fun Z w H x hx=>by obtain rfl:x=mb:=hx;obtain ⟨n,f,h,_⟩:=H;exact h.lt
 dry:=fun Z w H x hx c e=>by
  obtain rfl:x=mb:=hx;obtain ⟨n,f,⟨es,clock,h,_⟩,_⟩:=H;exact YO h c e
 keep:=fun Z w w' N H hf hd ha=>by
  obtain ⟨n,f,h,hb⟩:=H;exact ⟨n,f,h.of_block (hf.block mb h.lt (ha mb rfl)),hb⟩
 zone:=fun Z Z' w H _ _=>H
theorem St.metNew {w0:Gnd} {w:World} {rs:List Res} (h:St w0 w rs):St w0 (w.alloc (.map #[] 0)) (Qdb w.heap.size []::rs):=
 h.make ((Frm.refl _ _).alloc _) (Qdb w.heap.size []) ⟨0,_,Qn.made w,fun k hk=>rfl⟩ (fun x hx=>by obtain rfl:x=w.heap.size:=hx;exact Nat.le_refl _)
theorem St.metLook {w0:Gnd} {w:World} {rs:List Res} (h:St w0 w rs) {i mb:Nat} {l:List Int} (hr:rs[i]?=some (Qdb mb l)) {k:Int} (hk:okI k) {b:Bool} (hb:l.contains k=b) (W:World) (hW:W.heap[mb]?=w.heap[mb]?):
 (Instr.lookup 127 (.map (some mb)) (.int .i64 k) false).run prog W= .ok (.int .i64 (if b then 1 else 0)) W:=by
 obtain ⟨n,f,hm,hf⟩:=h.get hr;have:=hm.lookup Yw underlying127 hk EY W hW;rw [hf k hk,hb] at this;rw [this];cases b<;>rfl
theorem St.metPut {w0:Gnd} {w:World} {rs:List Res} (h:St w0 w rs) (i:Nat) {mb:Nat} {l:List Int} (hr:rs[i]?=some (Qdb mb l)) {k:Int} (hk:okI k):
 ∃o,(Instr.mapUpdate 127 (.map (some mb)) (.int .i64 k) (.int .i64 1)).run prog w= .ok () (setBlock w mb o)∧St w0 (setBlock w mb o) (rs.set i (Qdb mb (l++ [k]))):=by
 obtain ⟨n,f,hm,hf⟩:=h.get hr;obtain ⟨o,q1,q2⟩:=hm.update Yw underlying127 hk (.int .i64 1);refine ⟨o,q1 w rfl,h.write i hr ((Frm.refl (Q0 mb) w).setBlock (.inl rfl) o) (Qdb mb (l++ [k])) ⟨_,_,q2 w hm.lt,fun x hx=>?_⟩ (fun _ hx=> .inl hx)⟩;unfold upd;by_cases e:x=k
 ·subst e;rw [if_pos rfl,if_pos (by simp)]
 ·rw [if_neg e,hf x hx];have:(l++ [k]).contains x=l.contains x:=by
   rw [Bool.eq_iff_iff];simp [e]
  rw [this]
theorem QkD {w0:Gnd} {w:World} {rs:List Res} (h:St w0 w rs) (a i p:Nat) {H:Hdl} {D:DSt} {jb:Nat} {c:Array Value} {ht: ¬U8T (219:TypeId)} (hr:rs[a]?=some (dev H D)) (hj:rs[i]?=some (arr jb c 219 ht))
 (hc:c[0]?=some (.pointer (some ⟨H.b,0,none⟩))) {v:Value} {ks:List Int} {vs:List Value} {ds:List Blk} (hl:rs[p]?=some (VL v ks vs ds)) (hok: ∀k∈ks,okI k) (hlen:ks.length≤1000000) (hd: ∀d∈ds,d.length≤1000000):
 Calls prog 250 #[.pointer (some ⟨jb,0,none⟩),v] w fun e w'=>e= .returned (.int .i64 (WB D.n ks ds))∧St w0 w' rs:=by
 obtain ⟨va,vc,rfl⟩:=h.chgsLen hl;have HM:=hid h.metNew;have hmk: ∀W,(Instr.makeMap 127 none).run prog W= .ok (.map (some W.heap.size)) (W.alloc (.map #[] 0)):=fun W=>rfl
 have HR:=hid hr;have HJ:=hid hj;have HL:=hid hl;have HC:=hid hc;have HOK:=hid hok;have HDD:=hid hd;clear h hr hj hl hc hok hd;go_enter func250,ntmps250;go_wp2_with fail;clear hmk;generalize w.heap.size=mb at*
 go_loopw [7,11] (fun _ t wr=> ∃k:Nat,k≤ks.length∧t= .int .i64 k∧Ul D.n ks ds k=true∧St w0 wr (Qdb mb (ks.take k)::rs)) (fun _ t _=>ks.length-(intOf t).toNat)
 case atStart=>exact ⟨0,Nat.zero_le _,rfl,rfl,HM.out⟩
 case round=>
  clear HM;obtain ⟨k,hk,rfl,hmt,hst⟩:=hrel;have HST:=hid hst;have HMT:=hid hmt;clear hst hmt;by_cases hlt:k<ks.length
  ·have hk0:(0:Int)≤(k:Int):=Qk _;have hk1:(k:Int)<(ks.length:Int):=by omega
   obtain ⟨x,hx⟩: ∃x,ks[k]?=some x:=⟨_,List.getElem?_eq_getElem hlt⟩;obtain ⟨gb,u,d,rfl,hgb,hu,hd,c1,c2,hbu⟩:=HST.out.chgsCell (i:=p+1) HL.out hx;have HX:=hid hx;have HU:=hid hu;have HD1:=hid hd;have HBU:=hid hbu;clear hx hu hd hbu;obtain ⟨ub,uo,uc,rfl,huc,_,_⟩:=HBU.out.cells;have hdl:((d.length:Nat):Int)≤1000000:=by have:=HDD.out d (List.mem_of_getElem? HD1.out);omega
   have H5:=hid (HST.out.newArr #[.int .i64 x,.slice (some ⟨ub,uo,none⟩) d.length uc] 274 VD);have hox:okI x:=HOK.out x (List.mem_of_getElem? HX.out);have HOX:=hid hox;have hgd:ks.getD k 0=x:=by rw [List.getD_eq_getElem?_getD,HX.out];rfl
   have hgdd:ds.getD k []=d:=by rw [List.getD_eq_getElem?_getD,HD1.out];rfl
   have HGA:Hid (UB D.n ks ds k=(decide (245≤x∧x<(D.n:Int)) && !(ks.take k).contains x && d.length==512)):=hid (by unfold UB;rw [hgd,hgdd]);have HTK:Hid (ks.take (k+1)=ks.take k++ [x]):=hid (by
    obtain ⟨h1,h2⟩:=List.getElem?_eq_some_iff.1 HX.out;rw [List.take_succ_eq_append_getElem h1,h2])
   have HE1:Hid (UB D.n ks ds k=false→WB D.n ks ds=1):=hid fun hf=>by unfold WB;rw [WY hf _ hlt];rfl
   have HHM:=hid (Qhu H5.out (a+2) (i+2) HR.out HJ.out HC.out x);obtain ⟨L,hL⟩: ∃L,ks.take k=L:=⟨_,rfl⟩;rw [hL] at H5 HGA HTK;obtain ⟨m,hm⟩: ∃m,d.length=m:=⟨_,rfl⟩;rw [hm] at H5 HGA hdl HHM c2 huc;clear hox hgd hgdd hL hm HST HBU HDD HD1;go_wp2_with fail;refine HHM.out.mono ?_;rintro e w4 ⟨rfl,rfl⟩;obtain ⟨w5,hw5⟩: ∃w5,w5=wr.alloc (.cells #[.int .i64 x,.slice (some ⟨ub,uo,none⟩) m uc] 274 (0,0)):=⟨_,rfl⟩;rw [←hw5] at H5 ⊢;clear hw5 HHM c1 c2;generalize wr.heap.size=pb at*
   have c1:w5.cell? ⟨pb,0,none⟩=some (.int .i64 x):=(H5.out.arrCell (i:=0) rfl 0).trans rfl;have c2:w5.cell? ⟨pb,1,none⟩=some (.slice (some ⟨ub,uo,none⟩) m uc):=(H5.out.arrCell (i:=0) rfl 1).trans rfl;by_cases hh:245≤x∧x<(D.n:Int)
   ·have e1:(decide (245≤x) && decide (x<(D.n:Int)))=true:=by rw [decide_eq_true hh.1,decide_eq_true hh.2];rfl
    rw [e1];rw [decide_eq_true hh] at HGA;clear e1 hh;by_cases hc2:L.contains x=true
    ·have hlk:=H5.out.metLook (i:=1) rfl HOX.out hc2 w5 rfl;rw [if_pos rfl] at hlk;rw [hc2] at HGA;have HF:=hid (HE1.out (by rw [HGA.out];rfl));clear hc2 HGA HE1;go_wp2;go_ret;exact ⟨by rw [HF.out];rfl,H5.out.drop 2⟩
    ·have hc2:L.contains x=false:=by simpa using hc2
     have hlk:=H5.out.metLook (i:=1) rfl HOX.out hc2 w5 rfl;rw [if_neg (by simp)] at hlk;rw [hc2] at HGA;clear hc2;by_cases hm:m=512
     ·have hb:(((m:Nat):Int)!=512)=false:=by rw [bne_eq_false_iff_eq];omega
      have HMT2:Hid (Ul D.n ks ds (k+1)=true):=hid (by
       show (Ul D.n ks ds k && UB D.n ks ds k)=true;rw [HMT.out,HGA.out,hm];rfl)
      obtain ⟨o6,q6,h6⟩:=H5.out.metPut 1 rfl HOX.out;have H6:=hid (h6.drop 1);clear h6 hm HGA HE1;rw [←HTK.out] at H6;go_wp2
      first | exact ⟨⟨k+1,hlt,by go_num,HMT2.out,H6.out⟩,by simp [intOf];omega⟩ | (go_roundw;case rel=>first | exact ⟨k+1,hlt,by go_num,HMT2.out,H6.out⟩ | ((repeat apply Exists.intro);exact ⟨⟨k+1,hlt,by go_num,HMT2.out,H6.out⟩,rfl⟩);case measure=>simp [intOf];omega)
     ·have hb:(((m:Nat):Int)!=512)=true:=by rw [bne_iff_ne];omega
      have HF:=hid (HE1.out (by rw [HGA.out];simp [hm]));clear hm HGA HE1;go_wp2;go_ret;exact ⟨by rw [HF.out];rfl,H5.out.drop 2⟩
   ·have e1:(decide (245≤x) && decide (x<(D.n:Int)))=false:=by
     by_cases h1:245≤x
     ·rw [decide_eq_false (p:=x<(D.n:Int)) (fun h2=>hh ⟨h1,h2⟩),Bool.and_false]
     ·rw [decide_eq_false h1];rfl
    rw [e1];rw [decide_eq_false hh] at HGA;have HF:=hid (HE1.out (by rw [HGA.out];rfl));clear hh e1 HGA HE1;go_wp2;go_ret;exact ⟨by rw [HF.out];rfl,H5.out.drop 2⟩
  ·have hkk:k=ks.length:=by omega
   have hk1: ¬(k:Int)<(ks.length:Int):=by omega
   have HMM:Hid (Ul D.n ks ds ks.length=true):=hid (by rw [←hkk];exact HMT.out);by_cases hbig:60<ks.length
   ·have hb1:(60:Int)<(ks.length:Int):=by omega
    have HF:Hid (WB D.n ks ds=2):=hid (by unfold WB;rw [HMM.out,if_pos rfl,if_pos hbig]);clear hbig hkk;go_wp2;go_ret;exact ⟨by rw [HF.out];rfl,HST.out.drop 1⟩
   ·have hb1: ¬(60:Int)<(ks.length:Int):=by omega
    have HF:Hid (WB D.n ks ds=0):=hid (by unfold WB;rw [HMM.out,if_pos rfl,if_neg hbig]);clear hbig hkk;go_wp2;go_ret;exact ⟨by rw [HF.out];rfl,HST.out.drop 1⟩
theorem Kd: ¬U8T (130:TypeId):=by decide
theorem Ki: ¬U8T (76:TypeId):=by decide
theorem Qkx {w0:Gnd} {w:World} {rs:List Res} (h:St w0 w rs) (a ij i1 i2 i3 i4:Nat) {H:Hdl} {D:DSt} {jb bj bn bi bc n s i:Nat} {c:Array Value} {x:Int} {u:Value} {d:Blk} {t1: ¬U8T (219:TypeId)} {t2: ¬U8T (130:TypeId)}
 {t3: ¬U8T (101:TypeId)} {t4: ¬U8T (3:TypeId)} {t5: ¬U8T (274:TypeId)}
 (hr:rs[a]?=some (dev H D)) (hj:rs[ij]?=some (arr jb c 219 t1)) (hc0:c[0]?=some (.pointer (some ⟨H.b,0,none⟩))) (h1:rs[i1]?=some (arr bj #[.pointer (some ⟨jb,0,none⟩)] 130 t2))
 (h2:rs[i2]?=some (arr bn #[.int .u64 n] 101 t3)) (h3:rs[i3]?=some (arr bi #[.int .i64 i] 3 t4)) (h4:rs[i4]?=some (arr bc #[.int .i64 x,u] 274 t5))
 (hu:Qc w u d Ku) (hd:d.length=512) (hn:n<18446744073709551616) (hs:n%4=s) (hi:i<60) (hD:246≤D.n) (ho:D.ops<2000000000)
 (q1:ij≠a) (q2:i1≠a) (q3:i2≠a) (q4:i3≠a) (q5:i4≠a):
 Calls prog 345 #[.pointer (some ⟨bj,0,none⟩),.pointer (some ⟨bn,0,none⟩),.pointer (some ⟨bi,0,none⟩),.pointer (some ⟨bc,0,none⟩)] w (U5 w0 rs a H [.wr (Qp s+1+i) d] D):=by
 have H0:=hid h;have HS:Hid (∀W,Calls prog 138 #[.int .u64 n] W fun e w'=>e= .returned (.int .i64 s)∧w'=W):=hid fun W=>UR W n s hn hs
 have hs4:s<4:=by omega
 have hs5:(0:Int)≤(s:Int):=Qk _;have hs6:(s:Int)≤1000:=by omega
 obtain ⟨j,hjj⟩: ∃j:Int,(i:Int)+1=j:=⟨_,rfl⟩;have b1:0≤j:=by omega
 have b2:j≤1000:=by omega
 have b4:0≤1+(s:Int)*61+j:=by omega
 have b5:1+(s:Int)*61+j<(D.n:Int):=by omega
 have b6:(1+(s:Int)*61+j).toNat=Qp s+1+i:=by unfold Qp;omega
 have B6:=hid b6;have HO:Hid (D.ops<4611686018427387904):=hid (by omega);have hwr:IntKind.i64.wrap ((i:Int)+1)=j:=by rw [IntWalk.i64_in _ (by omega)];exact hjj
 have cells: ∀y rs',(∀i,i≠a+1→rs'[i]?=(byt u d::rs)[i]?)→St w0 y rs'→y.cell? ⟨bj,0,none⟩=some (.pointer (some ⟨jb,0,none⟩))∧y.cell? ⟨jb,0,none⟩=some (.pointer (some ⟨H.b,0,none⟩))∧y.cell? ⟨bn,0,none⟩=some (.int .u64 n)∧y.cell? ⟨bi,0,none⟩=some (.int .i64 i)∧y.cell? ⟨bc,1,none⟩=some u:=fun y rs' he hy=>
  ⟨(hy.arrCell (i:=i1+1) ((he _ (by omega)).trans h1) 0).trans rfl,(hy.arrCell (i:=ij+1) ((he _ (by omega)).trans hj) 0).trans hc0,(hy.arrCell (i:=i2+1) ((he _ (by omega)).trans h2) 0).trans rfl,(hy.arrCell (i:=i3+1) ((he _ (by omega)).trans h3) 0).trans rfl,(hy.arrCell (i:=i4+1) ((he _ (by omega)).trans h4) 1).trans rfl⟩
 have H1:=hid (h.make (Frm.refl _ _) (byt u d) hu (fun _ h=>h.elim));have KA:Hid (∀y,Frm NoB w y→y.cell? ⟨bj,0,none⟩=some (.pointer (some ⟨jb,0,none⟩))∧y.cell? ⟨jb,0,none⟩=some (.pointer (some ⟨H.b,0,none⟩))∧y.cell? ⟨bn,0,none⟩=some (.int .u64 n)∧y.cell? ⟨bi,0,none⟩=some (.int .i64 i)∧y.cell? ⟨bc,1,none⟩=some u):=hid fun y hy=>cells y _ (fun _ _=>rfl) (H1.out.frm0 hy)
 have KB:Hid (∀y X,St w0 y ((byt u d::rs).set (a+1) X)→y.cell? ⟨bj,0,none⟩=some (.pointer (some ⟨jb,0,none⟩))∧y.cell? ⟨jb,0,none⟩=some (.pointer (some ⟨H.b,0,none⟩))∧y.cell? ⟨bn,0,none⟩=some (.int .u64 n)∧y.cell? ⟨bi,0,none⟩=some (.int .i64 i)∧y.cell? ⟨bc,1,none⟩=some u):=hid fun y X hy=>cells y _ (fun i hi=>List.getElem?_set_ne (Ne.symm hi)) hy
 obtain ⟨c1,c2,c3,c4,c5⟩:=KA.out w (Frm.refl _ _);have HR:=hid hr;have HDL:=hid hd;clear h hr hj hc0 h1 h2 h3 h4 hu hd hn hs hi hD ho cells hjj b6 q1 q2 q3 q4 q5 hs4;go_enter func345,ntmps345;go_wp2_with fail;go_region_held3 (fun y=>y.cell? ⟨bj,0,none⟩=some (.pointer (some ⟨jb,0,none⟩))∧y.cell? ⟨jb,0,none⟩=some (.pointer (some ⟨H.b,0,none⟩))∧y.cell? ⟨bn,0,none⟩=some (.int .u64 n)∧y.cell? ⟨bi,0,none⟩=some (.int .i64 i)∧y.cell? ⟨bc,1,none⟩=some u)
  (first | exact hS7 | (refine KA.out _ ?_;first | assumption | exact (Frm.refl NoB w).drew | exact ⟨rfl,rfl,rfl,Nat.le_refl _,fun _ _ _=>rfl⟩))
  (first
   | (go_at_call 138;refine (HS.out _).mono ?_;rintro e w3 ⟨rfl,rfl⟩)
   | (go_at_call 140;refine (E8 w.drew (s:Int) j hs5 hs6 b1 b2).mono ?_;rintro e w6 ⟨hf6,rfl⟩;have hf6':Frm NoB w w6:=((Frm.refl NoB w).drew).trans hf6 (fun _ _ e=>e))
   | (go_at_call 227;refine (Oe (H1.out.frm0 hf6') (a+1) 0 HR.out rfl (1+(s:Int)*61+j) HO.out b4 b5 HDL.out).mono ?_;rintro e w7 ⟨he7,h7⟩;have hS7:=KB.out _ _ h7;rw [B6.out] at he7 h7;subst he7))
 all_goals
  have H7:=hid (h7.drop 1);clear h7 hS7 hwr;go_wp2;go_ret;exact ⟨rfl,H7.out⟩
theorem QkA {w0:Gnd} {w:World} {rs:List Res} (h:St w0 w rs) (a ij i1 i2 i3 i4:Nat) {H:Hdl} {D:DSt} {jb bj bn bh n s:Nat} {c:Array Value} {u:Value} {d:Blk} {t1: ¬U8T (219:TypeId)} {t2: ¬U8T (130:TypeId)}
 {t3: ¬U8T (101:TypeId)} {t4: ¬U8T (76:TypeId)}
 (hr:rs[a]?=some (dev H D)) (hj:rs[ij]?=some (arr jb c 219 t1)) (hc0:c[0]?=some (.pointer (some ⟨H.b,0,none⟩))) (h1:rs[i1]?=some (arr bj #[.pointer (some ⟨jb,0,none⟩)] 130 t2))
 (h2:rs[i2]?=some (arr bn #[.int .u64 n] 101 t3)) (h3:rs[i3]?=some (arr bh #[u] 76 t4)) (hu:rs[i4]?=some (byt u d)) (hd:d.length=512) (hn:n<18446744073709551616) (hs:n%4=s) (hD:246≤D.n) (ho:D.ops<2000000000)
 (q1:ij≠a) (q2:i1≠a) (q3:i2≠a) (q4:i3≠a):
 Calls prog 346 #[.pointer (some ⟨bj,0,none⟩),.pointer (some ⟨bn,0,none⟩),.pointer (some ⟨bh,0,none⟩)] w (U5 w0 rs a H [.wr (Qp s) d] D):=by
 have H0:=hid h;have HS:Hid (∀W,Calls prog 138 #[.int .u64 n] W fun e w'=>e= .returned (.int .i64 s)∧w'=W):=hid fun W=>UR W n s hn hs
 have hs4:s<4:=by omega
 have hs5:(0:Int)≤(s:Int):=Qk _;have hs6:(s:Int)≤1000:=by omega
 have b1:(0:Int)≤0:=by omega
 have b2:(0:Int)≤1000:=by omega
 have b4:0≤1+(s:Int)*61:=by omega
 have b5:1+(s:Int)*61<(D.n:Int):=by omega
 have b6:(1+(s:Int)*61).toNat=Qp s:=by unfold Qp;omega
 have B6:=hid b6;have B12:=hid (And.intro b1 b2);have HO:Hid (D.ops<4611686018427387904):=hid (by omega);have cells: ∀y rs',(∀i,i≠a→rs'[i]?=rs[i]?)→St w0 y rs'→y.cell? ⟨bj,0,none⟩=some (.pointer (some ⟨jb,0,none⟩))∧y.cell? ⟨jb,0,none⟩=some (.pointer (some ⟨H.b,0,none⟩))∧y.cell? ⟨bn,0,none⟩=some (.int .u64 n)∧y.cell? ⟨bh,0,none⟩=some u:=fun y rs' he hy=>
  ⟨(hy.arrCell (i:=i1) ((he _ q2).trans h1) 0).trans rfl,(hy.arrCell (i:=ij) ((he _ q1).trans hj) 0).trans hc0,(hy.arrCell (i:=i2) ((he _ q3).trans h2) 0).trans rfl,(hy.arrCell (i:=i3) ((he _ q4).trans h3) 0).trans rfl⟩
 have KA:Hid (∀y,Frm NoB w y→y.cell? ⟨bj,0,none⟩=some (.pointer (some ⟨jb,0,none⟩))∧y.cell? ⟨jb,0,none⟩=some (.pointer (some ⟨H.b,0,none⟩))∧y.cell? ⟨bn,0,none⟩=some (.int .u64 n)∧y.cell? ⟨bh,0,none⟩=some u):=hid fun y hy=>cells y _ (fun _ _=>rfl) (H0.out.frm0 hy)
 have KB:Hid (∀y X,St w0 y (rs.set a X)→y.cell? ⟨bj,0,none⟩=some (.pointer (some ⟨jb,0,none⟩))∧y.cell? ⟨jb,0,none⟩=some (.pointer (some ⟨H.b,0,none⟩))∧y.cell? ⟨bn,0,none⟩=some (.int .u64 n)∧y.cell? ⟨bh,0,none⟩=some u):=hid fun y X hy=>cells y _ (fun i hi=>List.getElem?_set_ne (Ne.symm hi)) hy
 obtain ⟨c1,c2,c3,c4⟩:=KA.out w (Frm.refl _ _);have HR:=hid hr;have HDL:=hid hd;have HUU:=hid hu;clear h hr hj hc0 h1 h2 h3 hu hd hn hs hD ho cells b6 q1 q2 q3 q4 hs4 b1 b2;go_enter func346,ntmps346;go_wp2_with fail;go_region_held3 (fun y=>y.cell? ⟨bj,0,none⟩=some (.pointer (some ⟨jb,0,none⟩))∧y.cell? ⟨jb,0,none⟩=some (.pointer (some ⟨H.b,0,none⟩))∧y.cell? ⟨bn,0,none⟩=some (.int .u64 n)∧y.cell? ⟨bh,0,none⟩=some u)
  (first | exact hS7 | (refine KA.out _ ?_;first | assumption | exact (Frm.refl NoB w).drew | exact ⟨rfl,rfl,rfl,Nat.le_refl _,fun _ _ _=>rfl⟩))
  (first
   | (go_at_call 138;refine (HS.out _).mono ?_;rintro e w3 ⟨rfl,rfl⟩)
   | (go_at_call 140;refine (E8 w.drew (s:Int) 0 hs5 hs6 B12.out.1 B12.out.2).mono ?_;rintro e w6 ⟨hf6,rfl⟩;have hf6':Frm NoB w w6:=((Frm.refl NoB w).drew).trans hf6 (fun _ _ e=>e))
   | (go_at_call 227;refine (Oe (H0.out.frm0 hf6') a i4 HR.out HUU.out (1+(s:Int)*61) HO.out b4 b5 HDL.out).mono ?_;rintro e w7 ⟨he7,h7⟩;have hS7:=KB.out _ _ h7;rw [B6.out] at he7 h7;subst he7))
 all_goals
  have H7:=hid h7;clear h7 hS7;go_wp2;go_ret;exact ⟨rfl,H7.out⟩
section
variable {P:Program}
theorem OL (w:World) (base base2:Nat) (t ty e:TypeId) (i:TypeInfo) (z:Value) (size bytes:Nat) (ht:P.underlying t=some (.slice e)) (hi:P.info? e=some i) (hz:i.zero=some z) (hsize:i.size=size) (hby:i.bytes=bytes)
 (hzs:z.cells.size=size) (hsz:0<size) (v:Value) (n:Nat) (xs:List Value) (hown:w.ownsRow base e size v n xs) (u:Value) (m:Nat) (ys:List Value) (hu:w.ownsRow base2 e size u m ys) (h1: ∀y∈ys,y.oneCell'=true)
 (h63:n+m≤maxLen) (hbytes:(n+m)*bytes≤140737488355328) (hbase:base≤w.heap.size):
 ∃v' w',(Builtin.append_ #[t,t] ty #[v,u]).run P w= .ok v' w'∧w'.ownsRow base e size v' (n+m) (xs++ys)∧w.grownBy w' v.ownBlock∧(v'.ownBlock=v.ownBlock∨v'.ownBlock=some w.heap.size):=by
 rcases hu.2 with ⟨rfl,rfl⟩ | ⟨g,cap,cur,rfl,_⟩
 ·have hys:ys= []:=List.eq_nil_of_length_eq_zero (by simpa using hu.1);subst hys;refine ⟨v,w,?_,by simpa using hown,World.grownBy.refl w _,.inl rfl⟩;rcases hown.2 with ⟨rfl,rfl⟩ | ⟨g,cap,cur,rfl,_,_,hnc,_⟩
  ·simp [Builtin.append_,run_underlying ht,sizeOf,typeInfo,hi,Builtin.lenOf,Builtin.firstCells]
  ·simp [Builtin.append_,run_underlying ht,sizeOf,typeInfo,hi,Builtin.lenOf,Builtin.firstCells,hnc,storeCells]
 ·obtain ⟨v',w',h,h2,h3,_,h5⟩:=run_append_own_at (P:=P) w base t ty e i z size bytes ht hi hz hsize hby hzs hsz v n xs hown ⟨g,0,none⟩ m cap ys hu.1 (hu.cells (g:=g) rfl) h1 h63 hbytes hbase;exact ⟨v',w',h,h2,h3,h5⟩
theorem U2 {w:World} {ops:Array Oper} {rest:List Oper} {o:Oper} {a:Act} {Q:Exit→Act→World→Prop} (hgd:o.guard=none) (s x:Operand) (t:TypeId)
 (ho:o.op= .call { callee:= .builtin .append,args:= #[s,x],argTypes:= #[t,t] })
 (base base2:Nat) (e:TypeId) (i:TypeInfo) (z:Value) (size bytes:Nat) (ht:P.underlying t=some (.slice e)) (hi:P.info? e=some i) (hz:i.zero=some z) (hsize:i.size=size) (hby:i.bytes=bytes)
 (hzs:z.cells.size=size) (hsz:0<size) (v:Value) (n:Nat) (xs:List Value) (hs:a.eval s=v) (hown:w.ownsRow base e size v n xs) (u:Value) (m:Nat) (ys:List Value) (hx:a.eval x=u) (hu:w.ownsRow base2 e size u m ys) (h1: ∀y∈ys,y.oneCell'=true)
 (h63:n+m≤maxLen) (hbytes:(n+m)*bytes≤140737488355328) (hbase:base≤w.heap.size)
 (h: ∀v' w',w'.ownsRow base e size v' (n+m) (xs++ys)→w.grownBy w' v.ownBlock→(v'.ownBlock=v.ownBlock∨v'.ownBlock=some w.heap.size)→wpList P ops Q rest (a.put o.dst v') w'):wpList P ops Q (o::rest) a w:=by
 refine wpList_plain hgd fun K hK=>?_
 obtain ⟨v',w',hr,h2,h3,h5⟩:=OL (P:=P) w base base2 t o.type e i z size bytes ht hi hz hsize hby hzs hsz v n xs hown u m ys hu h1 h63 hbytes hbase;unfold Oper.wp execOp;simp only [ho,resolve,invoke,builtin,Sem.run_bind,Sem.run_pure,Result.andThen_ok,List.map_toArray,List.map_cons,List.map_nil,hs,hx,hr];exact hK _ _ (h v' w' h2 h3 h5)
end
theorem Y9 {P:Program} {ops:Array Oper} {o:Oper} {a:Act} {w:World} {K:Act→World→Prop} {Q:Exit→Act→World→Prop} {E:Prop} (hgd:o.guard=none) (s x:Operand) (t:TypeId)
 (ho:o.op= .call { callee:= .builtin .append,args:= #[s,x],argTypes:= #[t,t] })
 (base:Nat) (e:TypeId) (i:TypeInfo) (z:Value) (size bytes:Nat) (ht:P.underlying t=some (.slice e)) (hi:P.info? e=some i) (hz:i.zero=some z) (hsize:i.size=size) (hby:i.bytes=bytes) (hzs:z.cells.size=size) (hsz:0<size)
 (v:Value) (n:Nat) (xs:List Value) (hs:a.eval s=v) (hown:w.ownsRow base e size v n xs) (ad:Addr) (m c:Nat) (news:List Value) (hx:a.eval x= .slice (some ad) m c) (hl:news.length=m*size)
 (hnews: ∀j u,news[j]?=some u→w.cell? (ad.add j)=some u) (h1: ∀u∈news,u.oneCell'=true) (h63:n+m≤maxLen) (hbytes:(n+m)*bytes≤140737488355328) (hbase:base≤w.heap.size)
 (h: ∀v' w',w'.ownsRow base e size v' (n+m) (xs++news)→w.grownBy w' v.ownBlock→(v'.ownBlock=v.ownBlock∨v'.ownBlock=some w.heap.size)→K (a.put o.dst v') w'):
 if Region.wanted o (yielded ops a.tmps)=true then Oper.wp P o a w K Q else E:=by
 rw [if_pos (show Region.wanted o (yielded ops a.tmps)=true by simp [Region.wanted,hgd])];obtain ⟨v',w',hr,h2,h3,h4,h5⟩:=run_append_own_at (P:=P) w base t o.type e i z size bytes ht hi hz hsize hby hzs hsz v n xs hown ad m c news hl hnews h1 h63 hbytes hbase;unfold Oper.wp execOp;simp only [ho,resolve,invoke,builtin,Sem.run_bind,Sem.run_pure,Result.andThen_ok,List.map_toArray,List.map_cons,List.map_nil,hs,hx,hr];exact h v' w' h2 h3 h5
theorem St.rowLit {w0:Gnd} {w:World} {rs:List Res} (h:St w0 w rs) (t:TypeId) (ht: ¬U8T t) (s:Nat) (c:Array Value) (n:Nat) (hm:n≤maxLen) (hs:c.size=n*s):
 St w0 (w.alloc (.cells c t (0,0))) (QW t ht s (.slice (some ⟨w.heap.size,0,none⟩) n n) n c.toList::rs):=
 h.make ((Frm.refl _ _).alloc _) (QW t ht s _ _ _) (World.ownsRow_lit w c n (Nat.zero_le _) hm hs) (fun x hx=>by
  have e:some w.heap.size=some x:=hx;injection e with e
  omega)
theorem Qem (pre rs:List Res) (a:Nat) (X Y:Res):(pre++rs.set a X).set (pre.length+a) Y=pre++rs.set a Y:=by
 rw [List.set_append_right _ _ (by omega),show pre.length+a-pre.length=a from by omega,List.set_set]
theorem E1 (pre rs:List Res) (a:Nat) (X:Res) (h:a<rs.length):(pre++rs.set a X)[pre.length+a]?=some X:=by
 rw [List.getElem?_append_right (by omega),show pre.length+a-pre.length=a from by omega,List.getElem?_set_self h]
theorem QfB {w0:Gnd} {w:World} {pre rs:List Res} (h:St w0 w (pre++rs)) (a i0:Nat) {H:Hdl} {D:DSt} (hr:rs[a]?=some (dev H D)) {blk cap n:Nat} {xs:List Value} {ht: ¬U8T (100:TypeId)}
 (hrow:pre[i0]?=some (QW 100 ht 1 (.slice (some ⟨blk,0,none⟩) n cap) n xs)) (g:Nat→FuncId) (fst cp:Nat→Array Value) (hx: ∀i,i<n→xs[i]?=some (.func (.func (g i)) (fst i) (cp i)))
 (he: ∀i,i<n→QE prog (g i)) (hn:n≤1000000) (L:List (List DOp)) (hL:L.length=n)
 (hs: ∀i E W,i<n→E.n=D.n→E.ops≤D.ops+(L.take i).flatten.length→St w0 W (pre++rs.set a (dev H E))→Calls prog (g i) (fst i++cp i) W (U5 w0 (pre++rs.set a (dev H E)) (pre.length+a) H (L.getD i []) E)):
 Calls prog 141 #[.slice (some ⟨blk,0,none⟩) n cap] w fun e w'=>e= .returned (.int .i64 (Jp L.flatten D))∧St w0 w' (pre++rs.set a (dev H (QL L.flatten D))):=by
 have ha:a<rs.length:=(List.getElem?_eq_some_iff.1 hr).1;refine (E9 w blk 0 n cap (fun i W=>Jp (L.take i).flatten D=0∧St w0 W (pre++rs.set a (dev H (QL (L.take i).flatten D))))
  (fun x W=>x=Jp L.flatten D∧St w0 W (pre++rs.set a (dev H (QL L.flatten D)))) g fst cp ?_ ?_ he hn ?_).mono ?_
 ·refine ⟨rfl,?_⟩;have e:rs.set a (dev H D)=rs:=by
   obtain ⟨h1,h2⟩:=List.getElem?_eq_some_iff.1 hr;rw [←h2];exact List.set_getElem_self h1
  show St w0 w (pre++rs.set a (dev H D));rw [e];exact h
 ·intro i W hi hW;have hi0:i0<pre.length:=(List.getElem?_eq_some_iff.1 hrow).1;have ho:W.ownsRow 0 100 1 (.slice (some ⟨blk,0,none⟩) n cap) n xs:=hW.2.get (i:=i0) (by rw [List.getElem?_append_left hi0];exact hrow);have h1:=ho.cells (g:=blk) rfl i _ (hx i hi);rw [show (⟨blk,0,none⟩:Addr).add i=⟨blk,0+i,none⟩ from by unfold Addr.add;split<;>simp_all] at h1;exact h1
 ·intro i W hi hW;have hsplit:(L.take (i+1)).flatten=(L.take i).flatten++L.getD i []:=by
   rw [List.take_succ_eq_append_getElem (by omega),List.flatten_append,List.getD_eq_getElem?_getD,List.getElem?_eq_getElem (by omega)];simp
  obtain ⟨e1,e2⟩:=YH (L.take i).flatten (L.getD i []) D hW.1;rw [←hsplit] at e1 e2;refine (hs i _ W hi (Ea _ _) (Ko _ _) hW.2).mono fun e w' hret=>⟨_,hret.1,fun h0=>⟨e2.trans h0,?_⟩,fun h0=>?_⟩
  ·have:=hret.2;rw [Qem,←e1] at this;exact this
  ·have h9:=(Ym (L.getD i []) (QL (L.take i).flatten D)).resolve_left h0;have hst:=Vo (L.take (i+1)).flatten (L.drop (i+1)).flatten D (e2.trans h9);rw [←List.flatten_append,List.take_append_drop] at hst;have:=hret.2;rw [Qem,←e1,←hst.1] at this;exact ⟨h9.trans hst.2.symm,this⟩
 ·rintro e w' (⟨h1,h2,h3⟩ | ⟨x,hx,h1,h2,h3⟩)
  ·rw [List.take_of_length_le (by omega)] at h2 h3;exact ⟨by rw [h1,h2],h3⟩
  ·exact ⟨by rw [h1,h2],h3⟩
theorem Qdd {w0:Gnd} {w:World} {pre rs:List Res} (h:St w0 w (pre++rs)) (a i0:Nat) {H:Hdl} {D:DSt} (hr:rs[a]?=some (dev H D)) {blk cap n:Nat} {xs:List Value} {ht: ¬U8T (100:TypeId)}
 (hrow:pre[i0]?=some (QW 100 ht 1 (.slice (some ⟨blk,0,none⟩) n cap) n xs)) (hn:n≤1000000) (L:List (List DOp)) (hL:L.length=n)
 (hs: ∀i,i<n→∃(g:FuncId) (fst cp:Array Value),xs[i]?=some (.func (.func g) fst cp)∧QE prog g∧∀E W,E.n=D.n→E.ops≤D.ops+(L.take i).flatten.length→St w0 W (pre++rs.set a (dev H E))→Calls prog g (fst++cp) W (U5 w0 (pre++rs.set a (dev H E)) (pre.length+a) H (L.getD i []) E)):
 Calls prog 141 #[.slice (some ⟨blk,0,none⟩) n cap] w fun e w'=>e= .returned (.int .i64 (Jp L.flatten D))∧St w0 w' (pre++rs.set a (dev H (QL L.flatten D))):=by
 have hch: ∃G:Nat→FuncId×Array Value×Array Value,∀i,i<n→xs[i]?=some (.func (.func (G i).1) (G i).2.1 (G i).2.2)∧QE prog (G i).1∧∀E W,E.n=D.n→E.ops≤D.ops+(L.take i).flatten.length→St w0 W (pre++rs.set a (dev H E))→Calls prog (G i).1 ((G i).2.1++(G i).2.2) W (U5 w0 (pre++rs.set a (dev H E)) (pre.length+a) H (L.getD i []) E):=
  ⟨fun i=>if h:i<n then ((hs i h).choose,(hs i h).choose_spec.choose,(hs i h).choose_spec.choose_spec.choose) else (0,#[],#[]),fun i hi=>by
   simp only [dif_pos hi];exact (hs i hi).choose_spec.choose_spec.choose_spec⟩
 obtain ⟨G,hG⟩:=hch;exact QfB h a i0 hr hrow (fun i=>(G i).1) (fun i=>(G i).2.1) (fun i=>(G i).2.2) (fun i hi=>(hG i hi).1) (fun i hi=>(hG i hi).2.1) hn L hL (fun i E W hi h1 h2 h3=>(hG i hi).2.2 E W h1 h2 h3)
theorem OM (L:List (List DOp)) (i:Nat):(L.take i).flatten.length≤L.flatten.length:=by
 have e:L.flatten=(L.take i).flatten++(L.drop i).flatten:=by rw [←List.flatten_append,List.take_append_drop]
 rw [e,List.length_append];omega
theorem Ek: ∀l:List DOp,(l.map fun o=> [o]).flatten=l
 | []=>rfl
 | o::r=>by
   show [o]++(r.map fun o=> [o]).flatten=_;rw [Ek r];rfl
theorem Ev (t:Nat): ∀(l:List Blk) (i j:Nat) (b:Blk),l[j]?=some b→(Ja t i l)[j]?=some (.wr (Qp t+1+(i+j)) b)
 | [],_,_,_,h=>by simp at h
 | c::r,i,0,b,h=>by simp at h;subst h;rfl
 | c::r,i,j+1,b,h=>by
   have:=Ev t r (i+1) j b (by simpa using h);rw [show i+1+j=i+(j+1) from by omega] at this;exact this
theorem St.rowAppend0 {w0:Gnd} {w:World} {rs:List Res} (h:St w0 w rs) (i:Nat) {t:TypeId} {ht: ¬U8T t} {s n:Nat} {v:Value} {xs:List Value} (hr:rs[i]?=some (QW t ht s v n xs)) {v':Value} {w':World} {m:Nat} {ys:List Value}
 (ho:w'.ownsRow 0 t s v' m ys) (hg:w.grownBy w' v.ownBlock) (hat:v'.ownBlock=v.ownBlock∨v'.ownBlock=some w.heap.size):
 St w0 w' (rs.set i (QW t ht s v' m ys)):=by
 refine h.write i hr ((Frm.ofGrown hg).mono (fun y _ e=>e)) (QW t ht s v' m ys) ho (fun x hx=>?_);rcases hat with e | e
 ·exact .inl (show v.ownBlock=some x from e▸(show v'.ownBlock=some x from hx))
 ·have hx:v'.ownBlock=some x:=hx;rw [e] at hx;have e':w.heap.size=x:=by injection hx
  exact .inr (by omega)
def YX (ks:List Nat) (vs:List Value):List (Nat×Nat)→List Res
 | []=> []
 | p::r=>arr p.1 #[.int .i64 (r.length:Int)] 3 Jj::arr p.2 #[.int .i64 (ks.getD r.length 0:Nat),vs.getD r.length undef] 274 VD::YX ks vs r
def VK (bj bn:Nat):List (Nat×Nat)→List Value
 | []=> []
 | p::r=>VK bj bn r++ [.func (.func 345) #[] #[.pointer (some ⟨bj,0,none⟩),.pointer (some ⟨bn,0,none⟩),.pointer (some ⟨p.1,0,none⟩),.pointer (some ⟨p.2,0,none⟩)]]
theorem Y5 (bj bn:Nat): ∀l,(VK bj bn l).length=l.length
 | []=>rfl
 | p::r=>by rw [VK,List.length_append,Y5 bj bn r];rfl
theorem Qcs (bj bn:Nat): ∀l,∀u∈VK bj bn l,u.oneCell'=true
 | [],u,h=>by cases h
 | p::r,u,h=>by
   rw [VK] at h;rcases List.mem_append.1 h with h | h
   ·exact Qcs bj bn r u h
   ·simp at h;subst h;rfl
theorem QcK (ks:List Nat) (vs:List Value) (bj bn:Nat): ∀(l:List (Nat×Nat)) (i:Nat),i<l.length→∃p:Nat×Nat,
 (VK bj bn l)[i]?=some (.func (.func 345) #[] #[.pointer (some ⟨bj,0,none⟩),.pointer (some ⟨bn,0,none⟩),.pointer (some ⟨p.1,0,none⟩),.pointer (some ⟨p.2,0,none⟩)])∧
 arr p.1 #[.int .i64 (i:Int)] 3 Jj∈YX ks vs l∧arr p.2 #[.int .i64 (ks.getD i 0:Nat),vs.getD i undef] 274 VD∈YX ks vs l
 | [],i,h=>by simp at h
 | p::r,i,h=>by
   rcases Nat.lt_or_ge i r.length with hi | hi
   ·obtain ⟨q,h1,h2,h3⟩:=QcK ks vs bj bn r i hi;refine ⟨q,?_,List.mem_cons_of_mem _ (List.mem_cons_of_mem _ h2),List.mem_cons_of_mem _ (List.mem_cons_of_mem _ h3)⟩;rw [VK,List.getElem?_append_left (by rw [Y5];exact hi)];exact h1
   ·obtain rfl:i=r.length:=by simp at h;omega
    refine ⟨p,?_,?_,?_⟩
    ·rw [VK,List.getElem?_append_right (by rw [Y5];omega),Y5,Nat.sub_self];rfl
    ·unfold YX;exact List.mem_cons_self ..
    ·unfold YX;exact List.mem_cons_of_mem _ (List.mem_cons_self ..)
theorem QeX (W:World) (nb g n m:Nat) (hb:W.heap[nb]?=some (.cells #[.int .u64 g,.int .u64 n,.int .u64 m] 101 (0,0))) (hg:g<18446744073709551616) (hn:n<18446744073709551616) (hm:m<18446744073709551616):
 Calls prog 245 #[.string { data:= #[66,79,76,76,65,82,68,72] },.slice (some ⟨nb,0,none⟩) 3 3] W fun e w'=> ∃vb vo vc,e= .returned (.slice (some ⟨vb,vo,none⟩) 512 vc)∧Frm NoB W w'∧Qc w' (.slice (some ⟨vb,vo,none⟩) 512 vc) (laidB QU [g,n,m]) (QR W):=
 (QbM W { data:= #[66,79,76,76,65,82,68,72] } _ [g,n,m] ⟨_,_,rfl,fun i x hx=>by
  obtain ⟨h1,h2⟩:=List.getElem?_eq_some_iff.1 hx;have h3:i<3:=by simpa using h1
  refine ⟨nb,0,rfl,lt_of_block hb,?_⟩;rw [Qa hb,←h2];rcases (by omega:i=0∨i=1∨i=2) with rfl | rfl | rfl<;>rfl⟩ (by decide) (by simp) (fun x hx=>by simp at hx;rcases hx with rfl | rfl | rfl<;>assumption)).mono fun _ _ ⟨hf,v,e,hb⟩=>by
  obtain ⟨vb,vo,vc,rfl,_⟩:=hb.cells;have hL:(laidB ({ data:= #[66,79,76,76,65,82,68,72] }:ByteArray).data.toList [g,n,m]).length=512:=Vj g n m;rw [hL] at e hb;exact ⟨vb,vo,vc,e,hf,hb⟩
theorem Qki:QE prog 345:=QJ func345 (by kernel_rfl) rfl
theorem Qj1:QE prog 346:=QJ func346 (by kernel_rfl) rfl
end Go.Proofs.YtlemndledcmhiaaGreatDoor
