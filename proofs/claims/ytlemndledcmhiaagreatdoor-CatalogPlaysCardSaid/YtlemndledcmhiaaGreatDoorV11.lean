/-
  The catalog, from the device up, part 11.
-/
import Derived.Test.YtlemndledcmhiaaGreatDoorV10
import Derived.Laws.Runes
namespace Go.Proofs.YtlemndledcmhiaaGreatDoor
set_option linter.unusedVariables false
set_option linter.unusedSimpArgs false
set_option maxHeartbeats 8000000
set_option maxRecDepth 100000
open Tryz
open Lib (hid)
open Go.ChangeMaps Go.MapKept Go.RowKit
section
variable {w0:Gnd} {w:World} {rs:List Res}
theorem QhR (h:St w0 w rs):
 Calls prog 10 #[] w fun e w'=> ∃hb F X A ι cb mb n,e= .returned (.tuple #[.pointer (some ⟨hb,0,none⟩),.pointer (some ⟨F.fb,0,none⟩),.pointer (some ⟨cb,0,none⟩),.bool true])∧Fs w0 w' F X A ι (Je cb F.fb 1 mb::Q8 mb []::rs)∧Calm F X∧W7 A (QB 1 []) n []∧Qes A∧X.m=3∧X.fi=597∧X.fb=874:=by
 have HN:=hid (Qks h 1200 (by omega) (by omega));clear h;go_enter func10,ntmps10;go_wp2_with fail;refine HN.out.mono ?_;clear HN;rintro e w1 ⟨H,rfl,h1⟩;have HM:=hid (Qkp (ni:=600) (show St w0 w1 (dev H (DSt.new 1200)::rs) from h1) QeF (by decide));clear h1;go_wp2_with fail;refine HM.out.mono ?_;clear HM;rintro e w2 ⟨rfl,jh,J,D,cb,wb,ab,sb,J2,D2,hlim,hops,hl,h2⟩;have hk:=Qi3 H jh J D cb wb ab sb 1200 600;obtain ⟨s,hs⟩: ∃s,(Jv H jh J D cb wb ab sb (fun _=>Qs) 1200 0 (Qq 1200 600)).mk3.v=s:=⟨_,rfl⟩;rw [hs] at hl hk;have HK:=hid hk;have HO:=hid (Qih h2 hl hlim (by omega) QeF (by decide) (by decide) hk.sup);clear hk hl hlim hops h2 hs;go_wp2_with fail;refine HO.out.mono ?_;clear HO;rintro e w3 ⟨fb,lb,cb,wb,ab,sb,jh,J3,D3,rfl,hlim,h3⟩;have hf3:=Qhq QeF HK.out h3;obtain ⟨-,r1,r2⟩:=Qee (X:=Jv H jh J3 D3 cb wb ab sb s 1200 (1+1) (Qq 1200 600)) rfl HK.out QeF;have hc:=QjG hf3 rfl rfl rfl rfl hlim (by show 2<1000000;decide) (by omega) (by rw [r1];decide);have HX:Hid ((Jv H jh J3 D3 cb wb ab sb s 1200 (1+1) (Qq 1200 600)).m=2∧(Jv H jh J3 D3 cb wb ab sb s 1200 (1+1) (Qq 1200 600)).fb=877∧(Jv H jh J3 D3 cb wb ab sb s 1200 (1+1) (Qq 1200 600)).fi+1=600):=hid ⟨rfl,r1,r2⟩;obtain ⟨X,hX⟩: ∃X,Jv H jh J3 D3 cb wb ab sb s 1200 (1+1) (Qq 1200 600)=X:=⟨_,rfl⟩;rw [hX] at hc HX;rw [Qg5] at hc;have HC:=hid hc;clear h3 hf3 hlim r1 r2 hc hX HK;go_wp2_with fail;refine HC.out.mono ?_;clear HC;rintro e w4 ⟨rfl,A,ι,Y,n,h4,ht,hrt,q1,q2,q3,q4,q5,q6,q7,q8⟩;have ho:=Qgb h4 ht h4.2.root Qjo (by decide) Qjq;rw [Qg5] at ho;have HO:=hid ho;have HRT:=hid hrt;have HT:=hid (And.intro ht (And.intro q1 (And.intro q2 (And.intro q3 (And.intro q4 (And.intro q7 q8))))));clear h4 ht hrt q1 q2 q3 q4 q5 q6 q7 q8 ho;go_wp2_with fail;refine HO.out.mono ?_;clear HO;rintro e w5 ⟨ob,mb,rfl,h5⟩;have H5:=hid h5;clear h5;go_wp2
 (try simp only [Exit.inBlock,Exit.then])
 refine bodyPost_ret (QbA rfl _ _ _) rfl ?_;refine ⟨H.b,⟨fb,lb,false,false,false⟩,Y,A,ι,ob,mb,n,rfl,H5.out,⟨rfl,rfl,HT.out.2.1,HT.out.2.2.1,HT.out.2.2.2.1⟩,HT.out.1,HRT.out,?_,?_,?_⟩
 ·have a:=HT.out.2.2.2.2.1;have b:=HX.out.1;omega
 ·have a:=HT.out.2.2.2.2.2.1;have b:=HX.out.2.2;omega
 ·have a:=HT.out.2.2.2.2.2.2;have b:=HX.out.2.1;omega
end
section
variable {α:Type} {mk:α→Value} {ok:α→Prop} {P:Program} {k t e:TypeId} {w:World} {b n:Nat} {f:α→Option Value}
theorem Qn.delete [DecidableEq α] (K:JK P k mk ok) (ht:P.underlying t=some (.map k e)) (h:Qn mk ok w b n f) {a:α} (ha:ok a) (hs:(f a).isSome=true):
 ∃o,(∀ty W,W.heap[b]?=w.heap[b]?→(Builtin.delete_ #[t,k] ty #[.map (some b),mk a]).run P W= .ok (.tuple #[]) (setBlock W b o))∧
  (∀W,b<W.heap.size→Qn mk ok (setBlock W b o) b (n-1) (upd f a none)):=by
 obtain ⟨es,clock,h1,h2,h3,h4,h5,h6⟩:=h.find K ha;obtain ⟨l,hl⟩:=K.lit a ha;rcases h6 with ⟨e1,e2,e3⟩ | ⟨j,x,e1,e2,e3,e4⟩
 ·rw [e1] at hs;cases hs
 ·have hj:=(List.getElem?_eq_some_iff.1 e3).1;have hjs:j<es.size:=by simpa using hj
  have hnd:es.toList.Pairwise (fun x y=>x.key≠y.key):=((stamped_iff es clock).1 h2).2.2;have hto:(es.eraseIdxIfInBounds j).toList=es.toList.eraseIdx j:=by
   unfold Array.eraseIdxIfInBounds;rw [dif_pos hjs];simp
  have hmem: ∀y,y∈(es.eraseIdxIfInBounds j).toList↔y∈es.toList∧y.key≠mk a:=by
   intro y;rw [hto,List.mem_eraseIdx_iff_getElem?];constructor
   ·rintro ⟨i,hij,hi⟩;refine ⟨List.mem_of_getElem? hi,fun hk=>?_⟩;obtain ⟨g1,g2⟩:=List.getElem?_eq_some_iff.1 hi;obtain ⟨g3,g4⟩:=List.getElem?_eq_some_iff.1 e3;have hp:=List.pairwise_iff_getElem.1 hnd;rcases Nat.lt_or_gt_of_ne hij with hlt | hlt
    ·exact hp i j g1 g3 hlt (by rw [g2,g4,hk,e4])
    ·exact hp j i g3 g1 hlt (by rw [g2,g4,hk,e4])
   ·rintro ⟨hy,hk⟩;obtain ⟨i,hi⟩:=List.getElem?_of_mem hy;refine ⟨i,fun hij=>?_,hi⟩;subst hij;rw [e3] at hi;cases hi;exact hk e4
  refine ⟨.map (es.eraseIdxIfInBounds j) clock,fun ty W hW=>?_,fun W hb=>?_⟩
  ·rw [h1] at hW;simp [Builtin.delete_,run_underlying ht,MapKept.run_getObj_map hW,K.keyed.check W _ hl,e2,MapKept.run_setObj_map _ hW,Result.andThen,ChangeMaps.setBlock]
  ·refine ⟨_,_,JM _ hb,stamped_erase h2 j,?_,?_,?_⟩
   ·intro y hy;exact h3 y ((hmem y).1 hy).1
   ·rw [←Array.length_toList,hto,List.length_eraseIdx_of_lt hj,Array.length_toList,h4]
   ·intro a' v' ha';unfold upd;by_cases hc:a'=a
    ·subst hc;rw [if_pos rfl];constructor
     ·intro hv;cases hv
     ·rintro ⟨y,hy,hy2,hy3⟩;exact absurd hy2 ((hmem y).1 hy).2
    ·rw [if_neg hc,h5 a' v' ha'];constructor
     ·rintro ⟨y,hy,hy2,hy3⟩;exact ⟨y,(hmem y).2 ⟨hy,fun e'=>hc (K.inj _ _ (hy2.symm.trans e'))⟩,hy2,hy3⟩
     ·rintro ⟨y,hy,hy2,hy3⟩;exact ⟨y,((hmem y).1 hy).1,hy2,hy3⟩
end
def Yc (nm:ByteArray) (L:List Tp):List Tp:=L.filter fun t=>!decide (t.nm=nm)
theorem Uz {nm:ByteArray} {L:List Tp} {t:Tp}:t∈Yc nm L↔t∈L∧t.nm≠nm:=by
 simp [Yc,List.mem_filter]
theorem Q9.del {L:List Tp} (h:Q9 L) (nm:ByteArray):Q9 (Yc nm L):=
 ⟨h.asc.filter _,fun x hx=>h.nm x (Uz.1 hx).1⟩
theorem Q9.map_del {L:List Tp} (h:Q9 L) {nm:ByteArray} (hn:nm.size≤50) (a:Blk):QX (Yc nm L) a=if a=Qj nm then none else QX L a:=by
 apply Option.ext;intro x;rw [(h.del nm).map_iff,Uz];by_cases e:a=Qj nm
 ·rw [if_pos e];constructor
  ·rintro ⟨⟨h1,h2⟩,h3⟩;exact absurd (JO _ _ hn (h.nm x h1) (e.symm.trans h3)).symm h2
  ·intro h3;cases h3
 ·rw [if_neg e,h.map_iff];constructor
  ·rintro ⟨⟨h1,h2⟩,h3⟩;exact ⟨h1,h3⟩
  ·rintro ⟨h1,h2⟩;exact ⟨⟨h1,fun e'=>e (by rw [h2,e'])⟩,h2⟩
theorem QjC {L:List Tp} (h:L.Pairwise fun x y=>QD x.nm y.nm=true):L.Pairwise fun x y=>x.nm≠y.nm:=
 h.imp fun {x y} hxy e=>by rw [e,J0] at hxy;cases hxy
theorem Q9.del_length {L:List Tp} (h:Q9 L) {t:Tp} (ht:t∈L):(Yc t.nm L).length+1=L.length:=by
 have hnd:=QjC h.asc;clear h
 induction L with
 | nil=>cases ht
 | cons x r ih=>
   rw [List.pairwise_cons] at hnd;unfold Yc;by_cases e:x.nm=t.nm
   ·have:r.filter (fun y=>!decide (y.nm=t.nm))=r:=by
     rw [List.filter_eq_self];intro y hy;have:=hnd.1 y hy;rw [e] at this;simp [Ne.symm this]
    rw [List.filter_cons,if_neg (by simp [e]),this,List.length_cons]
   ·have hr:t∈r:=by
     rcases List.mem_cons.1 ht with rfl | hr
     ·exact absurd rfl e
     ·exact hr
    have:=ih hr hnd.2;unfold Yc at this;rw [List.filter_cons,if_pos (by simp [e]),List.length_cons,List.length_cons];omega
section
variable {w0:Gnd} {w:World} {rs:List Res} {X:Sys} {F:FH} {A:Path→Option Nd} {ι:Path→Nat}
theorem WS {L:List Tp} (hL:Q9 L) {nm:ByteArray} (hn:nm.size≤50) (hno: ∀x∈L,x.nm≠nm):tpV (QX L) (Qj nm)=none:=by
 have:QX L (Qj nm)=none:=by
  cases hq:QX L (Qj nm) with
  | none=>rfl
  | some t=>
    have h1:=(hL.map_iff _ _).1 hq;exact absurd (JO _ _ hn (hL.nm t h1.1) h1.2).symm (hno t h1.1)
 unfold tpV;rw [this];rfl
theorem Qc6 {L:List Tp} (hL:Q9 L) {t:Tp} (ht:t∈L):tpV (QX L) (Qj t.nm)=some (.agg t.cells):=by
 have:QX L (Qj t.nm)=some t:=(hL.map_iff _ _).2 ⟨ht,rfl⟩;unfold tpV;rw [this];rfl
theorem Fs.catAt (h:Fs w0 w F X A ι rs) {i mb:Nat} {L:List Tp} (hr:rs[i]?=some (Q8 mb L)):Qn JA okK w mb L.length (tpV (QX L)):=by
 obtain ⟨⟨k,l,ha,-⟩,-⟩:=h;exact ha.mapAt (i:=i+2) hr
theorem Fs.catPut (h:Fs w0 w F X A ι rs) (i:Nat) {mb:Nat} {L:List Tp} (hr:rs[i]?=some (Q8 mb L)) (hL:Q9 L) (t:Tp) (ht:t.nm.size≤50) (hno: ∀x∈L,x.nm≠t.nm):
 ∃o,(Instr.mapUpdate 91 (.map (some mb)) (.agg ((Qj t.nm).map B8).toArray) (.agg t.cells)).run prog w= .ok () (setBlock w mb o)∧Fs w0 (setBlock w mb o) F X A ι (rs.set i (Q8 mb (JI t L))):=by
 obtain ⟨⟨k,l,ha,hl⟩,hrep⟩:=h;obtain ⟨o,q1,q2⟩:=ha.mapPut (i+2) hr YU underlying91 (a:=Qj t.nm) (Qr _ ht) (.agg t.cells);have e:VE JA okK mb (if (tpV (QX L) (Qj t.nm)).isSome then L.length else L.length+1) (upd (tpV (QX L)) (Qj t.nm) (some (.agg t.cells)))=Q8 mb (JI t L):=by
  unfold Q8;rw [YF,WS hL ht hno];have e2:upd (tpV (QX L)) (Qj t.nm) (some (.agg t.cells))=tpV (QX (JI t L)):=by
   funext a
   unfold upd tpV;rw [hL.map_ins t ht hno];by_cases e:a=Qj t.nm
   ·rw [if_pos e,if_pos e];rfl
   ·rw [if_neg e,if_neg e]
  rw [e2];rfl
 rw [e] at q2;exact ⟨o,q1 w rfl,⟨k,l,q2,hl⟩,hrep⟩
theorem Fs.catDel (h:Fs w0 w F X A ι rs) (i:Nat) {mb:Nat} {L:List Tp} (hr:rs[i]?=some (Q8 mb L)) (hL:Q9 L) {t:Tp} (ht:t∈L):
 ∃o,(∀ty,(Builtin.delete_ #[91,95] ty #[.map (some mb),.agg ((Qj t.nm).map B8).toArray]).run prog w= .ok (.tuple #[]) (setBlock w mb o))∧Fs w0 (setBlock w mb o) F X A ι (rs.set i (Q8 mb (Yc t.nm L))):=by
 have hm:=h.catAt hr;obtain ⟨⟨k,l,ha,hl⟩,hrep⟩:=h;obtain ⟨o,q1,q2⟩:=hm.delete YU underlying91 (a:=Qj t.nm) (Qr _ (hL.nm t ht)) (by rw [Qc6 hL ht];rfl);have e2:upd (tpV (QX L)) (Qj t.nm) none=tpV (QX (Yc t.nm L)):=by
  funext a
  unfold upd tpV;rw [hL.map_del (hL.nm t ht)];by_cases e:a=Qj t.nm
  ·rw [if_pos e,if_pos e];rfl
  ·rw [if_neg e,if_neg e]
 have hl1:L.length-1=(Yc t.nm L).length:=by have:=hL.del_length ht;omega
 rw [e2,hl1] at q2;exact ⟨o,fun ty=>q1 ty w rfl,⟨k,l,⟨ha.1.write (i+3) hr ((Frm.refl (Q0 mb) w).setBlock (.inl (Q0.self mb)) o) (Q8 mb (Yc t.nm L)) (q2 w hm.lt) fun _ hx=> .inl hx,ha.2⟩,hl⟩,hrep⟩
theorem Oc {k:Nat} (h:k<1000000):I64 (k:Int):=by constructor<;>omega
structure QhN (X Y:Sys) (A A':Path→Option Nd) (old new:Blk):Prop where
 same:Ot X Y
 op:Y.op=false
 l:Y.l= []
 m:Y.m=X.m+1
 tree:A'=Q4 A [cN,lsN] (some (.file new))
 fi:Y.fi=X.fi
 fb:Y.fb+dat new.length=X.fb+dat old.length
theorem gone {X X' Y:Sys} {A A':Path→Option Nd} {C C1:List Nat} {old new:Blk} (hs:Wd X.open' X' C C1 old new) (hA:A'=Q4 A [cN,lsN] (some (.file new))) (hx:X'=X.open'.wr X'.l) (hc:Comm X' Y):QhN X Y A A' old new:=by
 have e1:Y.fi=X'.fi:=by unfold Sys.fi;rw [hc.v,hc.same.P]
 have e2:Y.fb=X'.fb:=by unfold Sys.fb;rw [hc.v,hc.same.P]
 have f1:X.open'.fi=X.fi:=rfl;have f2:X.open'.fb=X.fb:=rfl;refine ⟨Ot.trans (by rw [hx];exact ⟨rfl,rfl,rfl,rfl,rfl,rfl,rfl⟩) hc.same,hc.op,hc.l,hc.m.trans (by rw [hx];rfl),hA,?_,?_⟩
 ·have a2:=hs.fi;omega
 ·have a2:=hs.fb;omega
def Yt (nm:ByteArray) (b:Bool):Prop:= ∀W,Calls prog 40 #[.string nm] W fun e w'=>e= .returned (.bool b)∧Frm NoB W w'
theorem named {nm:ByteArray} (h:Qy nm):Yt nm true:=fun W=>QaZ W nm h
def Wm (o:Option Tp):Value:=match o with
 | some t=> .tuple #[.agg t.cells,.bool true]
 | none=> .tuple #[.agg (tp0),.bool false]
theorem Qew (h:Fs w0 w F X A ι rs) {cb mb i:Nat} {next:Int} (hr:rs[i]?=some (Je cb F.fb next mb)) {nm:ByteArray} (hn:nm.size≤50) (hN:Yt nm true) (q0:ByteArray) (q1 q2 q3 q4 q5:Int) (q6:Bool) (q7:Int) (ok:Bool)
 (hlk: ∀z rs',Fs w0 z F X A ι (rs'++rs)→(Instr.lookup 91 (.map (some mb)) (.agg ((Qj nm).map B8).toArray) true).run prog z= .ok (.tuple #[.agg #[.string q0,.int .i64 q1,.int .i64 q2,.int .i64 q3,.int .i64 q4,.int .i64 q5,.bool q6,.int .i64 q7],.bool ok]) z):
 Calls prog 23 #[.pointer (some ⟨cb,0,none⟩),.string nm] w fun e w'=>e= .returned (.tuple #[.agg (tpz q0 q1 q2 q3 q4 q5 q6 q7),.bool ok])∧Fs w0 w' F X A ι rs:=by
 have hh:=h.newArr (tp0) 31 Jd;obtain ⟨y,hy⟩: ∃y,w.alloc (.cells (tp0) 31 (0,0))=y:=⟨_,rfl⟩;obtain ⟨b1,hb1⟩: ∃b1,w.heap.size=b1:=⟨_,rfl⟩;rw [hy,hb1] at hh;have HY:=hid (And.intro hy hb1);have HN:=hid (hN y);have HH:=hid hh;have KL:Hid (∀W,Fs w0 W F X A ι (arr b1 (tp0) 31 Jd::rs)→W.cell? ⟨cb,3,none⟩=some (.map (some mb))∧(Instr.lookup 91 (.map (some mb)) (.agg ((Qj nm).map B8).toArray) true).run prog W= .ok (.tuple #[.agg #[.string q0,.int .i64 q1,.int .i64 q2,.int .i64 q3,.int .i64 q4,.int .i64 q5,.bool q6,.int .i64 q7],.bool ok]) W):=hid fun W hW=>
  ⟨(hW.arrCell (i:=i+1) hr 3).trans rfl,hlk W [_] hW⟩
 have KO:Hid (∀W,Calls prog 42 #[.string nm] W fun e w'=>e= .returned (.agg ((Qj nm).map B8).toArray)∧Frm NoB W w'):=hid fun W=>QfK W nm hn
 clear h hr hn hN hlk hh hy hb1;go_enter func23,ntmps23;go_upto_region 1 with (refine Qg rfl _ _ JU rfl ?_)
 rw [HY.out.1,HY.out.2];clear HY;go_wp2_with fail;refine HN.out.mono ?_;clear HN;rintro e w3 ⟨rfl,hf⟩;have HH3:=hid (HH.out.frm hf);have HHd:=hid (HH3.out.frm (Frm.refl NoB w3).drew);clear hf HH;obtain ⟨k1,k2⟩:=KL.out _ HH3.out;go_upto_region 3 with fail
 go_cut [6,7] from 16 (fun t6 t7 wx=> ∃g,t6= .pointer (some ⟨g,0,none⟩)∧t7= .bool ok∧Fs w0 wx F X A ι (arr g (tpz q0 q1 q2 q3 q4 q5 q6 q7) 31 Jd::arr b1 (tp0) 31 Jd::rs))
 case first=>
  refine wp_region_held_drew (S:=(fun y=>y.cell? ⟨cb,3,none⟩=some (.map (some mb))∧(Instr.lookup 91 (.map (some mb)) (.agg ((Qj nm).map B8).toArray) true).run prog y= .ok (.tuple #[.agg #[.string q0,.int .i64 q1,.int .i64 q2,.int .i64 q3,.int .i64 q4,.int .i64 q5,.bool q6,.int .i64 q7],.bool ok]) y)) (by kernel_rfl) (KL.out _ HHd.out) (fun hHeld=>?_);refine tkA (i:=0) rfl ?_
  try simp only [Act.put,tkS,tkZ,tkC]
  refine tkA (i:=1) rfl ?_
  try simp only [Act.put,tkS,tkZ,tkC]
  refine tkA (i:=2) rfl ?_
  try simp only [Act.put,tkS,tkZ,tkC]
  refine tkA (i:=3) rfl ?_
  try simp only [Act.put,tkS,tkZ,tkC]
  refine tkA (i:=4) rfl ?_
  try simp only [Act.put,tkS,tkZ,tkC]
  refine wpAnyH_ready (rs:= [5,10]) (by kernel_rfl) (by simp) ?_;refine AllReadyH.cons rfl (fun K hK=>?_) ?_
  ·go_simp;refine (KO.out _).mono ?_;rintro e w4 ⟨rfl,hf4⟩;go_wp2_with fail;have HH4:=hid (HHd.out.frm hf4);clear hf4;refine hK.out _ _ (KL.out _ HH4.out) (fun hHeld=>?_);clear hK K
   try simp only [Act.put,tkS,tkZ,tkC]
   refine tkA (i:=6) rfl ?_
   try simp only [Act.put,tkS,tkZ,tkC]
   refine tkA (i:=7) rfl ?_
   try simp only [Act.put,tkS,tkZ,tkC]
   refine tkA (i:=8) rfl ?_
   try simp only [Act.put,tkS,tkZ,tkC]
   refine tkA (i:=9) rfl ?_;change wpAnyH _ _ _ _ _ _ _ (Act.put _ (some 25) _) _
   try simp only [Act.put,tkS,tkZ,tkC]
   refine wpAnyH_ready (rs:= [10]) (by kernel_rfl) (by simp) ?_;refine AllReadyH.cons rfl (fun K hK=>?_) AllReadyH.nil;go_simp;have HA:=hid (HH4.out.newArr (tp0) 31 Jd);refine hK.out _ _ (KL.out _ (HA.out.drop 1)) (fun hHeld=>?_);clear hK K
   try simp only [Act.put,tkS,tkZ,tkC]
   refine wpAnyH_ready (rs:= [11]) (by kernel_rfl) (by simp) ?_;refine AllReadyH.cons rfl (fun K hK=>?_) AllReadyH.nil;rw [if_pos (by rfl)];refine wp_store_row 31 _ _ rfl w4.heap.size (tpz q0 q1 q2 q3 q4 q5 q6 q7) rfl rfl _ _ (HA.out.block (i:=0) rfl) (Jz _ _ _ _ _ _ _ _) rfl (Uc _ _ _ _ _ _ _ _) ?_;have HB:=hid (HA.out.setRow 0 (c':=(tpz q0 q1 q2 q3 q4 q5 q6 q7)) rfl);refine hK.out _ _ (KL.out _ (HB.out.drop 1)) (fun hHeld=>?_);clear hK K
   try simp only [Act.put,tkS,tkZ,tkC]
   refine tkA (i:=12) rfl ?_;change wpAnyH _ _ _ _ _ _ _ (Act.put _ (some 7) _) _
   try simp only [Act.put,tkS,tkZ,tkC]
   refine wpAnyH_done (by kernel_rfl) ?_ _;go_wp2_with fail;go_meet;exact ⟨_,rfl,rfl,HB.out⟩
  ·refine AllReadyH.cons rfl (fun K hK=>?_) AllReadyH.nil;go_simp;have HA:=hid ((HH3.out.newArr (tp0) 31 Jd).frm (Frm.refl NoB _).drew);refine hK.out _ _ (KL.out _ (HA.out.drop 1)) (fun hHeld=>?_);clear hK K
   try simp only [Act.put,tkS,tkZ,tkC]
   obtain ⟨wa,hwa⟩: ∃wa,(w3.alloc (.cells (tp0) 31 (0,0))).drew=wa:=⟨_,rfl⟩;obtain ⟨ga,hga⟩: ∃ga,w3.heap.size=ga:=⟨_,rfl⟩;change wpAnyH _ _ _ _ _ _ _ _ ((w3.alloc (.cells (tp0) 31 (0,0))).drew);have hHeld2:=hHeld;clear hHeld;have hHeld:=KL.out _ (HA.out.drop 1);clear hHeld2;rw [hwa,hga] at HA;rw [hwa] at hHeld;rw [hwa,hga];clear hwa hga;refine wpAnyH_ready (rs:= [5]) (by kernel_rfl) (by simp) ?_;refine AllReadyH.cons rfl (fun K hK=>?_) AllReadyH.nil;go_simp;refine (KO.out _).mono ?_;rintro e w4 ⟨rfl,hf4⟩;go_wp2_with fail;have HH4:=hid (HA.out.frm hf4);clear hf4 HA;refine hK.out _ _ (KL.out _ (HH4.out.drop 1)) (fun hHeld=>?_);clear hK K
   try simp only [Act.put,tkS,tkZ,tkC]
   refine tkA (i:=6) rfl ?_
   try simp only [Act.put,tkS,tkZ,tkC]
   refine tkA (i:=7) rfl ?_
   try simp only [Act.put,tkS,tkZ,tkC]
   refine tkA (i:=8) rfl ?_
   try simp only [Act.put,tkS,tkZ,tkC]
   refine tkA (i:=9) rfl ?_;change wpAnyH _ _ _ _ _ _ _ (Act.put _ (some 25) _) _
   try simp only [Act.put,tkS,tkZ,tkC]
   refine wpAnyH_ready (rs:= [11]) (by kernel_rfl) (by simp) ?_;refine AllReadyH.cons rfl (fun K hK=>?_) AllReadyH.nil;rw [if_pos (by rfl)];refine wp_store_row 31 _ _ rfl ga (tpz q0 q1 q2 q3 q4 q5 q6 q7) rfl rfl _ _ (HH4.out.block (i:=0) rfl) (Jz _ _ _ _ _ _ _ _) rfl (Uc _ _ _ _ _ _ _ _) ?_;have HB:=hid (HH4.out.setRow 0 (c':=(tpz q0 q1 q2 q3 q4 q5 q6 q7)) rfl);refine hK.out _ _ (KL.out _ (HB.out.drop 1)) (fun hHeld=>?_);clear hK K
   try simp only [Act.put,tkS,tkZ,tkC]
   refine tkA (i:=12) rfl ?_;change wpAnyH _ _ _ _ _ _ _ (Act.put _ (some 7) _) _
   try simp only [Act.put,tkS,tkZ,tkC]
   refine wpAnyH_done (by kernel_rfl) ?_ _;go_wp2_with fail;go_meet;exact ⟨_,rfl,rfl,HB.out⟩
 case rest=>
  obtain ⟨g,rfl,rfl,hcut⟩:=hcut;have HG:=hid (hcut.block (i:=0) rfl);have HB1:=hid (hcut.block (i:=1) rfl);have HB:=hid (hcut.setRow 1 (c':=tpz q0 q1 q2 q3 q4 q5 q6 q7) rfl);clear hcut KL KO HH3 HHd k1 k2;go_wp2_with (first | (refine Of rfl _ rfl g rfl q0 q1 q2 q3 q4 q5 q6 q7 HG.out ?_) | (refine JE rfl _ _ rfl b1 q0 q1 q2 q3 q4 q5 q6 q7 rfl rfl _ rfl HB1.out ?_));have hld:=run_loadVar_row (P:=prog) _ b1 31 31 (tpz q0 q1 q2 q3 q4 q5 q6 q7) (0,0) _ (HB.out.block (i:=1) rfl) underlying31 rfl (Jz _ _ _ _ _ _ _ _)
  (try simp only [Exit.inBlock,Exit.then])
  exact bodyPost_ret (v:= .tuple #[.agg (tpz q0 q1 q2 q3 q4 q5 q6 q7),.bool ok]) (Qx results23 _ _ ⟨b1,0,none⟩ rfl _ hld) rfl ⟨rfl,HB.out.drop 2⟩
theorem Qdr (h:Fs w0 w F X A ι rs) {cb mb i j:Nat} {next:Int} {L:List Tp} (hr:rs[i]?=some (Je cb F.fb next mb)) (hr2:rs[j]?=some (Q8 mb L)) {nm:ByteArray} (hn:nm.size≤50) (hN:Yt nm true) {o:Option Tp} (ho:QX L (Qj nm)=o):
 Calls prog 23 #[.pointer (some ⟨cb,0,none⟩),.string nm] w fun e w'=>e= .returned (Wm o)∧Fs w0 w' F X A ι rs:=by
 have hm: ∀z rs',Fs w0 z F X A ι (rs'++rs)→(Instr.lookup 91 (.map (some mb)) (.agg ((Qj nm).map B8).toArray) true).run prog z= .ok (.tuple #[((o.map fun t=>Value.agg t.cells).getD (.agg (tp0))),.bool (o.map fun t=>Value.agg t.cells).isSome]) z:=fun z rs' hz=>by
  have hz:=hz.sub (List.sublist_append_right rs' rs);have this:=(hz.catAt hr2).lookup_ok YU underlying91 (a:=Qj nm) (Qr nm hn) JU z rfl;have e:tpV (QX L) (Qj nm)=o.map fun t=>Value.agg t.cells:=by unfold tpV;rw [ho]
  rw [e] at this;exact this
 cases o with
 | none=>exact Qew h hr hn hN ByteArray.empty 0 0 0 0 0 false 0 false hm
 | some t=>
   obtain ⟨a,b,c,d,e,f,g,k⟩:=t;exact Qew h hr hn hN a b c d e f g k true hm
theorem Oi: ¬U8T (29:TypeId):=by decide
theorem Qb3 {cb mb i:Nat} {next:Int} (h:Fs w0 w F X A ι rs) (hr:rs[i]?=some (Je cb F.fb next mb)) {nm:ByteArray} {b:Bool} (hN:Yt nm b) (P:Int) (hb:b=false∨P<1∨8<P) (p3 p4 p5:Int) (p6:Bool) (p7:Int):
 Calls prog 11 #[.pointer (some ⟨cb,0,none⟩),.string nm,.int .i64 P,.agg (stz p3 p4 p5 p6 p7)] w fun e w'=>e= .returned (.tuple #[.agg (tp0),.int .i64 1])∧Fs w0 w' F X A ι rs:=by
 have hh:=(((h.newArr #[.pointer (some ⟨cb,0,none⟩)] 25 J8).newArr (stz p3 p4 p5 p6 p7) 29 Oi).newArr (tp0) 31 Jd);simp only [size_alloc] at hh;obtain ⟨y,hy⟩: ∃y,((w.alloc (.cells #[.pointer (some ⟨cb,0,none⟩)] 25 (0,0))).alloc (.cells (stz p3 p4 p5 p6 p7) 29 (0,0))).alloc (.cells (tp0) 31 (0,0))=y:=⟨_,rfl⟩;obtain ⟨b1,hb1⟩: ∃b1,w.heap.size=b1:=⟨_,rfl⟩;rw [hy,hb1] at hh;obtain ⟨b2,hb2⟩: ∃b2,b1+1=b2:=⟨_,rfl⟩;rw [hb2] at hh;obtain ⟨b3,hb3⟩: ∃b3,b2+1=b3:=⟨_,rfl⟩;rw [hb3] at hh;have c0:y.cell? ⟨b1,0,none⟩=some (.pointer (some ⟨cb,0,none⟩)):=(hh.arrCell (i:=2) rfl 0).trans rfl;have HR:=hid (Y1 hh (i:=i+3) hr);have HN:=hid (hN y);have HY:=hid (And.intro hy (And.intro hb1 (And.intro hb2 hb3)));have HH:=hid hh;have HBD:=hid hb;clear h hr hN hb hh hy hb1 hb2 hb3;go_enter func11,ntmps11;go_upto_region 1 with (refine Qg rfl _ _ JU rfl ?_)
 rw [HY.out.1,HY.out.2.1,HY.out.2.2.1,HY.out.2.2.2];clear HY;go_wp2_with fail;refine HR.out.mono ?_;clear HR;rintro e w2 ⟨rfl,rfl⟩;go_wp2_with fail;refine HN.out.mono ?_;clear HN;rintro e w2 ⟨rfl,hf⟩;have HH2:=hid (HH.out.frm hf);have HB3:=hid (HH2.out.block (i:=0) rfl);have HX:=hid (HH2.out.setRow 0 (c':=tp0) rfl);clear HH hf c0;cases b with
 | false=>
   clear HBD;go_wp2_with (refine JE rfl _ _ rfl b3 ByteArray.empty 0 0 0 0 0 false 0 rfl rfl _ rfl HB3.out ?_);have hld:=run_loadVar_row (P:=prog) _ b3 31 31 (tp0) (0,0) _ (HX.out.block (i:=0) rfl) underlying31 rfl (Jz _ _ _ _ _ _ _ _)
   (try simp only [Exit.inBlock,Exit.then])
   exact bodyPost_ret (v:= .tuple #[.agg (tp0),.int .i64 1]) (Qx results11 _ _ ⟨b3,0,none⟩ rfl _ hld) rfl ⟨rfl,HX.out.drop 3⟩
 | true=>
   by_cases h1:P<1
   ·clear HBD;go_wp2_with (refine JE rfl _ _ rfl b3 ByteArray.empty 0 0 0 0 0 false 0 rfl rfl _ rfl HB3.out ?_);have hld:=run_loadVar_row (P:=prog) _ b3 31 31 (tp0) (0,0) _ (HX.out.block (i:=0) rfl) underlying31 rfl (Jz _ _ _ _ _ _ _ _)
    (try simp only [Exit.inBlock,Exit.then])
    exact bodyPost_ret (v:= .tuple #[.agg (tp0),.int .i64 1]) (Qx results11 _ _ ⟨b3,0,none⟩ rfl _ hld) rfl ⟨rfl,HX.out.drop 3⟩
   ·have h8:8<P:=by
     rcases HBD.out with e | e | e
     ·cases e
     ·omega
     ·exact e
    clear HBD;go_wp2_with (refine JE rfl _ _ rfl b3 ByteArray.empty 0 0 0 0 0 false 0 rfl rfl _ rfl HB3.out ?_);have hld:=run_loadVar_row (P:=prog) _ b3 31 31 (tp0) (0,0) _ (HX.out.block (i:=0) rfl) underlying31 rfl (Jz _ _ _ _ _ _ _ _)
    (try simp only [Exit.inBlock,Exit.then])
    exact bodyPost_ret (v:= .tuple #[.agg (tp0),.int .i64 1]) (Qx results11 _ _ ⟨b3,0,none⟩ rfl _ hld) rfl ⟨rfl,HX.out.drop 3⟩
theorem Qbm (w:World) (c d e:Int) (f:Bool) (g:Int) (hbad: ¬(512≤c∧c≤8192∧ -1≤d∧d≤1099511627776∧ -1≤e∧e≤1125899906842624∧0≤g∧g≤1125899906842624)):
 Calls prog 41 #[.agg (stz c d e f g)] w fun r w'=>r= .returned (.bool false)∧Frm NoB w w':=by
 have hb0:=Qb w (.cells (stz c d e f g) 29 (0,0));have hf0:=(Frm.refl NoB w).alloc (.cells (stz c d e f g) 29 (0,0));obtain ⟨y,hy⟩: ∃y,w.alloc (.cells (stz c d e f g) 29 (0,0))=y:=⟨_,rfl⟩;obtain ⟨k,hk⟩: ∃k,w.heap.size=k:=⟨_,rfl⟩;rw [hy,hk] at hb0;rw [hy] at hf0;have c0:y.cell? ⟨k,0,none⟩=some (.int .i64 c):=(Qa hb0).trans rfl;have c1:y.cell? ⟨k,1,none⟩=some (.int .i64 d):=(Qa hb0).trans rfl;have c2:y.cell? ⟨k,2,none⟩=some (.int .i64 e):=(Qa hb0).trans rfl;have c4:y.cell? ⟨k,4,none⟩=some (.int .i64 g):=(Qa hb0).trans rfl;have HF:=hid hf0;have HY:=hid (And.intro hy hk);have HBD:=hid hbad;clear hb0 hf0 hy hk hbad;by_cases k0:512≤c
 case neg=>
  have k0': ¬(512≤c):=k0;clear HBD;go_enter func41,ntmps41;go_upto_region 1 with fail
  rw [HY.out.1,HY.out.2];go_wp2_with fail;go_ret;exact ⟨rfl,HF.out⟩
 by_cases k1:c≤8192
 case neg=>
  have k1': ¬(c≤8192):=k1;clear HBD;go_enter func41,ntmps41;go_upto_region 1 with fail
  rw [HY.out.1,HY.out.2];go_wp2_with fail;go_ret;exact ⟨rfl,HF.out⟩
 by_cases k2: -1≤d
 case neg=>
  have k2': ¬(-1≤d):=k2;clear HBD;go_enter func41,ntmps41;go_upto_region 1 with fail
  rw [HY.out.1,HY.out.2];go_wp2_with fail;go_ret;exact ⟨rfl,HF.out⟩
 by_cases k3:d≤1099511627776
 case neg=>
  have k3': ¬(d≤1099511627776):=k3;clear HBD;go_enter func41,ntmps41;go_upto_region 1 with fail
  rw [HY.out.1,HY.out.2];go_wp2_with fail;go_ret;exact ⟨rfl,HF.out⟩
 by_cases k4: -1≤e
 case neg=>
  have k4': ¬(-1≤e):=k4;clear HBD;go_enter func41,ntmps41;go_upto_region 1 with fail
  rw [HY.out.1,HY.out.2];go_wp2_with fail;go_ret;exact ⟨rfl,HF.out⟩
 by_cases k5:e≤1125899906842624
 case neg=>
  have k5': ¬(e≤1125899906842624):=k5;clear HBD;go_enter func41,ntmps41;go_upto_region 1 with fail
  rw [HY.out.1,HY.out.2];go_wp2_with fail;go_ret;exact ⟨rfl,HF.out⟩
 by_cases k6:0≤g
 case neg=>
  have k6': ¬(0≤g):=k6;clear HBD;go_enter func41,ntmps41;go_upto_region 1 with fail
  rw [HY.out.1,HY.out.2];go_wp2_with fail;go_ret;exact ⟨rfl,HF.out⟩
 have k7: ¬(g≤1125899906842624):=fun k7=>HBD.out ⟨k0,k1,k2,k3,k4,k5,k6,k7⟩
 clear HBD;go_enter func41,ntmps41;go_upto_region 1 with fail
 rw [HY.out.1,HY.out.2];go_wp2_with fail;go_ret;exact ⟨rfl,HF.out⟩
theorem Qb8 {cb mb i:Nat} {next:Int} (h:Fs w0 w F X A ι rs) (hr:rs[i]?=some (Je cb F.fb next mb)) {nm:ByteArray} (hN:Yt nm true) (P:Int) (hP1:1≤P) (hP8:P≤8) (p3 p4 p5:Int) (p6:Bool) (p7:Int) (hb: ¬(512≤p3∧p3≤8192∧ -1≤p4∧p4≤1099511627776∧ -1≤p5∧p5≤1125899906842624∧0≤p7∧p7≤1125899906842624)):
 Calls prog 11 #[.pointer (some ⟨cb,0,none⟩),.string nm,.int .i64 P,.agg (stz p3 p4 p5 p6 p7)] w fun e w'=>e= .returned (.tuple #[.agg (tp0),.int .i64 1])∧Fs w0 w' F X A ι rs:=by
 have hh:=(((h.newArr #[.pointer (some ⟨cb,0,none⟩)] 25 J8).newArr (stz p3 p4 p5 p6 p7) 29 Oi).newArr (tp0) 31 Jd);simp only [size_alloc] at hh;obtain ⟨y,hy⟩: ∃y,((w.alloc (.cells #[.pointer (some ⟨cb,0,none⟩)] 25 (0,0))).alloc (.cells (stz p3 p4 p5 p6 p7) 29 (0,0))).alloc (.cells (tp0) 31 (0,0))=y:=⟨_,rfl⟩;obtain ⟨b1,hb1⟩: ∃b1,w.heap.size=b1:=⟨_,rfl⟩;rw [hy,hb1] at hh;obtain ⟨b2,hb2⟩: ∃b2,b1+1=b2:=⟨_,rfl⟩;rw [hb2] at hh;obtain ⟨b3,hb3⟩: ∃b3,b2+1=b3:=⟨_,rfl⟩;rw [hb3] at hh;have c0:y.cell? ⟨b1,0,none⟩=some (.pointer (some ⟨cb,0,none⟩)):=(hh.arrCell (i:=2) rfl 0).trans rfl;have HR:=hid (Y1 hh (i:=i+3) hr);have HN:=hid (hN y);have HY:=hid (And.intro hy (And.intro hb1 (And.intro hb2 hb3)));have HH:=hid hh;have KS:Hid (∀W,Calls prog 41 #[.agg (stz p3 p4 p5 p6 p7)] W fun r w'=>r= .returned (.bool false)∧Frm NoB W w'):=hid fun W=>Qbm W p3 p4 p5 p6 p7 hb
 clear h hr hN hb hh hy hb1 hb2 hb3;go_enter func11,ntmps11;go_upto_region 1 with (refine Qg rfl _ _ JU rfl ?_)
 rw [HY.out.1,HY.out.2.1,HY.out.2.2.1,HY.out.2.2.2];clear HY;go_wp2_with fail;refine HR.out.mono ?_;clear HR;rintro e w2 ⟨rfl,rfl⟩;go_wp2_with fail;refine HN.out.mono ?_;clear HN;rintro e w2 ⟨rfl,hf⟩;have HH2:=hid (HH.out.frm hf);have s0:w2.cell? ⟨b2,0,none⟩=some (.int .i64 p3):=(HH2.out.arrCell (i:=1) rfl 0).trans rfl;have s1:w2.cell? ⟨b2,1,none⟩=some (.int .i64 p4):=(HH2.out.arrCell (i:=1) rfl 1).trans rfl;have s2:w2.cell? ⟨b2,2,none⟩=some (.int .i64 p5):=(HH2.out.arrCell (i:=1) rfl 2).trans rfl;have s3:w2.cell? ⟨b2,3,none⟩=some (.bool p6):=(HH2.out.arrCell (i:=1) rfl 3).trans rfl;have s4:w2.cell? ⟨b2,4,none⟩=some (.int .i64 p7):=(HH2.out.arrCell (i:=1) rfl 4).trans rfl;clear HH hf c0;go_wp2_with fail;refine (KS.out _).mono ?_;clear KS s0 s1 s2 s3 s4;rintro e w3 ⟨rfl,hf3⟩;have HH3:=hid (HH2.out.frm hf3);have HB3:=hid (HH3.out.block (i:=0) rfl);have HX:=hid (HH3.out.setRow 0 (c':=tp0) rfl);clear hf3 HH2;go_wp2_with (refine JE rfl _ _ rfl b3 ByteArray.empty 0 0 0 0 0 false 0 rfl rfl _ rfl HB3.out ?_);have hld:=run_loadVar_row (P:=prog) _ b3 31 31 (tp0) (0,0) _ (HX.out.block (i:=0) rfl) underlying31 rfl (Jz _ _ _ _ _ _ _ _)
 (try simp only [Exit.inBlock,Exit.then])
 exact bodyPost_ret (v:= .tuple #[.agg (tp0),.int .i64 1]) (Qx results11 _ _ ⟨b3,0,none⟩ rfl _ hld) rfl ⟨rfl,HX.out.drop 3⟩
theorem Eg (w:World) (c d e:Int) (f:Bool) (g:Int) (h1:512≤c∧c≤8192) (h2: -1≤d∧d≤1099511627776) (h3: -1≤e∧e≤1125899906842624) (h4:0≤g∧g≤1125899906842624):
 Calls prog 51 #[.agg (stz c d e f g)] w fun r w'=>r= .returned (.bool true)∧Frm NoB w w':=by
 have hb0:=Qb w (.cells (stz c d e f g) 29 (0,0));have hf0:=(Frm.refl NoB w).alloc (.cells (stz c d e f g) 29 (0,0));obtain ⟨y,hy⟩: ∃y,w.alloc (.cells (stz c d e f g) 29 (0,0))=y:=⟨_,rfl⟩;obtain ⟨k,hk⟩: ∃k,w.heap.size=k:=⟨_,rfl⟩;rw [hy,hk] at hb0;rw [hy] at hf0;have c0:y.cell? ⟨k,0,none⟩=some (.int .i64 c):=(Qa hb0).trans rfl;have c1:y.cell? ⟨k,1,none⟩=some (.int .i64 d):=(Qa hb0).trans rfl;have c2:y.cell? ⟨k,2,none⟩=some (.int .i64 e):=(Qa hb0).trans rfl;have c4:y.cell? ⟨k,4,none⟩=some (.int .i64 g):=(Qa hb0).trans rfl;have HF:=hid hf0;have HY:=hid (And.intro hy hk);obtain ⟨a1,a2⟩:=h1;obtain ⟨b1,b2⟩:=h2;obtain ⟨e1,e2⟩:=h3;obtain ⟨g1,g2⟩:=h4;clear hb0 hf0 hy hk;go_enter func51,ntmps51;go_upto_region 1 with fail
 rw [HY.out.1,HY.out.2];go_wp2_with fail;go_ret;exact ⟨rfl,HF.out⟩
theorem Qby (w:World) (c d e:Int) (f:Bool) (g:Int) (hbad: ¬(512≤c∧c≤8192∧ -1≤d∧d≤1099511627776∧ -1≤e∧e≤1125899906842624∧0≤g∧g≤1125899906842624)):
 Calls prog 51 #[.agg (stz c d e f g)] w fun r w'=>r= .returned (.bool false)∧Frm NoB w w':=by
 have hb0:=Qb w (.cells (stz c d e f g) 29 (0,0));have hf0:=(Frm.refl NoB w).alloc (.cells (stz c d e f g) 29 (0,0));obtain ⟨y,hy⟩: ∃y,w.alloc (.cells (stz c d e f g) 29 (0,0))=y:=⟨_,rfl⟩;obtain ⟨k,hk⟩: ∃k,w.heap.size=k:=⟨_,rfl⟩;rw [hy,hk] at hb0;rw [hy] at hf0;have c0:y.cell? ⟨k,0,none⟩=some (.int .i64 c):=(Qa hb0).trans rfl;have c1:y.cell? ⟨k,1,none⟩=some (.int .i64 d):=(Qa hb0).trans rfl;have c2:y.cell? ⟨k,2,none⟩=some (.int .i64 e):=(Qa hb0).trans rfl;have c4:y.cell? ⟨k,4,none⟩=some (.int .i64 g):=(Qa hb0).trans rfl;have HF:=hid hf0;have HY:=hid (And.intro hy hk);have HBD:=hid hbad;clear hb0 hf0 hy hk hbad;by_cases k0:512≤c
 case neg=>
  have k0': ¬(512≤c):=k0;clear HBD;go_enter func51,ntmps51;go_upto_region 1 with fail
  rw [HY.out.1,HY.out.2];go_wp2_with fail;go_ret;exact ⟨rfl,HF.out⟩
 by_cases k1:c≤8192
 case neg=>
  have k1': ¬(c≤8192):=k1;clear HBD;go_enter func51,ntmps51;go_upto_region 1 with fail
  rw [HY.out.1,HY.out.2];go_wp2_with fail;go_ret;exact ⟨rfl,HF.out⟩
 by_cases k2: -1≤d
 case neg=>
  have k2': ¬(-1≤d):=k2;clear HBD;go_enter func51,ntmps51;go_upto_region 1 with fail
  rw [HY.out.1,HY.out.2];go_wp2_with fail;go_ret;exact ⟨rfl,HF.out⟩
 by_cases k3:d≤1099511627776
 case neg=>
  have k3': ¬(d≤1099511627776):=k3;clear HBD;go_enter func51,ntmps51;go_upto_region 1 with fail
  rw [HY.out.1,HY.out.2];go_wp2_with fail;go_ret;exact ⟨rfl,HF.out⟩
 by_cases k4: -1≤e
 case neg=>
  have k4': ¬(-1≤e):=k4;clear HBD;go_enter func51,ntmps51;go_upto_region 1 with fail
  rw [HY.out.1,HY.out.2];go_wp2_with fail;go_ret;exact ⟨rfl,HF.out⟩
 by_cases k5:e≤1125899906842624
 case neg=>
  have k5': ¬(e≤1125899906842624):=k5;clear HBD;go_enter func51,ntmps51;go_upto_region 1 with fail
  rw [HY.out.1,HY.out.2];go_wp2_with fail;go_ret;exact ⟨rfl,HF.out⟩
 by_cases k6:0≤g
 case neg=>
  have k6': ¬(0≤g):=k6;clear HBD;go_enter func51,ntmps51;go_upto_region 1 with fail
  rw [HY.out.1,HY.out.2];go_wp2_with fail;go_ret;exact ⟨rfl,HF.out⟩
 have k7: ¬(g≤1125899906842624):=fun k7=>HBD.out ⟨k0,k1,k2,k3,k4,k5,k6,k7⟩
 clear HBD;go_enter func51,ntmps51;go_upto_region 1 with fail
 rw [HY.out.1,HY.out.2];go_wp2_with fail;go_ret;exact ⟨rfl,HF.out⟩
theorem Qfg (s:ByteArray) (pos:Nat) (h:pos<s.size) (ha: ¬(s.get! pos).toNat<128):
 ∃r k,Utf8.decode s pos=(r,k)∧(r=65533∨(128≤r∧Utf8.valid r=true))∧1≤k∧pos+k≤s.size∧∀j,j<k→¬(s.get! (pos+j)).toNat<128:=by
 have h0: ¬(s.get! (pos+0)).toNat<128:=ha;have one: ∀j,j<1→¬(s.get! (pos+j)).toNat<128:=fun j hj=>by
  obtain rfl:j=0:=by omega
  exact h0
 have ct: ∀k,(decide (pos+k<s.size) && ((s.get! (pos+k)).toNat/64==2))=true→pos+k<s.size∧¬(s.get! (pos+k)).toNat<128:=fun k hk=>by
  simp only [Bool.and_eq_true,decide_eq_true_eq,beq_iff_eq] at hk;exact ⟨hk.1,by omega⟩
 unfold Utf8.decode Utf8.runeError;simp only [if_neg h0];split
 ·rename_i hc
  simp only [Bool.and_eq_true] at hc;obtain ⟨-,hc⟩:=hc;have c1:=ct 1 (by simpa using hc);split
  ·rename_i hv
   refine ⟨_,_,rfl,.inr ⟨hv,?_⟩,by omega,by omega,fun j hj=>?_⟩
   ·have:(s.get! (pos+0)).toNat%32<32:=Nat.mod_lt _ (by omega);have:(s.get! (pos+1)).toNat%64<64:=Nat.mod_lt _ (by omega);unfold Utf8.valid;simp only [Bool.or_eq_true,Bool.and_eq_true,decide_eq_true_eq];omega
   ·obtain rfl | rfl:j=0∨j=1:=by omega
    ·exact h0
    ·exact c1.2
  ·exact ⟨_,_,rfl,.inl rfl,by omega,by omega,one⟩
 ·split
  ·rename_i hc
   simp only [Bool.and_eq_true] at hc;obtain ⟨⟨-,hc1⟩,hc2⟩:=hc;have c1:=ct 1 (by simpa using hc1);have c2:=ct 2 (by simpa using hc2);split
   ·rename_i hv
    simp only [Bool.and_eq_true,decide_eq_true_eq] at hv;refine ⟨_,_,rfl,.inr ⟨by omega,hv.2⟩,by omega,by omega,fun j hj=>?_⟩;obtain rfl | rfl | rfl:j=0∨j=1∨j=2:=by omega
    ·exact h0
    ·exact c1.2
    ·exact c2.2
   ·exact ⟨_,_,rfl,.inl rfl,by omega,by omega,one⟩
  ·split
   ·rename_i hc
    simp only [Bool.and_eq_true] at hc;obtain ⟨⟨⟨-,hc1⟩,hc2⟩,hc3⟩:=hc;have c1:=ct 1 (by simpa using hc1);have c2:=ct 2 (by simpa using hc2);have c3:=ct 3 (by simpa using hc3);split
    ·rename_i hv
     simp only [Bool.and_eq_true,decide_eq_true_eq] at hv;refine ⟨_,_,rfl,.inr ⟨by omega,hv.2⟩,by omega,by omega,fun j hj=>?_⟩;obtain rfl | rfl | rfl | rfl:j=0∨j=1∨j=2∨j=3:=by omega
     ·exact h0
     ·exact c1.2
     ·exact c2.2
     ·exact c3.2
    ·exact ⟨_,_,rfl,.inl rfl,by omega,by omega,one⟩
   ·exact ⟨_,_,rfl,.inl rfl,by omega,by omega,one⟩
theorem Qbe (s:ByteArray) (i:Nat) (h:i<s.size):s.get! i=s[i]'h:=by
 show s.get! i=_;simp [ByteArray.get!,getElem!_pos,h];rfl
theorem run_next_any {P:Program} (w:World) (s:ByteArray) (pos:Nat) (ty:TypeId) (h:pos<s.size) {r k:Nat} (hd:Utf8.decode s pos=(r,k)):
 (Instr.next (.pointer (some ⟨w.heap.size,0,none⟩)) true ty).run P (w.iter s pos)= .ok (.tuple #[.bool true,.int .i64 pos,.int .i32 r]) (w.iter s (pos+k)):=by
 simp only [Instr.next,getObj,setObj,Sem.run_bind,Sem.run,World.iter_heap,Result.andThen,h,if_true,hd,World.iter_set];simp [goInt,Sem.run,World.iter_heap,World.iter_set]
theorem QgD (w:World) (s:ByteArray) (i:Nat):Frm NoB w (w.iter s i):=(Frm.refl NoB w).alloc _
def sl0:ByteArray:=⟨#[47,0]⟩
theorem Qi4 (w:World) (r:Int) (h:Utf8.valid r=true) (h1:128≤r):Calls prog 306 #[.int .i32 r] w fun e w'=>w=w'∧e= .returned (.bool true):=by
 unfold Utf8.valid at h;simp only [Bool.or_eq_true,Bool.and_eq_true,decide_eq_true_eq] at h;by_cases h2:r<55296
 ·have h0:(0:Int)≤r:=by omega
  clear h;go_enter func306,ntmps306;go_wp2_with fail;go_ret;exact ⟨rfl,rfl⟩
 ·have h0:(0:Int)≤r:=by omega
  have h3:(57343:Int)<r:=by omega
  have h4:r≤1114111:=by omega
  clear h;go_enter func306,ntmps306;go_wp2_with fail;go_ret;exact ⟨rfl,rfl⟩
theorem Qfq (w:World):Calls prog 255 #[.string sl0,.int .i32 65533] w fun e w'=>e= .returned (.int .i64 (-1))∧Frm NoB w w':=by
 have hs:sl0.size=2:=rfl;have hn0: ∀ty,(Instr.next (.pointer (some ⟨w.heap.size,0,none⟩)) true ty).run prog (w.iter sl0 0)= .ok (.tuple #[.bool true,.int .i64 0,.int .i32 47]) (w.iter sl0 1):=fun ty=>run_next_any (P:=prog) w sl0 0 ty (by decide) (r:=47) (k:=1) (by decide+kernel)
 have hn1: ∀ty,(Instr.next (.pointer (some ⟨w.heap.size,0,none⟩)) true ty).run prog (w.iter sl0 1)= .ok (.tuple #[.bool true,.int .i64 1,.int .i32 0]) (w.iter sl0 2):=fun ty=>run_next_any (P:=prog) w sl0 1 ty (by decide) (r:=0) (k:=1) (by decide+kernel)
 have hn2:=fun ty=>run_next_end (P:=prog) w sl0 2 ty (by decide)
 have HF:=hid (QgD w sl0);generalize sl0=s at*
 go_enter func255,ntmps255;go_wp2_with fail;go_loopg [5,6] 2 (fun g _ _ wx=> ∃i:Nat,i+g=2∧wx=w.iter s i)
 case atStart=>exact ⟨0,by omega,rfl⟩
 case round=>
  obtain ⟨i,hig,rfl⟩:=hrel
  match gk,hig with
  | 0,hig=>
    obtain rfl:i=2:=by omega
    go_wp2;go_ret;exact ⟨rfl,HF.out 2⟩
  | 1,hig=>
    obtain rfl:i=1:=by omega
    go_wp2_with fail;go_roundg 0
    case measure=>omega
    case rel=>exact ⟨2,rfl,rfl⟩
  | 2,hig=>
    obtain rfl:i=0:=by omega
    go_wp2_with fail;go_roundg 1
    case measure=>omega
    case rel=>exact ⟨1,rfl,rfl⟩
  | g+3,hig=>exact absurd hig (by omega)
theorem Qh3 (r:Nat) (h1:128≤r) (h2:r<2048): ∃a c:UInt8,Utf8.encode (r:Int)=⟨#[a,c]⟩∧128≤c.toNat:=by
 have hv:Utf8.valid (r:Int)=true:=by
  unfold Utf8.valid;simp only [Bool.or_eq_true,Bool.and_eq_true,decide_eq_true_eq];omega
 refine ⟨UInt8.ofNat (192+r/64),UInt8.ofNat (128+r%64),?_,?_⟩
 ·unfold Utf8.encode;simp only [hv,if_true,Int.toNat_natCast];rw [if_neg (by omega),if_pos (by omega)]
 ·have:r%64<64:=Nat.mod_lt _ (by omega);rw [UInt8.toNat_ofNat'];omega
theorem Qh2 (r:Nat) (h1:2048≤r) (hv:Utf8.valid (r:Int)=true):3≤(Utf8.encode (r:Int)).size∧(Utf8.encode (r:Int)).size≤4:=by
 unfold Utf8.encode;simp only [hv,if_true,Int.toNat_natCast];rw [if_neg (by omega),if_neg (by omega)];split
 ·exact ⟨by show 3≤3;omega,by show 3≤4;omega⟩
 ·exact ⟨by show 3≤4;omega,by show 4≤4;omega⟩
theorem QgI (w:World) (r:Nat) (h1:128≤r) (hv:Utf8.valid (r:Int)=true) (hne:r≠65533):Calls prog 255 #[.string sl0,.int .i32 r] w fun e w'=>e= .returned (.int .i64 (-1))∧Frm NoB w w':=by
 have HV:=hid (Qi4 w (r:Int) hv (by omega));have r1: ¬(r:Int)<128:=by omega
 have r2: ¬(r:Int)=65533:=by omega
 have r0:(0:Int)≤(r:Int):=by omega
 by_cases h2:r<2048
 ·obtain ⟨a,c,he,hc⟩:=Qh3 r h1 h2;have hcv: ∀W,(convert 21 9 (.int .i32 r)).run prog W= .ok (.string ⟨#[a,c]⟩) W:=fun W=>by
   rw [←he];exact run_convert_int_string W _ _ .i32 r (by rw [underlying21];rfl) underlying9
  have hi0: ∀W,(Instr.index 9 (.string ⟨#[a,c]⟩) (.int .i64 1)).run prog W= .ok (.int .u8 c.toNat) W:=fun W=>rfl
  have hi1: ∀W,(Instr.index 9 (.string sl0) (.int .i64 1)).run prog W= .ok (.int .u8 0) W:=fun W=>rfl
  have hz: ¬(0:Int)=(c.toNat:Int):=by omega
  have HI:Hid (∀W,Calls prog 305 #[.string ByteArray.empty,.int .u8 c.toNat] W fun e w'=>e= .returned (.int .i64 (-1))∧w'=W):=hid fun W=>Any.strings_IndexByte (ρ:=Tryz.containsAny_ren) { Tryz.containsAny with } ByteArray.empty (c.toNat:Int) W
  have hs2:sl0.size=2:=rfl;have ha2:(⟨#[a,c]⟩:ByteArray).size=2:=rfl;have hle:(2:Int)≤(sl0.size:Int):=by decide
  have hwr:IntKind.i64.wrap 2=2:=by decide
  generalize sl0=s at*
  generalize (⟨#[a,c]⟩:ByteArray)=rs at*
  generalize (c.toNat:Int)=cz at*
  clear he hv h1 h2 hc hne;go_enter func255,ntmps255;go_wp2_with fail;refine HV.out.mono ?_;rintro e w1 ⟨rfl,rfl⟩;go_wp2_with fail;go_step3;go_wp2_with fail;go_loopw [9,10,11,12] (fun t9 _ _ _ wr=>t9= .int .i64 1∧w=wr) (fun _ _ _ _ _=>0)
  case atStart=>exact ⟨rfl,rfl⟩
  case round=>
   obtain ⟨rfl,rfl⟩:=hrel;go_wp2_with fail;go_step3;go_wp2_with fail;go_region;go_wp2_with fail;go_quiet ((go_at_call 305;exact (HI.out _).mono fun e w' h=>⟨h.1,_,h.2⟩));go_wp2_with fail;simp (zetaDelta:=true) only [Exit.noGoto,Exit.inBlock,Exit.then];go_ret;exact ⟨rfl,(Frm.refl NoB w).drewN _⟩
 ·obtain ⟨b1,b2⟩:=Qh2 r (by omega) hv;have hcv: ∀W,(convert 21 9 (.int .i32 r)).run prog W= .ok (.string (Utf8.encode (r:Int))) W:=fun W=>run_convert_int_string W _ _ .i32 r (by rw [underlying21];rfl) underlying9
  have hs2:sl0.size=2:=rfl;obtain ⟨k,hk⟩: ∃k,(Utf8.encode (r:Int)).size=k:=⟨_,rfl⟩;rw [hk] at b1 b2;have z1:(3:Int)≤(k:Int):=by omega
  have z2:(k:Int)≤4:=by omega
  have z3: ¬((k:Int)-1<2):=by omega
  generalize sl0=s at*
  generalize Utf8.encode (r:Int)=rs at*
  clear hv h1 h2 hne b1 b2;go_enter func255,ntmps255;go_wp2_with fail;refine HV.out.mono ?_;rintro e w1 ⟨rfl,rfl⟩;go_wp2_with fail;go_step3;go_wp2_with fail;go_loopw [9,10,11,12] (fun t9 _ _ _ wr=>t9= .int .i64 ((k:Int)-1)∧w=wr) (fun _ _ _ _ _=>0)
  case atStart=>exact ⟨by go_num,rfl⟩
  case round=>
   obtain ⟨rfl,rfl⟩:=hrel;go_wp2_with fail;simp only [Exit.noGoto,Exit.inBlock,Exit.then];go_ret;exact ⟨rfl,Frm.refl _ _⟩
theorem QjS (w:World) (r:Nat) (h:r=65533∨(128≤r∧Utf8.valid (r:Int)=true)):Calls prog 255 #[.string sl0,.int .i32 r] w fun e w'=>e= .returned (.int .i64 (-1))∧Frm NoB w w':=by
 by_cases e:r=65533
 ·subst e;exact Qfq w
 ·rcases h with h | h
  ·exact absurd h e
  ·exact QgI w r h.1 h.2 e
theorem Qj7 (x:UInt8) (h: ¬x.toNat<128):([47,0]:List UInt8).contains x=false:=by
 have h1:x≠47:=fun e=>h (by rw [e];decide)
 have h2:x≠0:=fun e=>h (by rw [e];decide)
 simp [h1,h2]
theorem E0 {P:Program} (W:World) (b:Nat) (s:ByteArray) (pos:Nat) (ty:TypeId) (hb:W.heap[b]?=some (.stringIter s pos)) (h:pos<s.size) {r k:Nat} (hd:Utf8.decode s pos=(r,k)):
 (Instr.next (.pointer (some ⟨b,0,none⟩)) true ty).run P W= .ok (.tuple #[.bool true,.int .i64 pos,.int .i32 r]) (setBlock W b (.stringIter s (pos+k))):=by
 simp [Instr.next,getObj,setObj,Sem.run_bind,Sem.run,hb,Result.andThen,h,hd,setBlock,goInt]
theorem OQ {P:Program} (W:World) (b:Nat) (s:ByteArray) (pos:Nat) (ty:TypeId) (hb:W.heap[b]?=some (.stringIter s pos)) (h: ¬pos<s.size):
 (Instr.next (.pointer (some ⟨b,0,none⟩)) true ty).run P W= .ok (.tuple #[.bool false]) W:=by
 simp [Instr.next,getObj,Sem.run,hb,h]
theorem QdS (w:World) (s:ByteArray) (h8:s.size≤8):Calls prog 193 #[.string s,.string sl0] w fun e w'=>e= .returned (.int .i64 (Lib.indexAny s.data.toList [47,0]))∧Frm NoB w w':=by
 have hs2:sl0.size=2:=rfl;have hemp:sl0.toList.isEmpty=false:=by decide+kernel
 have hn1:((sl0.size:Int)==1)=false:=by decide+kernel
 have hAS:Hid (Calls prog 256 #[.int .i64 s.size] w fun e w'=>w=w'∧e= .returned (.bool false)):=hid ((Any.strings_shouldUseASCIISet (ρ:=Tryz.containsAny_ren) { Tryz.containsAny with } _ w).mono fun e w' ⟨q1,q2⟩=>⟨q2.symm,by rw [q1];simp;omega⟩);have KA:Hid (∀W (x:UInt8),x.toNat<128→Calls prog 255 #[.string sl0,.int .i32 x.toNat] W fun e w'=>W=w'∧e= .returned (.int .i64 (Lib.indexByte [47,0] x))):=hid fun W x hx=>by
  have:=Any.strings_IndexRune_ascii (ρ:=Tryz.containsAny_ren) { Tryz.containsAny with } sl0 (x.toNat:Int) W (by omega) (by omega);have hback:((x.toNat:Int)).toNat.toUInt8=x:=by simp
  rw [hback] at this;exact this.mono fun e w' ⟨q1,q2⟩=>⟨q2.symm,q1⟩
 have KH:Hid (∀W (r:Nat),(r=65533∨(128≤r∧Utf8.valid (r:Int)=true))→Calls prog 255 #[.string sl0,.int .i32 r] W fun e w'=>e= .returned (.int .i64 (-1))∧Frm NoB W w'):=hid fun W r h=>QjS W r h
 have hF0:Frm NoB w (w.alloc (.stringIter s 0)):=(Frm.refl NoB w).alloc _;have HF0:=hid hF0;have HB0:=hid (Qb w (.stringIter s 0));have hrg:(Instr.range 9 (.string s)).run prog w= .ok (.pointer (some ⟨w.heap.size,0,none⟩)) (w.alloc (.stringIter s 0)):=run_range_string w _ s underlying9;obtain ⟨y,hy⟩: ∃y,w.alloc (.stringIter s 0)=y:=⟨_,rfl⟩;obtain ⟨b,hb⟩: ∃b,w.heap.size=b:=⟨_,rfl⟩;rw [hy,hb] at hrg HB0;rw [hy] at HF0;have HBW:=hid (show w.heap.size≤b by omega);clear hF0 hy hb;generalize sl0=sl at*
 go_enter func193,ntmps193;go_wp2_with fail;refine hAS.out.mono ?_;clear hAS;rintro e w1 ⟨rfl,rfl⟩;go_wp2_with fail;go_loopg [9,10] s.size (fun g _ _ wx=> ∃i:Nat,i+g=s.size∧Hid (wx.heap[b]?=some (.stringIter s i))∧Hid (Frm NoB w wx)∧Hid (Lib.NoAny s.data.toList [47,0] i))
 case atStart=>exact ⟨0,by omega,HB0,HF0,hid (Lib.NoAny.zero _ _)⟩
 case round=>
  clear HB0 HF0 hrg;obtain ⟨i,hig,HB,HF,HN⟩:=hrel;by_cases hi:i<s.size
  ·by_cases ha:(s.get! i).toNat<128
   ·have hd:Utf8.decode s i=((s.get! i).toNat,1):=by
     rw [Qbe s i hi] at ha ⊢;exact decode_ascii s i hi ha
    have hnx:=fun ty=>E0 (P:=prog) wr b s i ty HB.out hi hd
    have hx:s.data.toList[i]?=some (s.get! i):=by rw [Qbe s i hi];exact Lib.data_getElem? s i hi
    obtain ⟨x,hx0⟩: ∃x,s.get! i=x:=⟨_,rfl⟩;rw [hx0] at hnx hx ha;have hlt:=lt_of_block HB.out;obtain ⟨y2,hy2⟩: ∃y2,setBlock wr b (.stringIter s (i+1))=y2:=⟨_,rfl⟩;have HB2:Hid (y2.heap[b]?=some (.stringIter s (i+1))):=hid (by rw [←hy2];exact (heap_set (o':= .stringIter s (i+1)) HB.out).1);have HF2:Hid (Frm NoB w y2):=hid (by
     rw [←hy2];exact HF.out.trans ((Frm.refl (Q0 b) wr).setBlock (.inl (Q0.self b)) _) fun z hz e=>by have:z=b:=e;have:=HBW.out;omega)
    rw [hy2] at hnx;have HKA:=hid (KA.out y2 x ha);have Hx:=hid hx;have hcon:=Lib.contains_iff_indexByte [47,0] x;clear hd ha hx hx0 hy2 HB HF;cases hin:([47,0]:List UInt8).contains x
    ·rw [hin] at hcon;have hlt: ¬((0:Int)≤Lib.indexByte [47,0] x):=of_decide_eq_false hcon.symm;have HN2:=hid (HN.out.succ Hx.out hin);clear hcon hin HN;generalize Lib.indexByte [47,0] x=q at*
     go_wp2_with fail;refine HKA.out.mono ?_;rintro e w3 ⟨rfl,rfl⟩;go_wp2_with fail;go_roundg (s.size-(i+1))
     case measure=>omega
     case rel=>exact ⟨i+1,by omega,HB2,HF2,HN2⟩
    ·rw [hin] at hcon;have hge:(0:Int)≤Lib.indexByte [47,0] x:=of_decide_eq_true hcon.symm;have HI:=hid (Lib.indexAny_hit HN.out Hx.out hin);clear hcon hin HN;generalize Lib.indexByte [47,0] x=q at*
     go_wp2_with fail;refine HKA.out.mono ?_;rintro e w3 ⟨rfl,rfl⟩;go_wp2_with fail;go_ret;exact ⟨by rw [HI.out];rfl,HF2.out⟩
   ·obtain ⟨r,k,hd,hr,hk1,hk2,hk3⟩:=Qfg s i hi ha;have hnx:=fun ty=>E0 (P:=prog) wr b s i ty HB.out hi hd
    obtain ⟨y2,hy2⟩: ∃y2,setBlock wr b (.stringIter s (i+k))=y2:=⟨_,rfl⟩;have HB2:Hid (y2.heap[b]?=some (.stringIter s (i+k))):=hid (by rw [←hy2];exact (heap_set (o':= .stringIter s (i+k)) HB.out).1);have HF2:Hid (Frm NoB w y2):=hid (by
     rw [←hy2];exact HF.out.trans ((Frm.refl (Q0 b) wr).setBlock (.inl (Q0.self b)) _) fun z hz e=>by have:z=b:=e;have:=HBW.out;omega)
    rw [hy2] at hnx;have HKH:=hid (KH.out y2 r hr);have HN2:Hid (Lib.NoAny s.data.toList [47,0] (i+k)):=hid fun j x hj hx=>by
     by_cases hji:j<i
     ·exact HN.out j x hji hx
     ·have h3:=hk3 (j-i) (by omega);rw [show i+(j-i)=j by omega] at h3;have hjs:j<s.size:=by omega
      have:s.data.toList[j]?=some (s.get! j):=by rw [Qbe s j hjs];exact Lib.data_getElem? s j hjs
      rw [this] at hx;cases hx;exact Qj7 _ h3
    have HK:=hid (And.intro hk1 hk2);clear ha hd hr hk1 hk2 hk3 hy2 HB HF HN;go_wp2_with fail;refine HKH.out.mono ?_;rintro e w3 ⟨rfl,hf3⟩;have HB3:Hid (w3.heap[b]?=some (.stringIter s (i+k))):=hid ((hf3.block b (lt_of_block HB2.out) (fun e=>e)).trans HB2.out);have HF3:=hid (HF2.out.trans hf3 fun _ _ e=>e);clear hf3 HB2 HF2;go_wp2_with fail;go_roundg (s.size-(i+k))
    case measure=>have:=HK.out;omega
    case rel=>exact ⟨i+k,by have:=HK.out;omega,HB3,HF3,HN2⟩
  ·have hnx:=fun ty=>OQ (P:=prog) wr b s i ty HB.out hi
   have HI:=hid (Lib.indexAny_none (s:=s.data.toList) (chars:= [47,0]) (by rw [←Lib.size_eq,show s.size=i by omega];exact HN.out));clear HN;go_wp2;go_ret;exact ⟨by rw [HI.out];rfl,HF.out⟩
theorem QfU (j:Nat) (b:UInt8) (hb:sl0.data.toList[j]?=some b):b.toNat<128:=by
 match j,hb with
 | 0,hb=>cases hb;decide
 | 1,hb=>cases hb;decide
 | j+2,hb=>cases hb
theorem QkF (w:World) (s:ByteArray) (h:s.size≤300):Calls prog 193 #[.string s,.string sl0] w fun e w'=>e= .returned (.int .i64 (Lib.indexAny s.data.toList [47,0]))∧Frm NoB w w':=by
 by_cases h8:s.size≤8
 ·exact QdS w s h8
 ·have h116:(prog.info? (Tryz.containsAny_ren.t 116)).map (fun i=>(i.zero,i.size))=some (some (.agg (Array.replicate 256 (.bool false))),256):=by kernel_rfl
  refine (Any.strings_IndexAny_long (ρ:=Tryz.containsAny_ren) { Tryz.containsAny with } (zero_of_info h116).1 (zero_of_info h116).2 s sl0 w (by decide) (by omega) (by omega) (by decide) QfU).mono ?_;rintro e w' ⟨he,hw⟩;exact ⟨he,by rw [hw];exact ((Frm.refl NoB w).alloc _).alloc _⟩
theorem Qky (w:World) (s:ByteArray) (h:s.size≤300):Calls prog 101 #[.string s,.string sl0] w fun e w'=>e= .returned (.bool (Lib.containsAny s.data.toList [47,0]))∧Frm NoB w w':=by
 have HI:=hid (QkF w s h);unfold Lib.containsAny;generalize Lib.indexAny s.data.toList [47,0]=q at*
 generalize sl0=sl at*
 go_enter func101,ntmps101;go_wp2_with fail;refine HI.out.mono ?_;rintro e w2 ⟨rfl,hf⟩;have HF:=hid hf;clear hf;go_wp2;go_ret;exact ⟨rfl,HF.out⟩
def nmB (s:ByteArray):Bool:=decide (1≤s.size) && decide (s.size≤50) && !Lib.containsAny s.data.toList [47,0] && !(s.data.toList== [46]) && !(s.data.toList== [46,46])
theorem Qaz (s:ByteArray) (h:s.size≤300):Yt s (nmB s):=fun w=>by
 unfold nmB;have hc:=Qky w s h;rw [←Go.Lib.toList_data] at hc;have HC:=hid hc;clear hc;rw [←Go.Lib.toList_data];have hsz:s.size=s.toList.length:=by rw [Go.Lib.size_eq,Go.Lib.toList_data]
 by_cases h0:s.size=0
 ·have h1:s.toList= []:=List.eq_nil_of_length_eq_zero (by omega);rw [decide_eq_false (show¬1≤s.size by omega)];clear HC hsz h h0;go_enter func40,ntmps40;go_wp2_with fail;go_ret;exact ⟨rfl,Frm.refl _ _⟩
 ·have h1: ¬s.toList= []:=fun e=>by rw [e] at hsz;exact h0 hsz
  rw [decide_eq_true (show 1≤s.size by omega)];by_cases h5:s.size≤50
  ·rw [decide_eq_true h5];have h4:(s.size:Int)≤50:=by omega
   have hsl:sl0=⟨#[47,0]⟩:=rfl;rw [hsl] at HC;generalize Lib.containsAny s.toList [47,0]=ca at*
   clear hsz h h0 h5 hsl;go_enter func40,ntmps40;go_wp2_with fail;refine HC.out.mono ?_;clear HC;rintro e w2 ⟨rfl,hf⟩;have HF:=hid hf;clear hf;cases ca
   ·by_cases k1:s.toList= [46]
    ·go_wp2_with fail;go_ret;exact ⟨by simp [k1],HF.out⟩
    ·go_wp2_with fail;go_ret;have h1':s.toList.isEmpty=false:=by cases h:s.toList with | nil=>exact absurd h h1 | cons a l=>rfl
     exact ⟨by simp [h1',k1],HF.out⟩
   ·go_wp2_with fail;go_ret;exact ⟨by simp,HF.out⟩
  ·rw [decide_eq_false h5];have h4: ¬(s.size:Int)≤50:=by omega
   clear HC hsz h h0 h5;go_enter func40,ntmps40;go_wp2_with fail;go_ret;exact ⟨by simp,Frm.refl _ _⟩
theorem Qbr (w:World) (s:ByteArray):Calls prog 50 #[.string s] w fun e w'=>w=w'∧e= .returned (.bool (nmB s)):=by
 unfold nmB;rw [←Go.Lib.toList_data];have hsz:s.size=s.toList.length:=by rw [Go.Lib.size_eq,Go.Lib.toList_data]
 by_cases h0:s.toList= []
 ·rw [decide_eq_false (show¬1≤s.size by rw [hsz,h0];decide)];clear hsz;go_enter func50,ntmps50;go_wp2_with fail;go_ret;exact ⟨rfl,by simp⟩
 ·rw [decide_eq_true (show 1≤s.size by rw [hsz];cases h:s.toList with | nil=>exact absurd h h0 | cons a l=>simp)];by_cases h5:s.size≤50
  ·rw [decide_eq_true h5];have h4: ¬(50:Int)<(s.size:Int):=by omega
   by_cases k1:s.toList= [46]
   ·clear hsz h5;go_enter func50,ntmps50;go_wp2_with fail;go_ret;exact ⟨rfl,by simp [k1]⟩
   ·by_cases k2:s.toList= [46,46]
    ·clear hsz h5;go_enter func50,ntmps50;go_wp2_with fail;go_ret;exact ⟨rfl,by simp [k2]⟩
    ·have b1:(s.toList== [46])=false:=beq_eq_false_iff_ne.2 k1;have b2:(s.toList== [46,46])=false:=beq_eq_false_iff_ne.2 k2;have b0:s.toList.isEmpty=false:=by cases h:s.toList with | nil=>exact absurd h h0 | cons a l=>rfl
     have HK:Hid (∀b:Bool,(true && true && !b && !(s.toList== [46]) && !(s.toList== [46,46]))=!b):=hid fun b=>by rw [b1,b2];cases b<;>rfl
     rw [HK.out];clear hsz h5 HK;go_enter func50,ntmps50;go_wp2_with fail;clear k1 k2 h0 b0 b1 b2;go_loopg [3] s.size (fun g t3 wx=> ∃i:Nat,i+g=s.size∧t3= .int .i64 i∧w=wx∧Hid (Lib.NoAny s.data.toList [47,0] i))
     case atStart=>exact ⟨0,by omega,rfl,rfl,hid (Lib.NoAny.zero _ _)⟩
     case round=>
      obtain ⟨i,hig,rfl,rfl,HN⟩:=hrel;cases gk with
      | zero=>
        obtain rfl:i=s.size:=by omega
        have hiz: ¬((s.size:Int)<(s.size:Int)):=by omega
        have HI:Hid (Lib.containsAny s.toList [47,0]=false):=hid (by
         unfold Lib.containsAny;rw [Go.Lib.toList_data,Lib.indexAny_none (by rw [←Lib.size_eq];exact HN.out)];decide)
        clear HN;go_wp2;go_ret;exact ⟨rfl,by rw [HI.out];rfl⟩
      | succ g=>
        have hi:i<s.size:=by omega
        have hiz:(i:Int)<(s.size:Int):=by omega
        obtain ⟨x,hx⟩: ∃x:UInt8,s[i]'hi=x:=⟨_,rfl⟩;have hxl:s.data.toList[i]?=some x:=by rw [←hx];exact Lib.data_getElem? s i hi
        have Hx:=hid hxl;clear hxl;have HHIT:Hid (([47,0]:List UInt8).contains x=true→Lib.containsAny s.toList [47,0]=true):=hid fun hin=>by
         unfold Lib.containsAny;rw [Go.Lib.toList_data,Lib.indexAny_hit HN.out Hx.out hin];exact decide_eq_true (by omega)
        by_cases x0:x=0
        ·subst x0;have HR:=hid (HHIT.out (by decide));clear HHIT HN Hx;go_wp2;go_ret;exact ⟨rfl,by rw [HR.out];rfl⟩
        ·by_cases x1:x=47
         ·subst x1;have HR:=hid (HHIT.out (by decide));clear HHIT HN Hx x0;go_wp2;go_ret;exact ⟨rfl,by rw [HR.out];rfl⟩
         ·have HN2:=hid (HN.out.succ Hx.out (by simp [x0,x1]));have z0:((x.toNat:Int)==0)=false:=beq_eq_false_iff_ne.2 fun e=>x0 (UInt8.toNat_inj.1 (by have:(0:UInt8).toNat=0:=rfl;omega))
          have z1:((x.toNat:Int)==47)=false:=beq_eq_false_iff_ne.2 fun e=>x1 (UInt8.toNat_inj.1 (by have:(47:UInt8).toNat=47:=rfl;omega))
          clear HHIT HN Hx x0 x1;go_wp2;go_roundg g
          case measure=>omega
          case rel=>exact ⟨i+1,by omega,by first | rfl | simp,rfl,HN2⟩
  ·have h4:(50:Int)<(s.size:Int):=by omega
   rw [decide_eq_false h5];clear hsz h5;go_enter func50,ntmps50;go_wp2_with fail;go_ret;exact ⟨rfl,by simp⟩
theorem neRC: ¬U8T (111:TypeId):=by decide
theorem QkJ (w:World):Calls prog 17 #[] w fun e w'=>e= .returned (.pointer (some ⟨w.heap.size,0,none⟩))∧w'=w.alloc (.cells #[.slice none 0 0,.int .i64 1] 111 (0,0)):=by
 go_enter func17,ntmps17;go_wp2_with fail;go_ret;exact ⟨rfl,rfl⟩
theorem V9 (W:World):(zeroValue 45).run prog W= .ok (.agg (tp0)) W:=by kernel_rfl
theorem Eb (nm:ByteArray) (p1 p2 p3 p4 p5:Int) (p6:Bool) (p7:Int):(prog.info? 45).map (·.size)=some (tpz nm p1 p2 p3 p4 p5 p6 p7).size:=by
 show _=some 8
 kernel_rfl
theorem JV {ops:Array Oper} {rest:List Oper} {o:Oper} {a:Act} {w:World} {Q:Exit→Act→World→Prop} (hgd:o.guard=none) (x y:Operand) (ho:o.op= .store 45 x y) (g:Nat) (nm:ByteArray) (p1 p2 p3 p4 p5:Int) (p6:Bool) (p7:Int) (hx:a.eval x= .pointer (some ⟨g,0,none⟩)) (hy:a.eval y= .agg (tpz nm p1 p2 p3 p4 p5 p6 p7)) (old:Array Value) (hold:old.size=8)
 (hg:w.heap[g]?=some (.cells old 45 (0,0))) (h:wpList prog ops Q rest (a.put o.dst undef) (w.setRow g (tpz nm p1 p2 p3 p4 p5 p6 p7))):wpList prog ops Q (o::rest) a w:=
 wpList_store_row hgd _ x y ho g (tpz nm p1 p2 p3 p4 p5 p6 p7) hx hy _ old hg (Eb _ _ _ _ _ _ _ _) (by rw [hold];rfl) (Uc _ _ _ _ _ _ _ _) h
theorem QeH:(prog.info? 45).map (fun i=>(i.zero,i.size,i.bytes))=some (some (.agg (tp0)),8,72):=by kernel_rfl
theorem Qj4: ¬U8T (45:TypeId):=by decide
theorem Frm.setRowAt {M:Nat→Prop} {w w':World} (h:Frm M w w') {g:Nat} (hg:w.heap.size≤g) (cs:Array Value):Frm M w (w'.setRow g cs):=
 h.trans (N:=fun x=>w'.heap.size≤x∨x=g) ⟨rfl,rfl,rfl,by rw [size_setRow];exact Nat.le_refl _,fun k hk hne=>setRow_other w' g k cs (fun e=>hne (.inr e))⟩ (fun x hx hN=>by have:=h.size;rcases hN with e | e<;>omega)
structure Wj (w:World) (b1 b2:Nat) (c1 c2:Array Value) (t1 t2:TypeId) (y:World):Prop where
 frm:Frm NoB w y
 g1:w.heap.size≤b1
 g2:w.heap.size≤b2
 ne:b1≠b2
 h1:y.heap[b1]?=some (.cells c1 t1 (0,0))
 h2:y.heap[b2]?=some (.cells c2 t2 (0,0))
theorem Wj.go {w y z:World} {b1 b2:Nat} {c1 c2:Array Value} {t1 t2:TypeId} (h:Wj w b1 b2 c1 c2 t1 t2 y) (hf:Frm NoB y z):Wj w b1 b2 c1 c2 t1 t2 z:=
 ⟨h.frm.trans hf fun _ _ e=>e,h.g1,h.g2,h.ne,(hf.block b1 (lt_of_block h.h1) (fun e=>e)).trans h.h1,(hf.block b2 (lt_of_block h.h2) (fun e=>e)).trans h.h2⟩
theorem WZ (w:World) (c1 c2:Array Value) (t1 t2:TypeId): ∃b1 b2 y,w.heap.size=b1∧b1+1=b2∧(w.alloc (.cells c1 t1 (0,0))).alloc (.cells c2 t2 (0,0))=y∧Wj w b1 b2 c1 c2 t1 t2 y:=by
 refine ⟨_,_,_,rfl,rfl,rfl,((Frm.refl NoB w).alloc _).alloc _,Nat.le_refl _,Nat.le_succ _,by omega,Ql _ (Qb w _),?_⟩;have:=Qb (w.alloc (.cells c1 t1 (0,0))) (.cells c2 t2 (0,0));rw [size_alloc] at this;exact this
theorem Qeb (w:World) (mb:Nat) (nm:ByteArray) (P:Int) (p3 p4 p5:Int) (p6:Bool) (p7:Int) (hbad:nmB nm=false∨P<1∨8<P∨¬(512≤p3∧p3≤8192∧ -1≤p4∧p4≤1099511627776∧ -1≤p5∧p5≤1125899906842624∧0≤p7∧p7≤1125899906842624)):
 Calls prog 18 #[.pointer (some ⟨mb,0,none⟩),.string nm,.int .i64 P,.agg (stz p3 p4 p5 p6 p7)] w fun e w'=>e= .returned (.tuple #[.agg (tp0),.int .i64 1])∧Frm NoB w w':=by
 obtain ⟨b1,b2,y,hb1,hb2,hy,ht⟩:=WZ w (stz p3 p4 p5 p6 p7) (tp0) 29 45;have HT:=hid ht;have HY:=hid (And.intro hy (And.intro hb1 hb2));have s0:y.cell? ⟨b1,0,none⟩=some (.int .i64 p3):=(Qa ht.h1).trans rfl;have s1:y.cell? ⟨b1,1,none⟩=some (.int .i64 p4):=(Qa ht.h1).trans rfl;have s2:y.cell? ⟨b1,2,none⟩=some (.int .i64 p5):=(Qa ht.h1).trans rfl;have s3:y.cell? ⟨b1,3,none⟩=some (.bool p6):=(Qa ht.h1).trans rfl;have s4:y.cell? ⟨b1,4,none⟩=some (.int .i64 p7):=(Qa ht.h1).trans rfl;have HBD:=hid hbad;have HFIN:Hid (∀z,Wj w b1 b2 (stz p3 p4 p5 p6 p7) (tp0) 29 45 z→(loadVar 45 ⟨b2,0,none⟩).run prog (z.setRow b2 (tp0))= .ok (.agg (tp0)) (z.setRow b2 (tp0))∧Frm NoB w (z.setRow b2 (tp0))):=hid fun z hz=>
  ⟨run_loadVar_row (P:=prog) _ b2 45 45 (tp0) (0,0) _ (setRow_heap _ _ _ (tp0) _ _ hz.h2) underlying45 rfl (Eb _ _ _ _ _ _ _ _),hz.frm.setRowNew hz.g2 _⟩
 clear ht hy hb1 hb2 hbad;go_enter func18,ntmps18;go_upto_region 1 with (refine Qg rfl _ _ V9 rfl ?_)
 rw [HY.out.1,HY.out.2.1,HY.out.2.2];clear HY;go_wp2_with fail;refine (Qbr y nm).mono ?_;rintro e w2 ⟨rfl,rfl⟩;cases hn:nmB nm with
 | false=>
   clear HBD hn;go_wp2_with (refine JV rfl _ _ rfl b2 ByteArray.empty 0 0 0 0 0 false 0 rfl rfl _ rfl HT.out.h2 ?_)
   (try simp only [Exit.inBlock,Exit.then])
   exact bodyPost_ret (v:= .tuple #[.agg (tp0),.int .i64 1]) (Qx results18 _ _ ⟨b2,0,none⟩ rfl _ (HFIN.out _ HT.out).1) rfl ⟨rfl,(HFIN.out _ HT.out).2⟩
 | true=>
   by_cases k1:P<1
   ·clear HBD hn;go_wp2_with (refine JV rfl _ _ rfl b2 ByteArray.empty 0 0 0 0 0 false 0 rfl rfl _ rfl HT.out.h2 ?_)
    (try simp only [Exit.inBlock,Exit.then])
    exact bodyPost_ret (v:= .tuple #[.agg (tp0),.int .i64 1]) (Qx results18 _ _ ⟨b2,0,none⟩ rfl _ (HFIN.out _ HT.out).1) rfl ⟨rfl,(HFIN.out _ HT.out).2⟩
   ·by_cases k8:8<P
    ·clear HBD hn;go_wp2_with (refine JV rfl _ _ rfl b2 ByteArray.empty 0 0 0 0 0 false 0 rfl rfl _ rfl HT.out.h2 ?_)
     (try simp only [Exit.inBlock,Exit.then])
     exact bodyPost_ret (v:= .tuple #[.agg (tp0),.int .i64 1]) (Qx results18 _ _ ⟨b2,0,none⟩ rfl _ (HFIN.out _ HT.out).1) rfl ⟨rfl,(HFIN.out _ HT.out).2⟩
    ·have HSN:=hid (Qby y p3 p4 p5 p6 p7 (by
      rcases HBD.out with e | e | e | e
      ·rw [hn] at e;cases e
      ·exact absurd e k1
      ·exact absurd e k8
      ·exact e))
     clear HBD hn;go_wp2_with fail;refine HSN.out.mono ?_;clear HSN s0 s1 s2 s3 s4;rintro e w3 ⟨rfl,hf⟩;have HT3:=hid (HT.out.go hf);clear hf;go_wp2_with (refine JV rfl _ _ rfl b2 ByteArray.empty 0 0 0 0 0 false 0 rfl rfl _ rfl HT3.out.h2 ?_)
     (try simp only [Exit.inBlock,Exit.then])
     exact bodyPost_ret (v:= .tuple #[.agg (tp0),.int .i64 1]) (Qx results18 _ _ ⟨b2,0,none⟩ rfl _ (HFIN.out _ HT3.out).1) rfl ⟨rfl,(HFIN.out _ HT3.out).2⟩
structure En where
 nm:ByteArray
 ino:Int
instance:Inhabited En:=⟨⟨ByteArray.empty,0⟩⟩
def enz (nm:ByteArray) (i:Int):Array Value:= #[.string nm,.int .i64 i]
def En.cells (t:En):Array Value:=enz t.nm t.ino
theorem Qfu: ¬U8T (202:TypeId):=by decide
theorem Qh9:(prog.info? 202).map (fun i=>(i.zero,i.size,i.bytes))=some (some (.agg (enz ByteArray.empty 0)),2,24):=by kernel_rfl
theorem QkG (nm:ByteArray) (a:Int):((enz nm a).all fun x=>x.oneCell')=true:=by simp [enz,Value.oneCell']
def YD (l:List En):List Value:=l.flatMap fun t=>t.cells.toList
theorem YE (l:List En):(YD l).length=l.length*2:=by
 unfold YD
 induction l with
 | nil=>rfl
 | cons t l ih=>rw [List.flatMap_cons,List.length_append,ih,List.length_cons];show 2+_=_;omega
theorem Qfh (l:List En) (nm:ByteArray) (i:Int):YD (l++ [⟨nm,i⟩])=YD l++ [.string nm,.int .i64 i]:=by unfold YD;rw [List.flatMap_append];rfl
def Qgi (x y:En):Int:=U3 x.nm y.nm
theorem Qft (w:World) (nm nm':ByteArray) (p q:Int):Calls prog 217 #[.agg (enz nm p),.agg (enz nm' q)] w fun e w'=>e= .returned (.int .i64 (U3 nm nm'))∧w'=(w.alloc (.cells (enz nm p) 202 (0,0))).alloc (.cells (enz nm' q) 202 (0,0)):=by
 have b1:=Ql (.cells (enz nm' q) 202 (0,0)) (Qb w (.cells (enz nm p) 202 (0,0)));have b2:=Qb (w.alloc (.cells (enz nm p) 202 (0,0))) (.cells (enz nm' q) 202 (0,0));have e2:(w.alloc (.cells (enz nm p) 202 (0,0))).heap.size=w.heap.size+1:=by simp
 rw [e2] at b2;obtain ⟨y,hy⟩: ∃y,(w.alloc (.cells (enz nm p) 202 (0,0))).alloc (.cells (enz nm' q) 202 (0,0))=y:=⟨_,rfl⟩;rw [hy] at b1 b2 ⊢;have c1:y.cell? ⟨w.heap.size,0,none⟩=some (.string nm):=(Qa b1).trans rfl;have c2:y.cell? ⟨w.heap.size+1,0,none⟩=some (.string nm'):=(Qa b2).trans rfl;have HY:=hid hy;have KC:Hid (∀W,Calls prog 111 #[.string nm,.string nm'] W fun e w'=>W=w'∧e= .returned (.int .i64 (U3 nm nm'))):=hid fun W=>Qb9 W nm nm'
 clear b1 b2 e2 hy;go_enter func217,ntmps217;go_upto_region 1 with fail
 rw [HY.out];go_wp2_with fail;refine (KC.out _).mono ?_;rintro e w2 ⟨rfl,rfl⟩;clear KC c1 c2;go_wp2;go_ret;exact ⟨rfl,rfl⟩
theorem QaP:ltOf Qgi=fun x y=>QD x.nm y.nm:=by
 funext x y
 unfold ltOf Qgi U3;by_cases h:QD x.nm y.nm=true
 ·rw [if_pos h,h];rfl
 ·rw [if_neg h];rw [Bool.not_eq_true] at h;rw [h];split<;>rfl
theorem swoE:Sort.SWO (ltOf Qgi):=by
 rw [QaP];refine ⟨fun x=>?_,fun x y z h1 h2=>?_,fun x y z h1 h2=>?_⟩
 ·show QD x.nm x.nm=false;rw [Ju];exact decide_eq_false (List.lt_irrefl _)
 ·have h1:QD x.nm y.nm=true:=h1;have h2:QD y.nm z.nm=true:=h2;rw [Ju] at h1 h2;show QD x.nm z.nm=true;rw [Ju];exact decide_eq_true (List.lt_trans (of_decide_eq_true h1) (of_decide_eq_true h2))
 ·have h1:QD x.nm y.nm=false:=h1;have h2:QD y.nm z.nm=false:=h2;rw [Ju] at h1 h2;show QD x.nm z.nm=false;rw [Ju];refine decide_eq_false ?_;have h1:=List.not_lt.1 (of_decide_eq_false h1);have h2:=List.not_lt.1 (of_decide_eq_false h2);exact List.not_lt.2 (List.le_trans h2 h1)
theorem QcD: ∀(l:List En) (t:Nat),t<l.length*2→(YD l)[t]! =(l[t/2]!.cells.toList)[t%2]!
 | [],t,h=>by simp at h
 | a::r,t,h=>by
   have e:YD (a::r)=a.cells.toList++YD r:=rfl;have hl:a.cells.toList.length=2:=rfl;rw [e];by_cases h8:t<2
   ·have h1:t/2=0:=by omega
    have h2:t%2=t:=by omega
    rw [h1,h2,List.getElem!_eq_getElem?_getD,List.getElem?_append_left (by omega),←List.getElem!_eq_getElem?_getD];rfl
   ·obtain ⟨m,rfl⟩: ∃m,t=m+2:=⟨t-2,by omega⟩;have h1:(m+2)/2=m/2+1:=by omega
    have h2:(m+2)%2=m%2:=by omega
    rw [h1,h2,List.getElem!_eq_getElem?_getD,List.getElem?_append_right (by omega),hl,Nat.add_sub_cancel,←List.getElem!_eq_getElem?_getD,QcD r m (by rw [List.length_cons] at h;omega)];rfl
theorem QaL (d:Array En):Go.Sort.flatK (fun t:En=>t.cells.toList) 2 d=(YD d.toList).toArray:=by
 refine Go.Sort.ext_get! ?_ fun t ht=>?_
 ·rw [Go.Sort.size_flatK];show d.size*2=(YD d.toList).toArray.size;simp [YE]
 ·rw [Go.Sort.size_flatK] at ht;rw [Go.Sort.get_flatK _ _ _ _ ht];have:=QcD d.toList t (by rw [Array.length_toList];exact ht);have e1:(YD d.toList).toArray[t]! =(YD d.toList)[t]!:=by simp
  have e2:d.toList[t/2]! =d[t/2]!:=by simp only [getElem!_def,Array.getElem?_toList]
  rw [e1,this,e2]
theorem Qku (w:World) (base:Nat) (v:Value) (ss:List En) (h:w.ownsRow base 202 2 v ss.length (YD ss)) (hl:ss.length≤1000000):
 Calls prog 216 #[v,.func (.func 217) #[] #[]] w fun e w'=>e= .returned (.tuple #[])∧∃ss',ss'.Perm ss∧(ss'.Pairwise fun x y=>QD y.nm x.nm=false)∧w'.ownsRow base 202 2 v ss'.length (YD ss')∧Frm (Up base) w w':=by
 rcases h.2 with ⟨rfl,h0⟩ | ⟨g,cap,cur,rfl,hbg,hg,hnc,hcm,hcs,htake⟩
 ·have hx:ss= []:=List.eq_nil_of_length_eq_zero h0;subst hx;refine (AnyF.slices_SortFunc_none Tryz.sortE none 0 _ w).mono ?_;rintro e w' ⟨he,rfl⟩;exact ⟨he,[],List.Perm.refl _,List.Pairwise.nil,h,Frm.refl _ _⟩
 ·have hcells: ∀j,j<(YD ss).length→cur[j]?=(YD ss)[j]?:=fun j hj=>by
   rw [←htake,List.getElem?_take,if_pos (by rw [YE] at hj;exact hj),Array.getElem?_toList]
  have hH:Go.Sort.HoldsK (fun t:En=>t.cells.toList) 2 w g 0 ss.toArray:=by
   intro j hj;rw [Go.Sort.size_flatK] at hj;have hj2:j<(YD ss).length:=by rw [YE];simpa using hj
   rw [QaL];refine ⟨?_,Qf hg⟩;rw [Nat.zero_add,Qa hg,hcells j hj2];simp [hj2]
  have hcmp:CmpLays prog 217 #[] (fun t:En=>t.cells.toList) 2 Qgi g 0 ss.toArray.size w:=by
   intro m os dk hdk x y;obtain ⟨nm,p⟩:=x;obtain ⟨nm',q⟩:=y;refine (Qft (sortWorldK (fun t:En=>t.cells.toList) 2 w g 0 m dk os) nm nm' p q).mono ?_;rintro e w' ⟨he,hw⟩;refine ⟨he,0,#[.cells (enz nm p) 202 (0,0)]++ #[.cells (enz nm' q) 202 (0,0)],?_⟩;rw [hw,←Go.Sort.grow_grow,←Go.Sort.alloc_eq_grow,←Go.Sort.alloc_eq_grow];rfl
  have hL:=AnyQ.slices_SortFunc Tryz.sortE 2 (fun W=>by kernel_rfl) (fun W=>by kernel_rfl) (fun t:En=>t.cells.toList) (fun _=>rfl) (fun x v hv=>by
   obtain ⟨nm,p⟩:=x;have:=QkG nm p;rw [Array.all_eq_true_iff_forall_mem] at this;exact this v (Array.mem_toList_iff.1 hv)) Qgi swoE 217 #[] g 0 cap ss.toArray w (enters_of func217 (by kernel_rfl) rfl) hcmp hH (lt_of_block hg) (by simp;omega)
  refine hL.mono ?_;rintro e w' ⟨he,d',n,os,hp,hs,hw⟩;have hsz:d'.size=ss.length:=hp.1.trans (by simp);have hperm:d'.toList.Perm ss:=by
   have h1:=hp.2.2;have e1:d'.extract 0 ss.toArray.size=d':=by rw [←hp.1];exact Array.extract_size
   have e2:ss.toArray.extract 0 ss.toArray.size=ss.toArray:=Array.extract_size;rw [e1,e2] at h1;exact h1
  have hcur:w'.heap[g]?=some (.cells (Go.Sort.putCells id 0 (Go.Sort.flatK (fun t:En=>t.cells.toList) 2 d') cur) 202 (0,0)):=by
   rw [hw];show (Array.modify w.heap g _++os)[g]?=_;rw [Array.getElem?_append_left (by rw [Array.size_modify];exact lt_of_block hg),Array.getElem?_modify,if_pos rfl,hg];rfl
  refine ⟨he,d'.toList,hperm,?_,⟨by rw [YE],.inr ⟨g,cap,_,by simp [hsz],hbg,hcur,by rw [Array.length_toList,hsz];exact hnc,hcm,by rw [←hcs];simp [Go.Sort.putCells],?_⟩⟩,?_⟩
  ·rw [List.pairwise_iff_getElem];intro i j hi hj hij;rw [Array.length_toList] at hi hj;have h1:=hs i j (Nat.zero_le _) hij (by rw [←hp.1];exact hj);rw [QaP] at h1;rw [getElem!_pos d' i hi,getElem!_pos d' j hj] at h1;exact h1
  ·apply List.ext_getElem?;intro i;rw [Array.length_toList,hsz,List.getElem?_take];split
   ·rename_i hi
    have hi':i<(YD d'.toList).length:=by rw [YE,Array.length_toList,hsz];exact hi
    have hic:i<cur.size:=by rw [hcs];have:ss.length*2≤cap*2:=Nat.mul_le_mul_right 2 hnc;omega
    rw [Array.getElem?_toList];unfold Go.Sort.putCells;rw [Array.getElem?_mapIdx,Array.getElem?_eq_getElem hic,Option.map_some,if_pos ⟨Nat.zero_le _,by rw [Go.Sort.size_flatK,hsz];omega⟩,QaL,List.getElem?_eq_getElem hi'];simp [hi']
   ·rename_i hi
    rw [List.getElem?_eq_none (by rw [YE,Array.length_toList,hsz];omega)]
  ·rw [hw];refine QgH ?_ rfl rfl rfl hbg fun k hk hne=>?_
   ·show w.heap.size≤(Array.modify w.heap g _++os).size;simp
   ·show (Array.modify w.heap g _++os)[k]?=_;rw [Array.getElem?_append_left (by rw [Array.size_modify];exact hk),Array.getElem?_modify,if_neg (fun e=>hne e.symm)]
theorem QbI (kb s:Nat) (hs:s≤50) (W:World):(Instr.sliceAt 299 (.pointer (some ⟨kb,0,none⟩)) (some (.int .i64 1)) (some (.int .u8 (1+(s:Int)))) none).run prog W= .ok (.slice (some ⟨kb,1,none⟩) s 50) W:=by
 have h1: ¬(1+(s:Int))<0:=by omega
 have h2: ¬51<1+(s:Int):=by omega
 have h3:(1+(s:Int)).toNat=1+s:=by omega
 have h4:1+(s:Int)≤51:=by omega
 have h5: ¬(1+s)<1:=by omega
 have h6:(0:Int)≤(s:Int):=by omega
 have h7:(0:Int)≤1+(s:Int):=by omega
 have h8:(1:Int)≤1+(s:Int):=by omega
 have h9:1+s-1=s:=by omega
 simp [Instr.sliceAt,run_underlying underlying299,Wv,Instr.sureAddr,Instr.sliceBounds,asIntOf,go_sem,Result.andThen,h1,h2,h3,h4,h5,h6,h7,h8,h9,Addr.add]
theorem QcL (W:World) (kb:Nat) (nm:ByteArray) (hnm:nm.size≤50) (h:W.heap[kb]?=some (.cells (Jb nm) 299 (0,0))) (c:Nat):
 (convert 76 9 (.slice (some ⟨kb,1,none⟩) nm.size c)).run prog W= .ok (.string nm) W:=by
 have hl:nm.data.toList.length=nm.size:=by rw [Array.length_toList];rfl
 have hc:=run_convert_bytes_back (P:=prog) W 76 9 5 ⟨kb,1,none⟩ c nm.data.toList underlying76 underlying5 underlying9 (fun j hj=>by
  rw [show (⟨kb,1,none⟩:Addr).add j=⟨kb,1+j,none⟩ by unfold Addr.add;split<;>simp_all];refine (Qa h).trans ?_;unfold Jb Qj;rw [List.getElem?_toArray,List.getElem?_map,Nat.add_comm,List.getElem?_cons_succ,List.getElem?_append_left hj,List.getElem?_eq_getElem hj];rfl)
 rw [hl] at hc;have:(⟨nm.data.toList.toArray⟩:ByteArray)=nm:=by simp
 rw [this] at hc;exact hc
theorem Qfs (nm:ByteArray) (h:nm.size≤50):(Jb nm)[0]?=some (.int .u8 ((nm.size:Nat):Int)):=by
 have:(UInt8.ofNat nm.size).toNat=nm.size:=by rw [UInt8.toNat_ofNat'];omega
 unfold Jb;rw [List.getElem?_toArray];show some (B8 (UInt8.ofNat nm.size))=_;unfold B8;rw [this]
theorem Qj3 (w:World) (s:ByteArray) (hs:s.size≤50):Calls prog 215 #[.agg (Jb s)] w fun e w'=>e= .returned (.string s)∧Frm NoB w w':=by
 have hb0:=Qb w (.cells (Jb s) 299 (0,0));have hf0:=(Frm.refl NoB w).alloc (.cells (Jb s) 299 (0,0));obtain ⟨y,hy⟩: ∃y,w.alloc (.cells (Jb s) 299 (0,0))=y:=⟨_,rfl⟩;obtain ⟨kb,hkb⟩: ∃kb,w.heap.size=kb:=⟨_,rfl⟩;rw [hy,hkb] at hb0;rw [hy] at hf0;have c0:y.cell? ⟨kb,0,none⟩=some (.int .u8 ((s.size:Nat):Int)):=(Qa hb0).trans (Qfs s hs);have hcv:=fun c=>QcL y kb s hs hb0 c
 have hw8:IntKind.u8.wrap (1+((s.size:Nat):Int))=1+((s.size:Nat):Int):=by
  have:IntKind.u8.wrap (1+((s.size:Nat):Int))=(1+((s.size:Nat):Int))%256:=by simp [IntKind.wrap,IntKind.bits,IntKind.signed]
  rw [this];omega
 have hsa:=QbI kb s.size hs;have HF:=hid hf0;have HY:=hid (And.intro hy hkb);have hs5:(s.size:Int)≤50:=by omega
 generalize Jb s=kc at*
 clear hf0 hb0 hy hkb hs;go_enter func215,ntmps215;go_upto_region 1 with fail
 rw [HY.out.1,HY.out.2];clear HY;go_wp2;go_ret;exact ⟨rfl,HF.out⟩
theorem Ux {α:Type} [DecidableEq α] (f:Nat→α): ∀(n:Nat) (l:List α),l.Nodup→(∀a∈l,∃k,k<n∧f k=a)→l.length≤n
 | 0,l,_,h=>by
   cases l with
   | nil=>exact Nat.le_refl _
   | cons a r=>obtain ⟨k,hk,_⟩:=h a (List.mem_cons_self ..);omega
 | n+1,l,hd,h=>by
   by_cases hx:f n∈l
   ·have:=Ux f n (l.erase (f n)) (hd.erase _) fun a ha=>by
     obtain ⟨k,hk,e⟩:=h a (List.mem_of_mem_erase ha);refine ⟨k,?_,e⟩;have hne:=(List.Nodup.mem_erase_iff hd).1 ha;rcases Nat.lt_or_ge k n with h1 | h1
     ·exact h1
     ·obtain rfl:k=n:=by omega
      exact absurd e.symm hne.1
    rw [List.length_erase_of_mem hx] at this;omega
   ·have:=Ux f n l hd fun a ha=>by
     obtain ⟨k,hk,e⟩:=h a ha;refine ⟨k,?_,e⟩;rcases Nat.lt_or_ge k n with h1 | h1
     ·exact h1
     ·obtain rfl:k=n:=by omega
      exact absurd (e▸ha) hx
    omega
structure Qc8 (b:Blk) (ss:List En):Prop where
 nm: ∀x∈ss,NmS x.nm∧∃i:Nat,x.ino=i∧JJ b (Qj x.nm)=some i
 all: ∀s,NmS s→JJ b (Qj s)≠none→∃x∈ss,x.nm=s
 asc:ss.Pairwise fun x y=>QD x.nm y.nm=true
structure Ud (b:Blk) (left:Blk→Prop) (ss:List En):Prop where
 nm: ∀x∈ss,NmS x.nm∧∃i:Nat,x.ino=i∧JJ b (Qj x.nm)=some i
 gone: ∀x∈ss,¬left (Qj x.nm)
 all: ∀a,okK a→(slM b (b.length/64) a).isSome=true→left a∨∃x∈ss,Qj x.nm=a
 dup:(ss.map fun x=>Qj x.nm).Nodup
theorem Ud.few {b:Blk} {left:Blk→Prop} {ss:List En} (h:Ud b left ss):ss.length≤b.length/64:=by
 have:=Ux (slK b) (b.length/64) (ss.map fun x=>Qj x.nm) h.dup fun a ha=>by
  obtain ⟨x,hx,rfl⟩:=List.mem_map.1 ha;obtain ⟨_,i,_,he⟩:=h.nm x hx;unfold JJ at he;cases hk:slX b (b.length/64) (Qj x.nm) with
  | none=>rw [hk] at he;cases he
  | some k=>
    obtain ⟨q1,_,q2⟩:=Kz b _ _ k hk;exact ⟨k,q1,q2⟩
 rw [List.length_map] at this;exact this
theorem Ud.nil {b:Blk} (left:Blk→Prop) (h: ∀a,okK a→(slM b (b.length/64) a).isSome=true→left a):Ud b left []:=
 ⟨fun x hx=>by (cases hx),fun x hx=>by (cases hx),fun a ha h1=> .inl (h a ha h1),List.nodup_nil⟩
theorem Ud.snoc {b:Blk} {left:Blk→Prop} {ss:List En} (h:Ud b left ss) {s:ByteArray} {i:Nat} (hs:NmS s) (hl:left (Qj s)) (he:JJ b (Qj s)=some i):Ud b (fun a=>left a∧a≠Qj s) (ss++ [⟨s,i⟩]):=by
 refine ⟨fun x hx=>?_,fun x hx hle=>?_,fun a ha h1=>?_,?_⟩
 ·rcases List.mem_append.1 hx with hx | hx
  ·exact h.nm x hx
  ·obtain rfl:x=⟨s,i⟩:=by simpa using hx
   exact ⟨hs,i,rfl,he⟩
 ·rcases List.mem_append.1 hx with hx | hx
  ·exact h.gone x hx hle.1
  ·obtain rfl:x=⟨s,i⟩:=by simpa using hx
   exact hle.2 rfl
 ·by_cases e:a=Qj s
  ·exact .inr ⟨⟨s,i⟩,by simp,e.symm⟩
  ·rcases h.all a ha h1 with h2 | ⟨x,hx,h2⟩
   ·exact .inl ⟨h2,e⟩
   ·exact .inr ⟨x,List.mem_append_left _ hx,h2⟩
 ·rw [List.map_append,List.nodup_append];refine ⟨h.dup,by simp,fun a ha c hc e=>?_⟩;have hc:c=Qj s:=by simpa using hc
  obtain ⟨x,hx,rfl⟩:=List.mem_map.1 ha;exact h.gone x hx (by rw [e,hc];exact hl)
theorem Ud.ents {b:Blk} {left:Blk→Prop} {ss ss':List En} (h:Ud b left ss) (hl: ∀a,okK a→¬left a) (hp:ss'.Perm ss) (hs:ss'.Pairwise fun x y=>QD y.nm x.nm=false):Qc8 b ss':=by
 refine ⟨fun x hx=>h.nm x (hp.mem_iff.1 hx),fun s h1 h2=>?_,?_⟩
 ·have hk:=Qr s h1.2;have h3:(slM b (b.length/64) (Qj s)).isSome=true:=by
   rw [O0];unfold JJ at h2;cases hx:slX b (b.length/64) (Qj s) with
   | none=>rw [hx] at h2;exact absurd rfl h2
   | some k=>rfl
  rcases h.all _ hk h3 with h4 | ⟨x,hx,h4⟩
  ·exact absurd h4 (hl _ hk)
  ·exact ⟨x,hp.mem_iff.2 hx,JO _ _ (h.nm x hx).1.2 h1.2 h4⟩
 ·have hd:(ss'.map fun x=>Qj x.nm).Nodup:=(hp.map _).nodup_iff.2 h.dup;rw [List.pairwise_iff_getElem] at hs ⊢;rw [List.Nodup,List.pairwise_map,List.pairwise_iff_getElem] at hd;intro i j hi hj hij;cases hl:QD ss'[i].nm ss'[j].nm with
  | true=>rfl
  | false=>exact absurd (congrArg Qj (UL hl (hs i j hi hj hij))) (hd i j hi hj hij)
theorem WA: ¬U8T (29:TypeId):=by decide
theorem QaY {α:Type} (a b:List α) (i:Nat):(a++b)[a.length+i]?=b[i]?:=by rw [List.getElem?_append_right (Nat.le_add_right _ _),Nat.add_sub_cancel_left]
theorem QdK:QE prog 45:=QJ func45 (by kernel_rfl) rfl
end
section
variable {w0:Gnd} {w:World} {rs:List Res} {X:Sys} {F:FH} {A:Path→Option Nd} {ι:Path→Nat}
attribute [local go_sem] U4 in
theorem Fs.perm2 (h:Fs w0 w F X A ι rs) {rs':List Res} (hp:rs.Perm rs'):Fs w0 w F X A ι rs':=by
 obtain ⟨⟨k,l,ha,hl⟩,hr⟩:=h;exact ⟨⟨k,l,ha.perm ((hp.cons _).cons _),hl⟩,hr⟩
end
end Go.Proofs.YtlemndledcmhiaaGreatDoor
