/-
  The catalog, from the device up, part 0.
-/
import Derived.Maps.Keyed
import Derived.Maps.Own
import Derived.Maps.Range
import Derived.Below
import Derived.WalkKit
import Derived.Deep.Quiet
import Derived.Test.YtlemndledcmhiaaGreatDoorProg
import Derived.WideKeyPair
import Derived.DeepKeys4
import Derived.Lib.Hide
import Derived.Laws.CopyOwn
import Derived.WalkSpells
import Derived.Deep.RegionHeld3
import Derived.WalkLawsBesides
import Derived.Maps.RangeWalk
namespace Go.Proofs.YtlemndledcmhiaaGreatDoor
set_option linter.unusedVariables false
set_option linter.unusedSimpArgs false
set_option maxHeartbeats 8000000
set_option maxRecDepth 100000
open Tryz
open Lib (hid)
open Go.ChangeMaps Go.MapKept Go.RowKit
theorem Qk (n:Nat):(0:Int)≤(n:Int):=Int.natCast_nonneg n
theorem tkA {P:Program} {ops:Array Oper} {Q:Exit→Act→World→Prop} {md:Region.Mode} {S:World→Prop} {i:Nat} {oi:Oper} {v:Value} {fuel:Nat} {listed:Array Bool} {a:Act} {w:World} (hi:ops[i]?=some oi) (h:wpAnyH P md ops Q S fuel (listed.setIfInBounds i true) (a.put oi.dst v) w) (hy: ∀w,S w→(execOp a.eval oi).run P w= .ok (.value v) w:=by intro w hSw;(try dsimp only at hSw);go_simp;(try with_reducible rfl)) (hg:Region.wanted oi (yielded ops a.tmps)=true:=by rfl) (hs:Region.noSelect ops=true:=by kernel_rfl) (hf:Region.free md ops listed i=true:=by kernel_rfl) (hr:(Region.ready md ops listed).contains i=true:=by kernel_rfl) (hQ: ∀c a w,Q (.panic c) (a.put oi.dst v) w→Q (.panic c) a w:=by exact fun _ _ _ h=>h) (hS:S w:=by assumption):wpAnyH P md ops Q S (fuel+1) listed a w:=wpAnyH_take hi hs hf hr hQ (Or.inl ⟨hg,hy⟩) hS h
theorem tkB {P:Program} {ops:Array Oper} {Q:Exit→Act→World→Prop} {md:Region.Mode} {S:World→Prop} {i:Nat} {oi:Oper} {v:Value} {fuel:Nat} {listed:Array Bool} {a:Act} {w:World} (hi:ops[i]?=some oi) (hy: ∀w,S w→(execOp a.eval oi).run P w= .ok (.value v) w) (h:wpAnyH P md ops Q S fuel (listed.setIfInBounds i true) (a.put oi.dst v) w) (hg:Region.wanted oi (yielded ops a.tmps)=true:=by rfl) (hs:Region.noSelect ops=true:=by kernel_rfl) (hf:Region.free md ops listed i=true:=by kernel_rfl) (hr:(Region.ready md ops listed).contains i=true:=by kernel_rfl) (hQ: ∀c a w,Q (.panic c) (a.put oi.dst v) w→Q (.panic c) a w:=by exact fun _ _ _ h=>h) (hS:S w:=by assumption):wpAnyH P md ops Q S (fuel+1) listed a w:=wpAnyH_take hi hs hf hr hQ (Or.inl ⟨hg,hy⟩) hS h
theorem tkS {α:Type} (l:List α) (i:Nat) (a:α):l.toArray.setIfInBounds i a=(l.set i a).toArray:=List.setIfInBounds_toArray ..
theorem tkZ {α:Type} (x:α) (l:List α) (a:α):(x::l).set 0 a=a::l:=List.set_cons_zero ..
theorem tkC {α:Type} (x:α) (l:List α) (n:Nat) (a:α):(x::l).set (n+1) a=x::l.set n a:=List.set_cons_succ ..
section
open Go.ChangeMaps Go.MapKept
open Go.Maps (Keyed)
structure Frm (M:Nat→Prop) (w w':World):Prop where
 os:w'.os=w.os
 tape:w'.tape=w.tape
 output:w'.output=w.output
 size:w.heap.size≤w'.heap.size
 block: ∀b,b<w.heap.size→¬M b→w'.heap[b]?=w.heap[b]?
theorem Frm.refl (M:Nat→Prop) (w:World):Frm M w w:=⟨rfl,rfl,rfl,Nat.le_refl _,fun _ _ _=>rfl⟩
theorem Frm.trans {M N:Nat→Prop} {a b c:World} (h:Frm M a b) (k:Frm N b c) (hn: ∀x,x<a.heap.size→N x→M x):Frm M a c:=
 ⟨k.os.trans h.os,k.tape.trans h.tape,k.output.trans h.output,Nat.le_trans h.size k.size,
  fun i hi hm=>(k.block i (Nat.lt_of_lt_of_le hi h.size) (fun x=>hm (hn i hi x))).trans (h.block i hi hm)⟩
theorem Frm.mono {M N:Nat→Prop} {a b:World} (h:Frm M a b) (hn: ∀x,x<a.heap.size→M x→N x):Frm N a b:=
 ⟨h.os,h.tape,h.output,h.size,fun i hi hm=>h.block i hi (fun x=>hm (hn i hi x))⟩
theorem Frm.drew {M:Nat→Prop} {a b:World} (h:Frm M a b):Frm M a b.drew:=⟨h.os,h.tape,h.output,h.size,h.block⟩
theorem Frm.drewN {M:Nat→Prop} {a b:World} (h:Frm M a b) (n:Nat):Frm M a (b.drewN n):=⟨h.os,h.tape,h.output,h.size,h.block⟩
theorem Frm.alloc {M:Nat→Prop} {a b:World} (h:Frm M a b) (o:Obj):Frm M a (b.alloc o):=
 h.trans (N:=fun _=>False) ⟨rfl,rfl,rfl,by simp,fun k hk _=>Go.RowKit.Below.heap_alloc _ _ _ (by omega)⟩ (fun _ _ h=>h.elim)
theorem Frm.setCell {M:Nat→Prop} {a b:World} (h:Frm M a b) {p:Addr} (hp:M p.block∨a.heap.size≤p.block) (u:Value):Frm M a (b.setCell p u):=
 h.trans (N:=fun x=>x=p.block) ⟨rfl,rfl,rfl,by simp [World.setCell],fun k _ hne=>Go.RowKit.Below.heap_setCell _ _ _ _ hne⟩
  (fun x hx e=>by subst e;rcases hp with hp | hp;exact hp;omega)
theorem Frm.setBlock {M:Nat→Prop} {a b:World} (h:Frm M a b) {p:Nat} (hp:M p∨a.heap.size≤p) (o:Obj):Frm M a (setBlock b p o):=
 h.trans (N:=fun x=>x=p) ⟨rfl,rfl,rfl,by simp [ChangeMaps.setBlock],fun k _ hne=>by
  simp only [ChangeMaps.setBlock];rw [Array.getElem?_setIfInBounds_ne (by omega)]⟩
  (fun x hx e=>by subst e;rcases hp with hp | hp;exact hp;omega)
def Q0 (b:Nat):Nat→Prop:=fun x=>x=b
theorem Q0.self (b:Nat):Q0 b b:=rfl
theorem Frm.setOnly {b i:Nat} {s:Option Nat} {a c:World} (h:Frm (Q0 b) a c) (u:Value):Frm (Q0 b) a (c.setCell ⟨b,i,s⟩ u):=h.setCell (.inl (Q0.self b)) u
theorem Frm.ofBelow {B:Nat} {w w':World} (h:Go.RowKit.Below B w w') (hB:B=w.heap.size) (M:Nat→Prop):Frm M w w':=
 ⟨h.os,h.tape,h.output,h.size,fun b hb _=>h.block b (by omega)⟩
theorem Frm.ofGrown {w w':World} {row:Option Nat} (h:w.grownBy w' row):Frm (fun x=>row=some x) w w':=
 ⟨h.os,h.tape,h.output,h.size,fun b hb hm=>h.block b hb (fun e=>hm e.symm)⟩
theorem Frm.cell {M:Nat→Prop} {w w':World} (h:Frm M w w') {p:Addr} (hp:p.block<w.heap.size) (hm: ¬M p.block):w'.cell? p=w.cell? p:=
 World.cell?_of_block (w:=w) (h.block p.block hp hm)
def grow (S:Nat→Prop) (w w':World):Nat→Prop:=fun x=>S x∨(w.heap.size≤x∧x<w'.heap.size)
theorem lt_of_block {w:World} {b:Nat} {o:Obj} (h:w.heap[b]?=some o):b<w.heap.size:=by
 rcases Nat.lt_or_ge b w.heap.size with h' | h'
 ·exact h'
 ·rw [Array.getElem?_eq_none h'] at h;cases h
theorem Ql {w:World} {b:Nat} {x:Obj} (o:Obj) (h:w.heap[b]?=some x):(w.alloc o).heap[b]?=some x:=
 (Go.RowKit.Below.heap_alloc w o b (lt_of_block h)).trans h
theorem Qb (w:World) (o:Obj):(w.alloc o).heap[w.heap.size]?=some o:=(MapKept.heap_alloc w o).1
theorem Qo {w:World} {b:Nat} {x:Option Obj} {p:Addr} (u:Value) (h:w.heap[b]?=x) (hne:b≠p.block):(w.setCell p u).heap[b]?=x:=
 (Go.RowKit.Below.heap_setCell w p u b hne).trans h
theorem Qh {w:World} {b i:Nat} {c:Array Value} {t:TypeId} {f:Nat×Nat} (u:Value) (h:w.heap[b]?=some (.cells c t f)):
 (w.setCell ⟨b,i,none⟩ u).heap[b]?=some (.cells (c.setIfInBounds i u) t f):=by
 simp [World.setCell,Array.getElem?_modify,h]
theorem Qm {w:World} {b p:Nat} {x:Option Obj} (o:Obj) (h:w.heap[b]?=x) (hne:b≠p):(setBlock w p o).heap[b]?=x:=by
 simp only [ChangeMaps.setBlock];rw [Array.getElem?_setIfInBounds_ne (Ne.symm hne)];exact h
theorem JM {w:World} {b:Nat} (o:Obj) (h:b<w.heap.size):(setBlock w b o).heap[b]?=some o:=by
 simp only [ChangeMaps.setBlock];rw [Array.getElem?_setIfInBounds_self_of_lt h]
theorem Qa {w:World} {b i:Nat} {c:Array Value} {t:TypeId} {f:Nat×Nat} (h:w.heap[b]?=some (.cells c t f)):w.cell? ⟨b,i,none⟩=c[i]?:=by
 simp [World.cell?,h]
theorem Qf {w:World} {b i:Nat} {c:Array Value} {t:TypeId} (h:w.heap[b]?=some (.cells c t (0,0))):w.frozen? ⟨b,i,none⟩=false:=by
 simp [World.frozen?,h]
structure JK (P:Program) (k:TypeId) {α:Type} (mk:α→Value) (ok:α→Prop):Prop where
 keyed:Keyed P k
 lit: ∀a,ok a→∃l,keyOf P k (mk a)=some l
 inj: ∀a b,mk a=mk b→a=b
def Qn {α:Type} (mk:α→Value) (ok:α→Prop) (w:World) (b n:Nat) (f:α→Option Value):Prop:=
 ∃es clock,w.heap[b]?=some (.map es clock)∧Stamped es clock∧(∀x∈es.toList,∃a,ok a∧x.key=mk a)∧es.size=n∧
  ∀a v,ok a→(f a=some v↔∃x∈es.toList,x.key=mk a∧x.val=v)
end
section
open Go.ChangeMaps Go.MapKept
open Go.Maps (Keyed)
variable {α:Type} {mk:α→Value} {ok:α→Prop} {P:Program} {k t e:TypeId} {w:World} {b n:Nat} {f:α→Option Value}
theorem Qn.lt (h:Qn mk ok w b n f):b<w.heap.size:=by
 obtain ⟨es,clock,hb,_⟩:=h;exact lt_of_block hb
theorem Qn.of_block {w':World} (h:Qn mk ok w b n f) (hb:w'.heap[b]?=w.heap[b]?):Qn mk ok w' b n f:=by
 obtain ⟨es,clock,h1,r⟩:=h;exact ⟨es,clock,hb.trans h1,r⟩
theorem Qn.frm {w':World} {M:Nat→Prop} (h:Qn mk ok w b n f) (hf:Frm M w w') (hm: ¬M b):Qn mk ok w' b n f:=
 h.of_block (hf.block b h.lt hm)
theorem Qn.congr {g:α→Option Value} (h:Qn mk ok w b n f) (hg: ∀a,ok a→g a=f a):Qn mk ok w b n g:=by
 obtain ⟨es,clock,h1,h2,h3,h4,h5⟩:=h;exact ⟨es,clock,h1,h2,h3,h4,fun a v ha=>by rw [hg a ha];exact h5 a v ha⟩
theorem Qn.made (w:World):Qn mk ok (w.alloc (.map #[] 0)) w.heap.size 0 (fun _=>none):=
 ⟨#[],0,Qb _ _,stamped_empty 0,by simp,rfl,by simp⟩
theorem Qn.find (K:JK P k mk ok) (h:Qn mk ok w b n f) {a:α} (ha:ok a): ∃es clock,w.heap[b]?=some (.map es clock)∧Stamped es clock∧
 (∀x∈es.toList,∃a,ok a∧x.key=mk a)∧es.size=n∧(∀a v,ok a→(f a=some v↔∃x∈es.toList,x.key=mk a∧x.val=v))∧
 ((f a=none∧(∀W,(Instr.findKey k (mk a) es.toList).run P W= .ok none W)∧∀x∈es.toList,x.key≠mk a)∨
  ∃j x,f a=some x.val∧(∀W,(Instr.findKey k (mk a) es.toList).run P W= .ok (some (j,x.val)) W)∧es.toList[j]?=some x∧x.key=mk a):=by
 obtain ⟨es,clock,h1,h2,h3,h4,h5⟩:=h;refine ⟨es,clock,h1,h2,h3,h4,h5,?_⟩;obtain ⟨l,hl⟩:=K.lit a ha;have hes: ∀x∈es.toList,∃l,keyOf P k x.key=some l:=fun x hx=>by
  obtain ⟨a',ha',e'⟩:=h3 x hx;rw [e'];exact K.lit a' ha'
 have hnd:es.toList.Pairwise (fun x y=>x.key≠y.key):=((stamped_iff es clock).1 h2).2.2;by_cases hx: ∃x∈es.toList,x.key=mk a
 ·right;obtain ⟨x,hxm,hxk⟩:=hx;obtain ⟨j,hj⟩:=List.getElem?_of_mem hxm;refine ⟨j,x,(h5 a _ ha).2 ⟨x,hxm,hxk,rfl⟩,fun W=>?_,hj,hxk⟩;rcases K.keyed.find W hl es.toList hes with ⟨_,e2⟩ | ⟨j',x',e1,e2,e3⟩
  ·exact absurd hxk (e2 x hxm)
  ·have:j'=j:=by
    rcases Nat.lt_trichotomy j j' with hlt | heq | hlt
    ·exfalso;have hp:=List.pairwise_iff_getElem.1 hnd;obtain ⟨g1,g2⟩:=List.getElem?_eq_some_iff.1 hj;obtain ⟨g3,g4⟩:=List.getElem?_eq_some_iff.1 e2;exact hp j j' g1 g3 hlt (by rw [g2,g4,hxk,e3])
    ·exact heq.symm
    ·exfalso;have hp:=List.pairwise_iff_getElem.1 hnd;obtain ⟨g1,g2⟩:=List.getElem?_eq_some_iff.1 hj;obtain ⟨g3,g4⟩:=List.getElem?_eq_some_iff.1 e2;exact hp j' j g3 g1 hlt (by rw [g2,g4,hxk,e3])
   subst this;rw [hj] at e2;cases e2;exact e1
 ·left;have hx': ∀x∈es.toList,x.key≠mk a:=fun x hxm e'=>hx ⟨x,hxm,e'⟩
  refine ⟨?_,fun W=>?_,hx'⟩
  ·cases hfa:f a with
   | none=>rfl
   | some v=>
     obtain ⟨x,hxm,hxk,_⟩:=(h5 a v ha).1 hfa;exact absurd hxk (hx' x hxm)
  ·rcases K.keyed.find W hl es.toList hes with ⟨e1,_⟩ | ⟨j',x',e1,e2,e3⟩
   ·exact e1
   ·exact absurd e3 (hx' x' (List.mem_of_getElem? e2))
theorem Qn.lookup (K:JK P k mk ok) (ht:P.underlying t=some (.map k e)) (h:Qn mk ok w b n f) {a:α} (ha:ok a) {z:Value} (hz: ∀W,(zeroValue e).run P W= .ok z W)
 (W:World) (hW:W.heap[b]?=w.heap[b]?):(Instr.lookup t (.map (some b)) (mk a) false).run P W= .ok ((f a).getD z) W:=by
 obtain ⟨es,clock,h1,h2,h3,h4,h5,h6⟩:=h.find K ha;obtain ⟨l,hl⟩:=K.lit a ha;rw [h1] at hW;rcases h6 with ⟨e1,e2,_⟩ | ⟨j,x,e1,e2,_,_⟩
 ·rw [e1];simp [Instr.lookup,run_underlying ht,MapKept.run_getObj_map hW,K.keyed.check W _ hl,e2,hz,Result.andThen]
 ·rw [e1];simp [Instr.lookup,run_underlying ht,MapKept.run_getObj_map hW,K.keyed.check W _ hl,e2,Result.andThen]
theorem Qn.lookup_ok (K:JK P k mk ok) (ht:P.underlying t=some (.map k e)) (h:Qn mk ok w b n f) {a:α} (ha:ok a) {z:Value} (hz: ∀W,(zeroValue e).run P W= .ok z W)
 (W:World) (hW:W.heap[b]?=w.heap[b]?):(Instr.lookup t (.map (some b)) (mk a) true).run P W= .ok (.tuple #[(f a).getD z,.bool (f a).isSome]) W:=by
 obtain ⟨es,clock,h1,h2,h3,h4,h5,h6⟩:=h.find K ha;obtain ⟨l,hl⟩:=K.lit a ha;rw [h1] at hW;rcases h6 with ⟨e1,e2,_⟩ | ⟨j,x,e1,e2,_,_⟩
 ·rw [e1];simp [Instr.lookup,run_underlying ht,MapKept.run_getObj_map hW,K.keyed.check W _ hl,e2,hz,Result.andThen]
 ·rw [e1];simp [Instr.lookup,run_underlying ht,MapKept.run_getObj_map hW,K.keyed.check W _ hl,e2,Result.andThen]
def upd [DecidableEq α] (f:α→Option Value) (a:α) (v:Option Value):α→Option Value:=fun x=>if x=a then v else f x
theorem Qn.update [DecidableEq α] (K:JK P k mk ok) (ht:P.underlying t=some (.map k e)) (h:Qn mk ok w b n f) {a:α} (ha:ok a) (v:Value):
 ∃o,(∀W,W.heap[b]?=w.heap[b]?→(Instr.mapUpdate t (.map (some b)) (mk a) v).run P W= .ok () (setBlock W b o))∧
  (∀W,b<W.heap.size→Qn mk ok (setBlock W b o) b (if (f a).isSome then n else n+1) (upd f a (some v))):=by
 obtain ⟨es,clock,h1,h2,h3,h4,h5,h6⟩:=h.find K ha;obtain ⟨l,hl⟩:=K.lit a ha;rcases h6 with ⟨e1,e2,e3⟩ | ⟨j,x,e1,e2,e3,e4⟩
 ·refine ⟨.map (es.push ⟨mk a,v,clock⟩) (clock+1),fun W hW=>?_,fun W hb=>?_⟩
  ·rw [h1] at hW;simp [Instr.mapUpdate,run_underlying ht,MapKept.run_getObj_map hW,K.keyed.check W false hl,e2,MapKept.run_setObj_map _ hW,Result.andThen,ChangeMaps.setBlock]
  ·refine ⟨_,_,JM _ hb,stamped_push h2 e3,?_,by simp [e1,h4],?_⟩
   ·intro y hy;simp only [Array.toList_push,List.mem_append,List.mem_singleton] at hy;rcases hy with hy | rfl
    ·exact h3 y hy
    ·exact ⟨a,ha,rfl⟩
   ·intro a' v' ha';unfold upd;simp only [Array.toList_push,List.mem_append,List.mem_singleton];by_cases hc:a'=a
    ·subst hc;rw [if_pos rfl];constructor
     ·intro hv;cases hv;exact ⟨_,.inr rfl,rfl,rfl⟩
     ·rintro ⟨y,hy | rfl,hy2,hy3⟩
      ·exact absurd hy2 (e3 y hy)
      ·subst hy3;rfl
    ·rw [if_neg hc,h5 a' v' ha'];constructor
     ·rintro ⟨y,hy,r⟩;exact ⟨y,.inl hy,r⟩
     ·rintro ⟨y,hy | rfl,hy2,hy3⟩
      ·exact ⟨y,hy,hy2,hy3⟩
      ·exact absurd (K.inj _ _ hy2).symm hc
 ·have hxm:x∈es.toList:=List.mem_of_getElem? e3;have hjs:j<es.size:=by have:=(List.getElem?_eq_some_iff.1 e3).1;simpa using this
  have hget:es[j]?=some x:=by simpa using e3
  refine ⟨.map (es.modify j fun y=> { y with key:=mk a,val:=v }) clock,fun W hW=>?_,fun W hb=>?_⟩
  ·rw [h1] at hW;have hst:=K.keyed.stays W hl;simp [Instr.mapUpdate,run_underlying ht,MapKept.run_getObj_map hW,K.keyed.check W false hl,e2,hget,e4,hst,MapKept.run_setObj_map _ hW,Result.andThen,ChangeMaps.setBlock]
  ·have hnd:es.toList.Pairwise (fun x y=>x.key≠y.key):=((stamped_iff es clock).1 h2).2.2;have hmem: ∀y,y∈(es.modify j fun y=> { y with key:=mk a,val:=v }).toList↔(y∈es.toList∧y.key≠mk a)∨y= { x with key:=mk a,val:=v }:=by
    intro y;rw [List.mem_iff_getElem?,List.mem_iff_getElem?];constructor
    ·rintro ⟨i,hi⟩;rw [Array.getElem?_toList,Array.getElem?_modify] at hi;by_cases hij:j=i
     ·subst hij;rw [if_pos rfl,hget] at hi;right
      simpa using hi.symm
     ·rw [if_neg hij] at hi;left;refine ⟨⟨i,by simpa using hi⟩,fun hk=>?_⟩;have hi':es.toList[i]?=some y:=by simpa using hi
      obtain ⟨g1,g2⟩:=List.getElem?_eq_some_iff.1 hi';obtain ⟨g3,g4⟩:=List.getElem?_eq_some_iff.1 e3;have hp:=List.pairwise_iff_getElem.1 hnd;rcases Nat.lt_or_gt_of_ne hij with hlt | hlt
      ·exact hp j i g3 g1 hlt (by rw [g2,g4,hk,e4])
      ·exact hp i j g1 g3 hlt (by rw [g2,g4,hk,e4])
    ·rintro (⟨⟨i,hi⟩,hk⟩ | rfl)
     ·have hij:j≠i:=fun e'=>by
       subst e';rw [e3] at hi;cases hi;exact hk e4
      exact ⟨i,by rw [Array.getElem?_toList,Array.getElem?_modify,if_neg hij];simpa using hi⟩
     ·exact ⟨j,by rw [Array.getElem?_toList,Array.getElem?_modify,if_pos rfl,hget];rfl⟩
   refine ⟨_,_,JM _ hb,stamped_modify h2 j _ (fun _ _=>rfl) (fun y _ hy=>by rw [hget] at hy;cases hy;exact e4.symm),?_,by simp [e1,h4],?_⟩
   ·intro y hy;rcases (hmem y).1 hy with ⟨hy,_⟩ | rfl
    ·exact h3 y hy
    ·exact ⟨a,ha,rfl⟩
   ·intro a' v' ha';unfold upd;by_cases hc:a'=a
    ·subst hc;rw [if_pos rfl];constructor
     ·intro hv;cases hv;exact ⟨_,(hmem _).2 (.inr rfl),rfl,rfl⟩
     ·rintro ⟨y,hy,hy2,hy3⟩;rcases (hmem y).1 hy with ⟨_,hne⟩ | rfl
      ·exact absurd hy2 hne
      ·subst hy3;rfl
    ·rw [if_neg hc,h5 a' v' ha'];constructor
     ·rintro ⟨y,hy,hy2,hy3⟩;exact ⟨y,(hmem y).2 (.inl ⟨hy,fun e'=>hc (K.inj _ _ (hy2.symm.trans e'))⟩),hy2,hy3⟩
     ·rintro ⟨y,hy,hy2,hy3⟩;rcases (hmem y).1 hy with ⟨hy,_⟩ | rfl
      ·exact ⟨y,hy,hy2,hy3⟩
      ·exact absurd (K.inj _ _ hy2).symm hc
theorem Qn.clear (ht:P.underlying t=some (.map k e)) (h:Qn mk ok w b n f) (ty:TypeId):
 ∃o,(∀W,W.heap[b]?=w.heap[b]?→(Builtin.clear_ #[t] ty #[.map (some b)]).run P W= .ok (.tuple #[]) (setBlock W b o))∧
  (∀W,b<W.heap.size→Qn mk ok (setBlock W b o) b 0 (fun _=>none)):=by
 obtain ⟨es,clock,h1,h2,h3,h4,h5⟩:=h;refine ⟨.map #[] clock,fun W hW=>?_,fun W hb=>⟨_,_,JM _ hb,stamped_empty _,by simp,rfl,by simp⟩⟩;rw [h1] at hW;simp [Builtin.clear_,run_underlying ht,MapKept.run_getObj_map hW,MapKept.run_setObj_map _ hW,Result.andThen,ChangeMaps.setBlock]
theorem Qn.len (ht:P.underlying t=some (.map k e)) (h:Qn mk ok w b n f) (ty:TypeId) (W:World) (hW:W.heap[b]?=w.heap[b]?):
 (Builtin.len_ #[t] ty #[.map (some b)]).run P W= .ok (goInt n) W:=by
 obtain ⟨es,clock,h1,h2,h3,h4,h5⟩:=h;rw [h1] at hW;simp [Builtin.len_,run_underlying ht,MapKept.run_getObj_map hW,Result.andThen,h4]
end
abbrev Blk:=List UInt8
def Qs:Blk:=List.replicate 512 0
structure DSt where
 n:Nat
 base:Nat→Blk
 pend:Nat→List Blk
 ops:Nat
 lim:Option Nat
structure DSt.Wf (D:DSt):Prop where
 n:D.n≤65536
 n1:1≤D.n
 base: ∀k,(D.base k).length=512
 pend: ∀k,∀b∈D.pend k,b.length=512
 far: ∀k,D.n≤k→D.pend k= []
 few: ∀k,(D.pend k).length≤D.ops
def DSt.new (n:Nat):DSt:= { n:=n,base:=fun _=>Qs,pend:=fun _=> [],ops:=0,lim:=none }
def DSt.off (D:DSt):Bool:=D.lim==some 0
def DSt.op (D:DSt):DSt:= { D with ops:=D.ops+1,lim:=D.lim.map (· -1) }
def DSt.last (D:DSt) (k:Nat):Blk:=(D.pend k).getLastD (D.base k)
def DSt.put (D:DSt) (k:Nat) (b:Blk):DSt:= { D with pend:=fun x=>if x=k then D.pend k++ [b] else D.pend x }
def DSt.flushed (D:DSt):DSt:= { D with base:=D.last,pend:=fun _=> [] }
theorem Q6:Qs.length=512:=List.length_replicate
theorem DSt.new_wf {n:Nat} (h1:1≤n) (h2:n≤65536):(DSt.new n).Wf:=
 ⟨h2,h1,fun _=>Q6,fun _ _ h=>by simp [DSt.new] at h,fun _ _=>rfl,fun _=>by simp [DSt.new]⟩
theorem DSt.op_wf {D:DSt} (h:D.Wf):D.op.Wf:=⟨h.n,h.n1,h.base,h.pend,h.far,fun k=>Nat.le_succ_of_le (h.few k)⟩
theorem DSt.last_length {D:DSt} (h:D.Wf) (k:Nat):(D.last k).length=512:=by
 unfold DSt.last;cases hp:D.pend k with
 | nil=>exact h.base k
 | cons a l=>
   have:(a::l).getLastD (D.base k)∈D.pend k:=by
    rw [hp];exact List.getLast_mem (l:=a::l) (by simp)
   exact h.pend k _ this
theorem DSt.put_wf {D:DSt} (h:D.Wf) {k:Nat} {b:Blk} (hk:k<D.n) (hb:b.length=512) (hf:(D.pend k).length+1≤D.ops):(D.put k b).Wf:=by
 refine ⟨h.n,h.n1,h.base,?_,?_,?_⟩
 ·intro x c hc;simp only [DSt.put] at hc;split at hc
  ·rcases List.mem_append.1 hc with hc | hc
   ·exact h.pend k c hc
   ·simp at hc;subst hc;exact hb
  ·exact h.pend x c hc
 ·intro x hx;have hx':D.n≤x:=hx;simp only [DSt.put];rw [if_neg (by omega)];exact h.far x hx
 ·intro x;simp only [DSt.put];split
  ·simp;omega
  ·exact h.few x
theorem DSt.flushed_wf {D:DSt} (h:D.Wf):D.flushed.Wf:=
 ⟨h.n,h.n1,fun k=>DSt.last_length h k,fun _ _ hb=>by simp [DSt.flushed] at hb,fun _ _=>rfl,fun _=>Nat.zero_le _⟩
section
open Go.ChangeMaps Go.MapKept
open Go.Maps (Keyed)
def B8 (x:UInt8):Value:= .int .u8 (x.toNat:Int)
def U8T (t:TypeId):Prop:=t=5∨t=257
instance (t:TypeId):Decidable (U8T t):=inferInstanceAs (Decidable (t=5∨t=257))
def IsC (w:World) (x:Nat) (c:Array Value):Prop:= ∃t,U8T t∧w.heap[x]?=some (.cells c t (0,0))
theorem IsC.lt {w:World} {x:Nat} {c:Array Value} (h:IsC w x c):x<w.heap.size:=by
 obtain ⟨t,_,h⟩:=h;exact lt_of_block h
theorem IsC.of8 {w:World} {x:Nat} {c:Array Value} (h:w.heap[x]?=some (.cells c 5 (0,0))):IsC w x c:=⟨_,.inl rfl,h⟩
theorem IsC.ofA {w:World} {x:Nat} {c:Array Value} (h:w.heap[x]?=some (.cells c 257 (0,0))):IsC w x c:=⟨_,.inr rfl,h⟩
theorem IsC.of_block {w w':World} {x:Nat} {c:Array Value} (h:IsC w x c) (hb:w'.heap[x]?=w.heap[x]?):IsC w' x c:=by
 obtain ⟨t,ht,h⟩:=h;exact ⟨t,ht,hb.trans h⟩
theorem IsC.cell {w:World} {x i:Nat} {c:Array Value} (h:IsC w x c):w.cell? ⟨x,i,none⟩=c[i]?:=by
 obtain ⟨t,_,h⟩:=h;exact Qa h
theorem IsC.frozen {w:World} {x i:Nat} {c:Array Value} (h:IsC w x c):w.frozen? ⟨x,i,none⟩=false:=by
 obtain ⟨t,_,h⟩:=h;exact Qf h
theorem IsC.set {w:World} {x i:Nat} {c:Array Value} (h:IsC w x c) (v:Value):IsC (w.setCell ⟨x,i,none⟩ v) x (c.setIfInBounds i v):=by
 obtain ⟨t,ht,h⟩:=h;exact ⟨t,ht,Qh v h⟩
theorem Yf {w:World} {x:Nat} {c0:Array Value} {t:TypeId} {f:Nat×Nat} (h:w.heap[x]?=some (.cells c0 t f)) (ht: ¬U8T t) (c:Array Value): ¬IsC w x c:=by
 rintro ⟨t',ht',e⟩;rw [h] at e;simp only [Option.some.injEq,Obj.cells.injEq] at e;exact ht (e.2.1▸ht')
theorem YO {w:World} {x:Nat} {es:Array MapEntry} {cl:Nat} (h:w.heap[x]?=some (.map es cl)) (c:Array Value): ¬IsC w x c:=by
 rintro ⟨t',_,e⟩;rw [h] at e;cases e
def Qc (w:World) (v:Value) (bs:List UInt8) (R:Nat→Prop):Prop:=
 ∃blk off cap c,v= .slice (some ⟨blk,off,none⟩) bs.length cap∧bs.length≤cap∧IsC w blk c∧
  (∀i,i<bs.length→c[off+i]?=some (B8 (bs.getD i 0)))∧R blk
theorem Qc.of_block {w w':World} {v:Value} {bs:List UInt8} {R:Nat→Prop} (h:Qc w v bs R) (hb: ∀x c,R x→IsC w x c→w'.heap[x]?=w.heap[x]?):Qc w' v bs R:=by
 obtain ⟨blk,off,cap,c,h1,h2,h3,h4,h5⟩:=h;exact ⟨blk,off,cap,c,h1,h2,h3.of_block (hb blk c h5 h3),h4,h5⟩
theorem Qc.mono {w:World} {v:Value} {bs:List UInt8} {R R':Nat→Prop} (h:Qc w v bs R) (hR: ∀x,x<w.heap.size→R x→R' x):Qc w v bs R':=by
 obtain ⟨blk,off,cap,c,h1,h2,h3,h4,h5⟩:=h;exact ⟨blk,off,cap,c,h1,h2,h3,h4,hR blk h3.lt h5⟩
abbrev JX:Int→Value:=Value.int .i64
def okI (a:Int):Prop:=(Lit.int .i64 a).wf=true
def Ug (p:Int×Int):Value:= .agg #[.int .i64 p.1,.int .i64 p.2]
def okP (p:Int×Int):Prop:=okI p.1∧okI p.2
theorem Yx (a:Int):okI a↔ -9223372036854775808≤a∧a≤9223372036854775807:=by
 unfold okI;simp only [Lit.wf,Bool.and_eq_true,decide_eq_true_eq];exact Iff.rfl
theorem Yw:JK prog 3 JX okI:=
 ⟨Go.Maps.int_keyed underlying3,fun _ ha=>⟨_,Go.Maps.keyOf_int_mk underlying3 ha⟩,fun a b h=>by simpa using h⟩
structure Hdl where
 b:Nat
 fm:Nat
 wm:Nat
 mm:Nat
def Hdl.M (h:Hdl) (x:Nat):Prop:=x=h.b∨x=h.fm∨x=h.wm∨x=h.mm
def Va (h:Hdl) (n ops:Nat) (cut:Bool) (left:Int):Obj:=
 .cells #[.int .i64 n,.map (some h.fm),.map (some h.wm),.map (some h.mm),.int .i64 ops,.bool cut,.int .i64 left] 129 (0,0)
def We (ops:Nat) (lim:Option Nat) (left:Int):Prop:=
 match lim with
 | some l=>left=l
 | none=> -(ops:Int)≤left∧left≤0
structure QF (w:World) (h:Hdl) (D:DSt) (R:Nat→Prop):Prop where
 wf:D.Wf
 blk: ∃left,w.heap[h.b]?=some (Va h D.n D.ops D.lim.isSome left)∧We D.ops D.lim left∧okI left
 fl: ∃n f,Qn JX okI w h.fm n f∧(∀k,okI k→f k=none→0≤k→k<D.n→D.base k.toNat=Qs)∧
  (∀k v,okI k→f k=some v→0≤k∧k<D.n∧Qc w v (D.base k.toNat) R)
 wr: ∃n g,Qn Ug okP w h.wm n g∧(∀k i:Nat,i<(D.pend k).length→∃v,g (k,(i:Int)+1)=some v∧Qc w v ((D.pend k).getD i []) R)∧
  (∀k i:Nat,(D.pend k).length≤i→okP ((k:Int),(i:Int)+1)→g (k,(i:Int)+1)=none)
 mn: ∃n m,Qn JX okI w h.mm n m∧(∀k:Nat,okI (k:Int)→m k=if D.pend k= [] then none else some (.int .i64 ((D.pend k).length:Nat)))∧
  (∀k,okI k→k<0→m k=none)
 apart:h.b≠h.fm∧h.b≠h.wm∧h.b≠h.mm∧h.fm≠h.wm∧h.fm≠h.mm∧h.wm≠h.mm
end
theorem Jm (h:Hdl) (n ops:Nat) (cut:Bool) (left:Int) {w:World} (hb:w.heap[h.b]?=some (Va h n ops cut left)):
 w.cell? ⟨h.b,0,none⟩=some (.int .i64 n)∧w.cell? ⟨h.b,1,none⟩=some (.map (some h.fm))∧w.cell? ⟨h.b,2,none⟩=some (.map (some h.wm))∧
 w.cell? ⟨h.b,3,none⟩=some (.map (some h.mm))∧w.cell? ⟨h.b,4,none⟩=some (.int .i64 ops)∧w.cell? ⟨h.b,5,none⟩=some (.bool cut)∧
 w.cell? ⟨h.b,6,none⟩=some (.int .i64 left)∧(∀i,w.frozen? ⟨h.b,i,none⟩=false):=by
 unfold Va at hb;refine ⟨?_,?_,?_,?_,?_,?_,?_,fun i=>Qf hb⟩<;>(rw [Qa hb];rfl)
def Vp (cut:Bool) (left:Int):Int:=if cut && left==0 then left else left-1
theorem Qju (h:Hdl) (n ops:Nat) (cut:Bool) (left:Int) (w:World) (hb:w.heap[h.b]?=some (Va h n ops cut left))
 (hn:1≤n) (ho:ops<4611686018427387904) (hl: -4611686018427387904≤left) (hl':left≤9223372036854775807):
 Calls prog 228 #[.pointer (some ⟨h.b,0,none⟩)] w fun e w'=>
  e= .returned (.bool (!(cut && left==0)))∧Frm (Q0 h.b) w w'∧w'.heap.size=w.heap.size∧
  w'.heap[h.b]?=some (Va h n (ops+1) cut (Vp cut left)):=by
 obtain ⟨c0,_,_,_,c4,c5,c6,fz⟩:=Jm h n ops cut left hb;have f4:=fz 4;have f6:=fz 6;clear fz;have hn0:((n:Int)==0)=false:=by simp;omega
 have HB:=hid hb;clear hb;by_cases hc:cut=true
 ·subst hc;by_cases h0:left=0
  ·subst h0;go_enter func228,ntmps228;go_wp2;go_ret;exact ⟨rfl,(Frm.refl _ _).setOnly _,by simp,Qh _ HB.out⟩
  ·have h0':(left==0)=false:=by simp [h0]
   go_enter func228,ntmps228;go_wp2;go_ret;exact ⟨by simp [h0],((Frm.refl _ _).setOnly _).setOnly _,by simp,by
    rw [Qh _ (Qh _ HB.out)];simp [Va,Vp,h0]⟩
 ·obtain rfl:cut=false:=by simpa using hc
  go_enter func228,ntmps228;go_wp2;go_ret;exact ⟨rfl,((Frm.refl _ _).setOnly _).setOnly _,by simp,by
   rw [Qh _ (Qh _ HB.out)];simp [Va,Vp]⟩
theorem EY (W:World):(zeroValue 3).run prog W= .ok (.int .i64 0) W:=by kernel_rfl
theorem Om (W:World):(zeroValue 76).run prog W= .ok (.slice none 0 0) W:=by kernel_rfl
theorem UE:laidOutB prog=true:=by kernel_rfl
theorem Ez: ∃m,prog.types.size=m+1:=⟨prog.types.size-1,by kernel_rfl⟩
theorem Wz:prog.cellsOf 3=1:=by kernel_rfl
theorem keyLits_int (d:Nat) (x:Int) (hx:(Lit.int .i64 x).wf=true):prog.keyLits (d+1) 3 [.int .i64 x]=some [.int .i64 x]:=by
 unfold Program.keyLits;simp only [underlying3,hx,and_self,if_true]
theorem Qbb:prog.keyType 147=true:=by kernel_rfl
theorem EL:prog.cellsOf 147=2:=by kernel_rfl
theorem Qak (a b:Int) (wa:okI a) (wb:okI b):
 keyOf prog 147 (.agg #[.int .i64 a,.int .i64 b])=some (.string (keyBytes [.int .i64 a,.int .i64 b])):=by
 obtain ⟨d,hd⟩:=Ez;unfold keyOf;simp only [underlying147];rw [if_pos (by simp [Qbb,Value.formed,underlying147,EL]),hd];unfold Program.keyLits;simp only [underlying147,Value.cells];rw [if_pos (by rw [EL];exact ⟨rfl,by decide+kernel⟩)];simp only [List.mapM_cons,List.mapM_nil,Wz,List.drop_zero,List.take_succ_cons,List.take_zero,List.drop_succ_cons,keyLits_int _ _ wa,keyLits_int _ _ wb];rfl
theorem Qck:JK prog 147 Ug okP:=by
 have K:WideMaps.KeyLaw prog 147:=deep_law_laid UE (m:=2) (by omega) (by decide+kernel) (by kernel_rfl) (by kernel_rfl);refine ⟨Go.Maps.Keyed.of_law K,fun a ha=>⟨_,Qak a.1 a.2 ha.1 ha.2⟩,fun a b h=>?_⟩;simp only [Ug,Value.agg.injEq] at h;have h0:=congrArg (fun x=>x[0]?) h;have h1:=congrArg (fun x=>x[1]?) h;simp at h0 h1;exact Prod.ext h0 h1
def Qg6 (w:World) (v:Value) (bs:Blk) (R:Nat→Prop):Prop:=(v= .slice none 0 0∧bs=Qs)∨Qc w v bs R
theorem QF.okn {w:World} {h:Hdl} {D:DSt} {R:Nat→Prop} (H:QF w h D R) {k:Int} (h0:0≤k) (hk:k<D.n):okI k:=by
 have:=H.wf.n;rw [Yx];omega
theorem QbZ (w:World) (h:Hdl) (D:DSt) (R:Nat→Prop) (H:QF w h D R) (k:Int) (h0:0≤k) (hk:k<D.n) (ho:D.ops<4611686018427387904):
 Calls prog 226 #[.pointer (some ⟨h.b,0,none⟩),.int .i64 k] w fun e w'=>w=w'∧∃v,e= .returned v∧Qg6 w v (D.last k.toNat) R∧(D.pend k.toNat≠ []→Qc w v (D.last k.toNat) R):=by
 have hok:=H.okn h0 hk;obtain ⟨left,hb,_,_⟩:=H.blk;obtain ⟨_,c1,c2,c3,_,_,_,_⟩:=Jm h _ _ _ _ hb;obtain ⟨nf,f,Mf,f1,f2⟩:=H.fl;obtain ⟨ng,g,Mg,g1,_⟩:=H.wr;obtain ⟨nm,m,Mm,m1,_⟩:=H.mn;have hkn:((k.toNat:Nat):Int)=k:=by omega
 have hm:=m1 k.toNat (by rw [hkn];exact hok);rw [hkn] at hm;have hfew:=H.wf.few k.toNat;have l1:=Mm.lookup Yw underlying127 hok EY w rfl;have l3:=Mf.lookup Yw underlying125 hok Om w rfl;rw [hm] at l1;by_cases hp:D.pend k.toNat= []
 ·rw [if_pos hp] at l1;have hl:Qg6 w ((f k).getD (.slice none 0 0)) (D.last k.toNat) R:=by
   unfold DSt.last;rw [hp];cases hf:f k with
   | none=>exact .inl ⟨rfl,f1 k hok hf h0 hk⟩
   | some v=>exact .inr (f2 k v hok hf).2.2
  have HL:=hid (And.intro hl (fun (x:D.pend k.toNat≠ [])=>(absurd hp x:Qc w ((f k).getD (.slice none 0 0)) (D.last k.toNat) R)));clear hl hm hkn hp hb f1 f2 g1 m1;generalize (f k).getD (.slice none 0 0)=v at*
  go_enter func226,ntmps226;go_wp2;go_ret;exact ⟨rfl,_,rfl,HL.out⟩
 ·rw [if_neg hp] at l1;obtain ⟨j,hj⟩: ∃j,(D.pend k.toNat).length=j+1:=⟨(D.pend k.toNat).length-1,by
   have:(D.pend k.toNat).length≠0:=fun e=>hp (List.eq_nil_of_length_eq_zero e)
   omega⟩
  rw [hj] at l1 hfew;obtain ⟨v,hv,hbv⟩:=g1 k.toNat j (by omega);have hokj:okI ((j:Int)+1):=by rw [Yx];omega
  have l2:=Mg.lookup Qck underlying126 (a:=(k,(j:Int)+1)) ⟨hok,hokj⟩ Om w rfl;rw [hkn] at hv;rw [hv] at l2;have hl:Qc w v (D.last k.toNat) R:=by
   have e1:D.last k.toNat=(D.pend k.toNat).getD j []:=by
    unfold DSt.last;rw [List.getLastD_eq_getLast?,List.getLast?_eq_getElem?,hj,List.getD_eq_getElem?_getD,Nat.add_sub_cancel,List.getElem?_eq_getElem (by omega)];rfl
   rw [e1];exact hbv
  have HL:Hid (Qg6 w v (D.last k.toNat) R∧(D.pend k.toNat≠ []→Qc w v (D.last k.toNat) R)):=hid ⟨.inr hl,fun _=>hl⟩;have hc:((j+1:Nat):Int)=(j:Int)+1:=by omega
  rw [hc] at l1;simp only [Option.getD_some] at l1 l2;unfold Ug at l2;have hj0:(0:Int)<(j:Int)+1:=by omega
  clear hl hm hkn hp hb f1 f2 g1 m1 hc hv hbv hj l3;go_enter func226,ntmps226;go_wp2;go_ret;exact ⟨rfl,_,rfl,HL.out⟩
def Kp (bs:List UInt8):Obj:= .cells (bs.map B8).toArray 5 (0,0)
def zc:Array Value:=madeCells #[.int .u8 0] 512
theorem V7:(prog.info? 5).map (fun i=>(i.zero,i.size,i.bytes))=some (some (.int .u8 0),1,1):=by kernel_rfl
theorem Y0 (v:Value) (n:Nat):(madeCells #[v] n).toList=List.replicate n v:=by
 apply List.ext_getElem
 ·simp [size_madeCells]
 ·intro i h1 h2;simp [madeCells,Nat.mod_one]
theorem QaH:zc.toList=List.replicate 512 (.int .u8 0):=Y0 _ _
theorem Kv:zc.size=512:=size_madeCells _ _
theorem QgC:zc=(Qs.map B8).toArray:=by
 apply Array.toList_inj.1;rw [QaH];unfold Qs;rw [List.map_replicate];rfl
theorem V1 (W:World):(Instr.makeSlice 76 (.int .i64 512) (.int .i64 512)).run prog W= .ok (.slice (some ⟨W.heap.size,0,none⟩) 512 512) (W.alloc (.cells zc 5 (0,0))):=by
 obtain ⟨i0,hi0,hz0,hz1,hz2⟩:=info_parts V7;have:=run_make (P:=prog) W 76 5 i0 _ underlying76 hi0 hz0 .i64 .i64 512 512 (by omega) (by omega) (by rw [hz2];omega) (by omega);rw [hz1] at this;exact this
theorem Kx (w:World) (c cs:Array Value) (e:TypeId) (f:Nat×Nat):(w.alloc (.cells c e f)).setRow w.heap.size cs=w.alloc (.cells cs e f):=by
 simp only [World.setRow,World.alloc]
 congr 1
 apply Array.ext
 ·simp
 ·intro i h1 h2;simp only [Array.getElem_modify,Array.getElem_push];by_cases hi:w.heap.size=i
  ·subst hi;simp
  ·have:i<w.heap.size:=by simp at h2;omega
   simp [this,hi]
theorem Qc.cells {w:World} {v:Value} {bs:List UInt8} {R:Nat→Prop} (h:Qc w v bs R): ∃blk off cap,v= .slice (some ⟨blk,off,none⟩) bs.length cap∧bs.length≤cap∧
 (∀j u,(bs.map B8)[j]?=some u→w.cell? ((⟨blk,off,none⟩:Addr).add j)=some u)∧R blk:=by
 obtain ⟨blk,off,cap,c,h1,h2,h3,h4,h5⟩:=h;refine ⟨blk,off,cap,h1,h2,fun j u hj=>?_,h5⟩;have hl:j<bs.length:=by
  have:=(List.getElem?_eq_some_iff.1 hj).1
  simpa using this
 have h6:=h4 j hl;have:((⟨blk,off,none⟩:Addr).add j)=⟨blk,off+j,none⟩:=by
  unfold Addr.add;split
  ·rename_i h0;subst h0;rfl
  ·rfl
 rw [this,h3.cell,h6];rw [List.getElem?_map,List.getElem?_eq_getElem hl] at hj;rw [List.getD_eq_getElem?_getD,List.getElem?_eq_getElem hl];exact hj
theorem QF.keep {w w':World} {h:Hdl} {D:DSt} {R:Nat→Prop} (H:QF w h D R) (hk: ∀b,b<w.heap.size→h.M b∨R b→w'.heap[b]?=w.heap[b]?):QF w' h D R:=by
 obtain ⟨wf,⟨left,hb,hl⟩,⟨nf,f,Mf,f1,f2⟩,⟨ng,g,Mg,g1,g2⟩,⟨nm,m,Mm,m1,m2⟩,ap⟩:=H;have hB: ∀v bs,Qc w v bs R→Qc w' v bs R:=fun v bs hv=>hv.of_block (fun x c hx hc=>hk x (hc.lt) (.inr hx))
 refine ⟨wf,⟨left,(hk _ (lt_of_block hb) (.inl (.inl rfl))).trans hb,hl⟩,⟨nf,f,Mf.of_block (hk _ Mf.lt (.inl (.inr (.inl rfl)))),f1,fun k v h1 h2=>?_⟩,
  ⟨ng,g,Mg.of_block (hk _ Mg.lt (.inl (.inr (.inr (.inl rfl))))),fun k i hi=>?_,g2⟩,⟨nm,m,Mm.of_block (hk _ Mm.lt (.inl (.inr (.inr (.inr rfl))))),m1,m2⟩,ap⟩
 ·obtain ⟨a,b,c⟩:=f2 k v h1 h2;exact ⟨a,b,hB _ _ c⟩
 ·obtain ⟨v,hv,c⟩:=g1 k i hi;exact ⟨v,hv,hB _ _ c⟩
theorem QF.alloc {w:World} {h:Hdl} {D:DSt} {R:Nat→Prop} (H:QF w h D R) (o:Obj):QF (w.alloc o) h D R:=
 H.keep fun b hb _=>Below.heap_alloc w o b hb
theorem QF.mono {w:World} {h:Hdl} {D:DSt} {R R':Nat→Prop} (H:QF w h D R) (hR: ∀x,x<w.heap.size→R x→R' x):QF w h D R':=by
 obtain ⟨wf,hb,⟨nf,f,Mf,f1,f2⟩,⟨ng,g,Mg,g1,g2⟩,hm,ap⟩:=H;refine ⟨wf,hb,⟨nf,f,Mf,f1,fun k v h1 h2=>?_⟩,⟨ng,g,Mg,fun k i hi=>?_,g2⟩,hm,ap⟩
 ·obtain ⟨a,b,c⟩:=f2 k v h1 h2;exact ⟨a,b,c.mono hR⟩
 ·obtain ⟨v,hv,c⟩:=g1 k i hi;exact ⟨v,hv,c.mono hR⟩
theorem Qg7 (w:World) (h:Hdl) (D:DSt) (R:Nat→Prop) (H:QF w h D R) (k:Int) (h0:0≤k) (hk:k<D.n) (ho:D.ops<4611686018427387904):
 Calls prog 139 #[.pointer (some ⟨h.b,0,none⟩),.int .i64 k] w fun e w'=>
  w'=w.alloc (Kp (D.last k.toNat))∧e= .returned (.tuple #[.slice (some ⟨w.heap.size,0,none⟩) 512 512,.int .i64 0]):=by
 have hlen:=DSt.last_length H.wf k.toNat;obtain ⟨left,hb,_,_⟩:=H.blk;obtain ⟨c0,_,_,_,_,_,_,_⟩:=Jm h _ _ _ _ hb;have hbl:=lt_of_block hb;have HB:=hid hb;have HL:=hid hlen;clear hb hlen;have hmk:=V1;have H1:=H.alloc (.cells zc 5 (0,0));have HC:=hid (QbZ _ h D R H1 k h0 hk ho);clear H1;go_enter func139,ntmps139;go_wp2_with fail;refine HC.out.mono ?_;rintro e w' ⟨rfl,v,rfl,hv,_⟩;clear hmk;rcases hv with ⟨rfl,hz⟩ | hv
 ·have hcp:=fun W=>run_copy_nil (P:=prog) W 76 76 3 5 ⟨w.heap.size,0,none⟩ 512 512 underlying76 (by kernel_rfl)
  have HZ:=hid hz;clear hz;go_wp2;go_ret2;exact ⟨by rw [HZ.out,QgC];rfl,rfl⟩
 ·obtain ⟨blk,off,cap,rfl,hcap,hcell,_⟩:=hv.cells;rw [HL.out] at hcap ⊢;have hcp:=run_copy_row (P:=prog) (w.alloc (.cells zc 5 (0,0))) 76 76 3 5 w.heap.size 0 512 512 ⟨blk,off,none⟩ 512 cap zc 5 ((D.last k.toNat).map B8)
   underlying76 (by kernel_rfl) (Qb _ _) (by rw [List.length_map,HL.out];rfl) hcell (by rw [List.length_map,HL.out,Kv];omega) (by intro u hu;obtain ⟨x,_,rfl⟩:=List.mem_map.1 hu;rfl)
  have e1:(zc.toList.take 0++(D.last k.toNat).map B8++zc.toList.drop (0+((D.last k.toNat).map B8).length)).toArray=((D.last k.toNat).map B8).toArray:=by
   have hz:zc.toList.length=512:=by rw [Array.length_toList];exact Kv
   rw [List.take_zero,List.nil_append,List.drop_of_length_le (by rw [hz,List.length_map,HL.out];omega),List.append_nil]
  rw [e1,Kx,List.length_map,HL.out] at hcp;have HV:=hid hv;clear hv hcell e1;go_wp2;go_ret2;exact ⟨rfl,rfl⟩
def NoB:Nat→Prop:=fun _=>False
def QR (w:World):Nat→Prop:=fun x=>w.heap.size≤x
theorem JZ {w:World} {base:Nat} {v:Value} {bs:List UInt8} (h:w.ownsRow base 5 1 v bs.length (bs.map B8)) (hv:v≠ .slice none 0 0):Qc w v bs (fun x=>base≤x):=by
 obtain ⟨_,h | ⟨g,cap,cur,rfl,hb,hh,hn,_,hsz,ht⟩⟩:=h
 ·exact absurd h.1 hv
 ·refine ⟨g,0,cap,cur,rfl,hn,IsC.of8 hh,fun i hi=>?_,hb⟩;have h1:(cur.toList.take (bs.length*1))[i]?=(bs.map B8)[i]?:=by rw [ht]
  rw [List.getElem?_take,if_pos (by omega),List.getElem?_map,List.getElem?_eq_getElem hi] at h1;rw [Nat.zero_add,List.getD_eq_getElem?_getD,List.getElem?_eq_getElem hi,←Array.getElem?_toList,h1];rfl
theorem Vn (w:World) (v:Value) (bs:List UInt8) (R:Nat→Prop) (hv:Qc w v bs R) (hl:bs.length≤140737488355328):
 Calls prog 146 #[v] w fun e w'=>Frm NoB w w'∧∃v',e= .returned v'∧Qc w' v' bs (QR w):=by
 obtain ⟨i0,hi0,hz0,hz1,hz2⟩:=info_parts V7;obtain ⟨blk,off,cap,rfl,hcap,hcell,_⟩:=hv.cells;have hnil:=Lib.run_eql_slice_nil (P:=prog);have hlt:blk<w.heap.size:=by
  obtain ⟨blk',off',cap',c',e1,_,h3,_⟩:=hv;cases e1;exact h3.lt
 have hown:(w.alloc (.cells #[] 5 (0,0))).ownsRow w.heap.size 5 1 (.slice (some ⟨w.heap.size,0,none⟩) 0 0) 0 []:=
  ⟨rfl,.inr ⟨w.heap.size,0,#[],rfl,Nat.le_refl _,Qb _ _,Nat.le_refl _,Nat.zero_le _,rfl,rfl⟩⟩
 have hcell': ∀j u,(bs.map B8)[j]?=some u→(w.alloc (.cells #[] 5 (0,0))).cell? ((⟨blk,off,none⟩:Addr).add j)=some u:=fun j u hj=>by
  rw [←hcell j u hj];refine World.cell?_of_block (w:=w) (Below.heap_alloc w _ _ ?_);unfold Addr.add;split<;>exact hlt
 have HC:=hid hcell';have HO:=hid hown;have HV:=hid hv;have h1: ∀u∈bs.map B8,u.oneCell'=true:=by intro u hu;obtain ⟨x,_,rfl⟩:=List.mem_map.1 hu;rfl
 clear hcell hcell' hown hv;go_enter func146,ntmps146;go_wp2_with (at_builtin;refine wpList_append_own _ rfl _ _ 76 rfl w.heap.size 5 i0 (.int .u8 0) 1 1 underlying76 hi0 hz0 hz1 hz2 rfl (by decide) _ _ _ rfl HO.out ⟨blk,off,none⟩ bs.length cap (bs.map B8) rfl ?c0 HC.out h1 ?c1 ?c2 ?c3 ?_)
 case c0=>simp
 case c1=>simp only [maxLen];omega
 case c2=>omega
 case c3=>simp
 intro v' w' ho hg hn;have hne:v'≠ .slice none 0 0:=hn;have hb:=JZ ho hne;have HB:=hid hb;have hf:Frm NoB w w':=((Frm.refl NoB w).alloc _).trans (Frm.ofGrown hg) (fun x hx e=>by simp [Value.ownBlock] at e;omega);have HF:=hid hf;clear hb ho hg hn hne hf;go_wp2;go_ret;exact ⟨HF.out,v',rfl,HB.out⟩
theorem size_alloc (w:World) (o:Obj):(w.alloc o).heap.size=w.heap.size+1:=by simp
theorem QhI (w:World) (n:Nat) (h1:1≤n) (h2:n≤65536):
 Calls prog 68 #[.int .i64 n] w fun e w'=>Frm NoB w w'∧w'.heap.size=w.heap.size+4∧∃h:Hdl,e= .returned (.pointer (some ⟨h.b,0,none⟩))∧QF w' h (DSt.new n) NoB∧
  (∀x,h.M x→w.heap.size≤x):=by
 have hmm:=@run_makeMap prog;go_enter func68,ntmps68;go_wp2;go_ret;refine ⟨((((Frm.refl _ _).alloc _).alloc _).alloc _).alloc _,by simp,⟨w.heap.size+3,w.heap.size,w.heap.size+1,w.heap.size+2⟩,rfl,?_,?_⟩
 ·have M1:Qn JX okI (w.alloc (.map #[] 0)) w.heap.size 0 (fun _=>none):=Qn.made w;have M2:Qn Ug okP ((w.alloc (.map #[] 0)).alloc (.map #[] 0)) (w.heap.size+1) 0 (fun _=>none):=by
   have:=Qn.made (mk:=Ug) (ok:=okP) (w.alloc (.map #[] 0));simpa using this
  have M3:Qn JX okI (((w.alloc (.map #[] 0)).alloc (.map #[] 0)).alloc (.map #[] 0)) (w.heap.size+2) 0 (fun _=>none):=by
   have:=Qn.made (mk:=JX) (ok:=okI) ((w.alloc (.map #[] 0)).alloc (.map #[] 0));simpa using this
  refine ⟨DSt.new_wf h1 h2,⟨0,?_,⟨by simp [DSt.new],Int.le_refl _⟩,(Yx 0).2 (by omega)⟩,⟨0,_,M1.of_block ?_,fun _ _ _ _ _=>rfl,fun _ _ _ hc=>by cases hc⟩,
   ⟨0,_,M2.of_block ?_,fun _ _ hi=>by simp [DSt.new] at hi,fun _ _ _ _=>rfl⟩,⟨0,_,M3.of_block ?_,fun _ _=>by simp [DSt.new],fun _ _ _=>rfl⟩,by simp⟩
  ·have:=Qb (((w.alloc (.map #[] 0)).alloc (.map #[] 0)).alloc (.map #[] 0)) (Va ⟨w.heap.size+3,w.heap.size,w.heap.size+1,w.heap.size+2⟩ n 0 false 0)
   simpa [Va,DSt.new] using this
  ·rw [Below.heap_alloc _ _ _ (by simp only [size_alloc];omega),Below.heap_alloc _ _ _ (by simp only [size_alloc];omega),Below.heap_alloc _ _ _ (by simp only [size_alloc];omega)]
  ·rw [Below.heap_alloc _ _ _ (by simp only [size_alloc];omega),Below.heap_alloc _ _ _ (by simp only [size_alloc];omega)]
  ·rw [Below.heap_alloc _ _ _ (by simp only [size_alloc];omega)]
 ·rintro x (rfl | rfl | rfl | rfl)<;>simp
def Made (w:World) (D:DSt) (R:Nat→Prop) (v:Value) (w':World):Prop:=
 Frm NoB w w'∧∃h:Hdl,v= .pointer (some ⟨h.b,0,none⟩)∧QF w' h D R∧(∀x,h.M x→w.heap.size≤x)
theorem Qic (w:World) (n:Int) (h1:1≤n) (h2:n≤65536):
 Calls prog 36 #[.int .i64 n] w fun e w'=> ∃v,e= .returned (.tuple #[v,.int .i64 0])∧Made w (DSt.new n.toNat) NoB v w':=by
 obtain ⟨m,rfl⟩:=Int.eq_ofNat_of_zero_le (by omega:0≤n);have h3:1≤m:=by omega
 have h4:m≤65536:=by omega
 have HC:=hid (QhI w m h3 h4);have h5: ¬(m:Int)<1:=by omega
 go_enter func36,ntmps36;go_wp2_with fail;refine HC.out.mono ?_;rintro e w' ⟨hf,_,h,rfl,hd,hm⟩;have HM:=hid (show Made w (DSt.new (m:Int).toNat) NoB (.pointer (some ⟨h.b,0,none⟩)) w' from ⟨hf,h,rfl,hd,hm⟩);clear hf hd hm HC;go_wp2;go_ret2;exact ⟨_,rfl,HM.out⟩
theorem Qdz (w:World) (h:Hdl) (D:DSt) (R:Nat→Prop) (H:QF w h D R):
 Calls prog 66 #[.pointer (some ⟨h.b,0,none⟩)] w fun e w'=>w=w'∧e= .returned (.int .i64 D.n):=by
 obtain ⟨left,hb,_,_⟩:=H.blk;obtain ⟨c0,_,_,_,_,_,_,_⟩:=Jm h _ _ _ _ hb;clear hb;go_enter func66,ntmps66;go_wp2;go_ret;exact ⟨rfl,rfl⟩
theorem Hdl.Mb (h:Hdl):h.M h.b:= .inl rfl
theorem Hdl.Mf (h:Hdl):h.M h.fm:= .inr (.inl rfl)
theorem Hdl.Mw (h:Hdl):h.M h.wm:= .inr (.inr (.inl rfl))
theorem Hdl.Mm (h:Hdl):h.M h.mm:= .inr (.inr (.inr rfl))
theorem Qc.frmB {w w':World} {v:Value} {bs:List UInt8} {R M:Nat→Prop} (hv:Qc w v bs R) (hf:Frm M w w')
 (hM: ∀x,M x→∀c,¬IsC w x c):Qc w' v bs R:=
 hv.of_block fun x c _ hc=>hf.block x (hc.lt) (fun hx=>hM x hx c hc)
theorem QF.noBytes {w:World} {h:Hdl} {D:DSt} {R:Nat→Prop} (H:QF w h D R): ∀x,h.M x→∀c,¬IsC w x c:=by
 obtain ⟨_,⟨left,hb,_⟩,⟨nf,f,Mf,_⟩,⟨ng,g,Mg,_⟩,⟨nm,m,Mm,_⟩,_⟩:=H;rintro x (rfl | rfl | rfl | rfl) c e
 ·exact Yf hb (by decide) c e
 ·obtain ⟨es,cl,h1,_⟩:=Mf;exact YO h1 c e
 ·obtain ⟨es,cl,h1,_⟩:=Mg;exact YO h1 c e
 ·obtain ⟨es,cl,h1,_⟩:=Mm;exact YO h1 c e
theorem QF.restruct {w w':World} {h:Hdl} {D:DSt} {R:Nat→Prop} (H:QF w h D R) (hf:Frm (Q0 h.b) w w') (ops:Nat) (lim:Option Nat) (left:Int) (ho:D.ops≤ops)
 (hb:w'.heap[h.b]?=some (Va h D.n ops lim.isSome left)) (hl:We ops lim left) (hok:okI left):QF w' h { D with ops:=ops,lim:=lim } R:=by
 have hnb:=H.noBytes;obtain ⟨wf,_,⟨nf,f,Mf,f1,f2⟩,⟨ng,g,Mg,g1,g2⟩,⟨nm,m,Mm,m1,m2⟩,ap⟩:=H;have hB: ∀v bs,Qc w v bs R→Qc w' v bs R:=fun v bs hv=>hv.frmB hf (fun x hx c=>by obtain rfl:x=h.b:=hx;exact hnb _ h.Mb c)
 refine ⟨⟨wf.n,wf.n1,wf.base,wf.pend,wf.far,fun k=>Nat.le_trans (wf.few k) ho⟩,⟨left,hb,hl,hok⟩,⟨nf,f,Mf.frm hf (fun e=>ap.1 e.symm),f1,fun k v h1 h2=>?_⟩,
  ⟨ng,g,Mg.frm hf (fun e=>ap.2.1 e.symm),fun k i hi=>?_,g2⟩,⟨nm,m,Mm.frm hf (fun e=>ap.2.2.1 e.symm),m1,m2⟩,ap⟩
 ·obtain ⟨a,b,c⟩:=f2 k v h1 h2;exact ⟨a,b,hB _ _ c⟩
 ·obtain ⟨v,hv,c⟩:=g1 k i hi;exact ⟨v,hv,hB _ _ c⟩
theorem Qbj (w:World) (h:Hdl) (D:DSt) (R:Nat→Prop) (H:QF w h D R) (ho:D.ops<4611686018427387904):
 Calls prog 228 #[.pointer (some ⟨h.b,0,none⟩)] w fun e w'=>
  e= .returned (.bool (!D.off))∧QF w' h D.op R∧Frm (Q0 h.b) w w'∧w'.heap.size=w.heap.size:=by
 obtain ⟨left,hb,hl,hok⟩:=H.blk;have hok':=(Yx left).1 hok;have hlo: -4611686018427387904≤left:=by
  unfold We at hl;split at hl<;>omega
 refine (Qju h D.n D.ops D.lim.isSome left w hb H.wf.n1 ho hlo hok'.2).mono ?_;rintro e w' ⟨rfl,hf,hs,hb'⟩;have hoff:(D.lim.isSome && left==0)=D.off:=by
  unfold We at hl;unfold DSt.off;split at hl
  ·rename_i l hlim
   rw [hlim,hl];cases l with
   | zero=>rfl
   | succ l=>
     have:(((l+1:Nat):Int)==0)=false:=by simp;omega
     rw [this];simp
  ·rename_i hlim
   rw [hlim];rfl
 refine ⟨by rw [hoff],?_,hf,hs⟩;have hsome:(D.lim.map (· -1)).isSome=D.lim.isSome:=by simp
 refine H.restruct hf (D.ops+1) (D.lim.map (· -1)) (Vp D.lim.isSome left) (Nat.le_succ _) (by rw [hsome];exact hb') ?_ ?_
 ·unfold We at hl ⊢;unfold Vp;cases hlim:D.lim with
  | none=>
    rw [hlim] at hl;simp only [Option.map_none];simp;simp at hl;omega
  | some l=>
    rw [hlim] at hl;simp at hl;subst hl;simp;split<;>omega
 ·rw [Yx];unfold Vp;split<;>omega
theorem QfH (w:World) (h:Hdl) (D:DSt) (R:Nat→Prop) (H:QF w h D R) (ho:D.ops<4611686018427387904) (hoff:D.off=true) (k:Int) (v:Value):
 Calls prog 227 #[.pointer (some ⟨h.b,0,none⟩),.int .i64 k,v] w fun e w'=>
  e= .returned (.int .i64 9)∧QF w' h D.op R∧Frm h.M w w':=by
 have HC:=hid (Qbj w h D R H ho);go_enter func227,ntmps227;go_wp2_with fail;refine HC.out.mono ?_;rintro e w1 ⟨rfl,hd,hf,hs⟩;rw [hoff];have HP:=hid (And.intro hd (hf.mono (N:=h.M) fun x _ e=>by obtain rfl:x=h.b:=e;exact h.Mb));clear hd hf hs HC;go_wp2;go_ret;exact ⟨rfl,HP.out.1,HP.out.2⟩
def Agree (w w':World):Prop:= ∀b,b<w.heap.size→w'.heap[b]?=w.heap[b]?
theorem Agree.refl (w:World):Agree w w:=fun _ _=>rfl
theorem Agree.drew {w w':World} (h:Agree w w'):Agree w w'.drew:=h
theorem Agree.frm {w a b:World} (h:Agree w a) (hf:Frm NoB a b) (hs:w.heap.size≤a.heap.size):Agree w b:=fun x hx=>(hf.block x (by omega) (fun e=>e)).trans (h x hx)
theorem Agree.cell {w w':World} (h:Agree w w') {b i:Nat} (hb:b<w.heap.size):w'.cell? ⟨b,i,none⟩=w.cell? ⟨b,i,none⟩:=World.cell?_of_block (w:=w) (h b hb)
theorem QF.putAt {w1 w4:World} {h:Hdl} {D:DSt} {R R4:Nat→Prop} (H:QF w1 h D R) {nm ng:Nat} {m:Int→Option Value} {g:Int×Int→Option Value}
 (m1: ∀k:Nat,okI (k:Int)→m k=if D.pend k= [] then none else some (.int .i64 ((D.pend k).length:Nat))) (m2: ∀k,okI k→k<0→m k=none)
 (g1: ∀k i:Nat,i<(D.pend k).length→∃v,g (k,(i:Int)+1)=some v∧Qc w1 v ((D.pend k).getD i []) R)
 (g2: ∀k i:Nat,(D.pend k).length≤i→okP ((k:Int),(i:Int)+1)→g (k,(i:Int)+1)=none)
 (k:Nat) (hk:k<D.n) (bs:Blk) (hbs:bs.length=512) (hf:(D.pend k).length+1≤D.ops) (v:Value) (hv:Qc w4 v bs R4) (hR: ∀x,R x→R4 x)
 (hag: ∀b,b<w1.heap.size→b≠h.mm→b≠h.wm→w4.heap[b]?=w1.heap[b]?)
 (M4:Qn JX okI w4 h.mm nm (upd m k (some (.int .i64 (((D.pend k).length:Int)+1))))) (G4:Qn Ug okP w4 h.wm ng (upd g ((k:Int),((D.pend k).length:Int)+1) (some v))):
 QF w4 h (D.put k bs) R4:=by
 have hnb:=H.noBytes;obtain ⟨wf,⟨left,hb,hl,hok⟩,⟨nf,f,Mf,f1,f2⟩,_,_,ap⟩:=H;have hB: ∀v bs,Qc w1 v bs R→Qc w4 v bs R4:=fun v bs hv=>(hv.of_block (fun x c _ hc=>hag x (hc.lt) (fun e=>hnb x (by rw [e];exact h.Mm) c hc) (fun e=>hnb x (by rw [e];exact h.Mw) c hc))).mono (fun x _ hx=>hR x hx)
 refine ⟨DSt.put_wf wf hk hbs hf,⟨left,(hag _ (lt_of_block hb) ap.2.2.1 ap.2.1).trans hb,hl,hok⟩,⟨nf,f,Mf.of_block (hag _ Mf.lt ap.2.2.2.2.1 ap.2.2.2.1),f1,fun k v h1 h2=>?_⟩,
  ⟨ng,_,G4,fun x i hi=>?_,fun x i hi ho=>?_⟩,⟨nm,_,M4,fun x hx=>?_,fun x hx hx0=>?_⟩,ap⟩
 ·obtain ⟨a,b,c⟩:=f2 k v h1 h2;exact ⟨a,b,hB _ _ c⟩
 ·simp only [DSt.put] at hi ⊢;by_cases hxk:x=k
  ·subst hxk;simp only [if_pos] at hi ⊢;rw [List.length_append,List.length_singleton] at hi;by_cases hil:i=(D.pend x).length
   ·subst hil;refine ⟨v,by simp [upd],?_⟩;rw [List.getD_eq_getElem?_getD,List.getElem?_append_right (Nat.le_refl _)]
    simpa using hv
   ·have hlt:i<(D.pend x).length:=by omega
    obtain ⟨v0,hv0,hb0⟩:=g1 x i hlt;refine ⟨v0,?_,?_⟩
    ·unfold upd;rw [if_neg (fun e=>hil (by have:=congrArg Prod.snd e;simp at this;omega))];exact hv0
    ·rw [List.getD_eq_getElem?_getD,List.getElem?_append_left hlt,←List.getD_eq_getElem?_getD];exact hB _ _ hb0
  ·simp only [if_neg hxk] at hi ⊢;obtain ⟨v0,hv0,hb0⟩:=g1 x i hi;refine ⟨v0,?_,hB _ _ hb0⟩;unfold upd;rw [if_neg (fun e=>hxk (by have:=congrArg Prod.fst e;simp at this;omega))];exact hv0
 ·simp only [DSt.put] at hi;unfold upd;by_cases hxk:x=k
  ·subst hxk;simp only [if_pos] at hi;rw [List.length_append,List.length_singleton] at hi;rw [if_neg (fun e=>by have:=congrArg Prod.snd e;simp at this;omega)];exact g2 x i (by omega) ho
  ·rw [if_neg hxk] at hi;rw [if_neg (fun e=>hxk (by have:=congrArg Prod.fst e;simp at this;omega))];exact g2 x i hi ho
 ·simp only [DSt.put];unfold upd;by_cases hxk:x=k
  ·subst hxk;simp
  ·have hxk': ¬(x:Int)=(k:Int):=fun e=>hxk (by omega)
   simp only [if_neg hxk,if_neg hxk'];exact m1 x hx
 ·unfold upd;rw [if_neg (by omega)];exact m2 x hx hx0
theorem Qgh (w:World) (h:Hdl) (D:DSt) (R:Nat→Prop) (H:QF w h D R) (ho:D.ops<4611686018427387904) (hoff:D.off=false) (k:Int) (v:Value) (bs:Blk) (Rv:Nat→Prop)
 (h0:0≤k) (hk:k<D.n) (hbs:bs.length=512) (hv:Qc w v bs Rv):
 Calls prog 227 #[.pointer (some ⟨h.b,0,none⟩),.int .i64 k,v] w fun e w'=>
  e= .returned (.int .i64 0)∧QF w' h (D.op.put k.toNat bs) (grow R w w')∧Frm h.M w w':=by
 have hok:=H.okn h0 hk;have hnb:=H.noBytes;obtain ⟨blk,off,cap,hve,hcap,_⟩:=hv.cells;rw [hbs] at hve;subst hve;have HC:=hid (Qbj w h D R H ho);go_enter func227,ntmps227;go_wp2_with fail;refine HC.out.mono ?_;rintro e w1 ⟨rfl,hd,hf,hs⟩;rw [hoff];clear HC;have hv1:Qc w1 _ bs Rv:=hv.frmB hf (fun x hx c=>by obtain rfl:x=h.b:=hx;exact hnb _ h.Mb c);obtain ⟨left,hb,hl,hokl⟩:=hd.blk;obtain ⟨c0,c1,c2,c3,c4,c5,c6,fz⟩:=Jm h _ _ _ _ hb;rw [show D.op.n=D.n from rfl] at c0;obtain ⟨nm,m,Mm,m1,m2⟩:=hd.mn;obtain ⟨ng,g,Mg,g1,g2⟩:=hd.wr;have hap:=hd.apart;have hkn:((k.toNat:Nat):Int)=k:=by omega
 have hm:=m1 k.toNat (by rw [hkn];exact hok);rw [hkn,show D.op.pend=D.pend from rfl] at hm;have hmm:(m k).getD (.int .i64 0)= .int .i64 ((D.pend k.toNat).length:Nat):=by
  rw [hm];split
  ·rename_i e;rw [e];rfl
  ·rfl
 have hfew:=H.wf.few k.toNat;have l1:=Mm.lookup Yw underlying127 hok EY w1 rfl;rw [hmm] at l1;obtain ⟨o,u1,u2⟩:=Mm.update Yw underlying127 hok (.int .i64 (((D.pend k.toNat).length:Int)+1));have u1':=u1 w1 rfl;have h1': ¬k<0:=by omega
 have h2': ¬(D.n:Int)≤k:=by omega
 generalize hln:(D.pend k.toNat).length=ln at*
 have HD:=hid hd;have HV:=hid hv1;have HM:=hid hm;have HU:=hid u2;have HB:=hid hb;have HN:=hid hkn;have HL:=hid hln;have HG:=hid g1;have HG2:=hid g2;have HM1:=hid m1;have HM2':=hid m2;have HFEW:=hid hfew;have HS1:=hid hs;have HF:=hid hf;clear hd hv1 hm u1 u2 hb hkn hln g1 g2 m1 m2 hf hmm hv hs;have hokj:okI ((ln:Int)+1):=by have:=HFEW.out;rw [Yx];omega
 have HUP: ∀v',∃o2,(∀W,W.heap[h.wm]?=w1.heap[h.wm]?→(Instr.mapUpdate 126 (.map (some h.wm)) (.agg #[.int .i64 k,.int .i64 ((ln:Int)+1)]) v').run prog W= .ok () (setBlock W h.wm o2))∧
  (∀W,h.wm<W.heap.size→∃n',Qn Ug okP (setBlock W h.wm o2) h.wm n' (upd g (k,(ln:Int)+1) (some v'))):=fun v'=>by
  obtain ⟨o2,q1,q2⟩:=Mg.update Qck underlying126 (a:=(k,(ln:Int)+1)) ⟨hok,hokj⟩ v';exact ⟨o2,q1,fun W hW=>⟨_,q2 W hW⟩⟩
 have HUP':=hid HUP;clear HUP;have HAP:=hid hap;clear hap hokj;go_wp2_with fail;have ap:=HAP.out;obtain ⟨w2,hw2⟩: ∃w2,w2=setBlock w1 h.mm o:=⟨_,rfl⟩;rw [←hw2];have A12: ∀b,b≠h.mm→w2.heap[b]?=w1.heap[b]?:=fun b hb=>by rw [hw2];exact Qm _ rfl hb
 have S12:w2.heap.size=w1.heap.size:=by rw [hw2];simp [ChangeMaps.setBlock]
 obtain ⟨n2,M2⟩: ∃n2,Qn JX okI (setBlock w1 h.mm o) h.mm n2 (upd m k (some (.int .i64 ((ln:Int)+1)))):=⟨_,HU.out w1 Mm.lt⟩;rw [←hw2] at M2;have HW2:=hid hw2;clear hw2;have F: ∀x,x.heap[h.b]?=w2.heap[h.b]?→x.heap[h.mm]?=w2.heap[h.mm]?→x.cell? ⟨h.b,2,none⟩=some (.map (some h.wm))∧x.cell? ⟨h.b,3,none⟩=some (.map (some h.mm))∧
  (Instr.lookup 127 (.map (some h.mm)) (.int .i64 k) false).run prog x= .ok (.int .i64 ((ln:Int)+1)) x:=fun x hx1 hx2=>by
  have hbx:x.heap[h.b]?=some (Va h D.op.n D.op.ops D.op.lim.isSome left):=by
   rw [hx1,A12 _ ap.2.2.1];exact HB.out
  obtain ⟨_,_,d2,d3,_⟩:=Jm h _ _ _ _ hbx;refine ⟨d2,d3,?_⟩;have:=M2.lookup Yw underlying127 hok EY x hx2
  simpa [upd] using this
 have HF2:=hid F;have HV2:Hid (∀x,Agree w2 x→Qc x (.slice (some ⟨blk,off,none⟩) 512 cap) bs Rv):=hid fun x hx=>by
  refine HV.out.of_block fun y c _ hc=>?_
  rw [hx _ (by rw [S12];exact hc.lt)];refine A12 _ fun e=>?_
  subst e;obtain ⟨es,cl,h1,_⟩:=Mm;exact YO h1 c hc
 have HWM:Hid (∀x,Agree w2 x→x.heap[h.wm]?=w1.heap[h.wm]?):=hid fun x hx=>by
  rw [hx _ (by rw [S12];exact Mg.lt),A12 _ ap.2.2.2.2.2]
 obtain ⟨F1,F2,F3⟩:=F w2 rfl rfl;have HA12:=hid A12;have HO:=hid ho;clear hfew ho H hl hokl hcap Mm hoff F A12 l1 u1' c0 c1 c2 c3 c4 c5 c6 fz;have KA:Hid (∀x,Agree w2 x→x.cell? ⟨h.b,2,none⟩=some (.map (some h.wm))∧x.cell? ⟨h.b,3,none⟩=some (.map (some h.mm))∧
  (Instr.lookup 127 (.map (some h.mm)) (.int .i64 k) false).run prog x= .ok (.int .i64 ((ln:Int)+1)) x):=hid fun x hx=>HF2.out x (hx _ (by rw [S12];exact lt_of_block HB.out)) (hx _ M2.lt)
 have KB:Hid (∀x o,Agree w2 x→(setBlock x h.wm o).cell? ⟨h.b,2,none⟩=some (.map (some h.wm))∧(setBlock x h.wm o).cell? ⟨h.b,3,none⟩=some (.map (some h.mm))∧
  (Instr.lookup 127 (.map (some h.mm)) (.int .i64 k) false).run prog (setBlock x h.wm o)= .ok (.int .i64 ((ln:Int)+1)) (setBlock x h.wm o)):=hid fun x o hx=>
  HF2.out _ (Qm _ (hx _ (by rw [S12];exact lt_of_block HB.out)) ap.2.1) (Qm _ (hx _ M2.lt) (Ne.symm ap.2.2.2.2.2))
 have HM2:=hid M2;have HS12:=hid S12;have HMg:=hid Mg;clear M2 S12 Mg ap;go_region_held3 (fun x=>x.cell? ⟨h.b,2,none⟩=some (.map (some h.wm))∧x.cell? ⟨h.b,3,none⟩=some (.map (some h.mm))∧
  (Instr.lookup 127 (.map (some h.mm)) (.int .i64 k) false).run prog x= .ok (.int .i64 ((ln:Int)+1)) x)
  (first | (refine KB.out _ _ ?_;assumption) | (refine KA.out _ ?_;assumption) | (refine KA.out _ ?_;intro _ _;rfl))
  (first | (go_at_call 146;refine (Vn _ _ bs Rv (HV2.out _ ?_) ?_).mono ?_;exact (fun _ _=>rfl);omega;rintro e w3 ⟨hf3,v',rfl,hb3⟩;have hA3:Agree w2 w3:=Agree.frm (Agree.refl w2).drew hf3 (Nat.le_refl _);obtain ⟨o2,q1,q2⟩:=HUP'.out v';have q1':=q1 w3 (HWM.out _ hA3);clear q1))
 all_goals
  have hw34:w2.heap.size≤w3.heap.size:=hf3.size;have S4:(setBlock w3 h.wm o2).heap.size=w3.heap.size:=by simp [ChangeMaps.setBlock]
  obtain ⟨n4,G4⟩:=q2 w3 (by have:=HMg.out.lt;have:=HS12.out;omega);have ap:=HAP.out;have hag: ∀b,b<w1.heap.size→b≠h.mm→b≠h.wm→(setBlock w3 h.wm o2).heap[b]?=w1.heap[b]?:=fun b hb hb1 hb2=>by
   rw [Qm _ rfl hb2,hA3 b (by have:=HS12.out;omega),HA12.out b hb1]
  have FIN:QF (setBlock w3 h.wm o2) h (D.op.put k.toNat bs) (grow R w (setBlock w3 h.wm o2)):=by
   have e1:(D.op.pend k.toNat).length=ln:=HL.out;refine HD.out.putAt HM1.out HM2'.out HG.out HG2.out k.toNat (by show k.toNat<D.n;omega) bs hbs (by rw [e1];exact Nat.succ_le_succ HFEW.out) v' ?_ (fun x hx=> .inl hx) hag (nm:=n2) (ng:=n4) ?_ ?_
   ·have:Qc (setBlock w3 h.wm o2) v' bs (QR w2.drew):=hb3.of_block fun x c hx hc=>Qm _ rfl fun e=>by
     have hx':w2.heap.size≤x:=hx;have:=HMg.out.lt;have:=HS12.out;omega
    refine this.mono fun x hx1 hx2=> .inr ⟨?_,hx1⟩
    have hx':w2.heap.size≤x:=hx2;have:=HS12.out;have:=HS1.out;omega
   ·rw [e1,HN.out];refine Qn.of_block HM2.out ?_;rw [Qm _ rfl (Ne.symm ap.2.2.2.2.2),hA3 _ HM2.out.lt]
   ·rw [e1,HN.out];exact G4
  have FRM:Frm h.M w (setBlock w3 h.wm o2):=by
   have f1:Frm h.M w w1:=HF.out.mono fun x _ e=>by obtain rfl:x=h.b:=e;exact h.Mb
   have f2:Frm h.M w w2:=by rw [HW2.out];exact f1.setBlock (.inl h.Mm) _
   have f3:Frm h.M w w3:=f2.drew.trans (c:=w3) (N:=NoB) hf3 (fun _ _ (e:False)=>e.elim);exact f3.setBlock (.inl h.Mw) _
  have HFIN:=hid FIN;have HFRM:=hid FRM;clear FIN FRM hag ap G4 S4 hw34;go_wp2;go_ret;exact ⟨rfl,HFIN.out,HFRM.out⟩
section
open Go.ChangeMaps Go.MapKept
open Go.Maps (Keyed)
variable {α:Type} {mk:α→Value} {ok:α→Prop} {P:Program} {k t e:TypeId} {w:World} {b r n cnt:Nat} {f:α→Option Value} {left:α→Prop}
def QG {α:Type} (mk:α→Value) (ok:α→Prop) (w:World) (b r n:Nat) (f:α→Option Value) (left:α→Prop) (cnt:Nat):Prop:=
 ∃es clock seen,w.heap[b]?=some (.map es clock)∧Stamped es clock∧(∀x∈es.toList,∃a,ok a∧x.key=mk a)∧es.size=n∧
  (∀a v,ok a→(f a=some v↔∃x∈es.toList,x.key=mk a∧x.val=v))∧
  w.heap[r]?=some (.mapIter (some b) clock seen clock)∧(leftOf es seen).size=cnt∧
  (∀a,ok a→(left a↔∃x∈es.toList,x.key=mk a∧seen.contains x.born=false))
theorem QG.map (h:QG mk ok w b r n f left cnt):Qn mk ok w b n f:=by
 obtain ⟨es,clock,seen,h1,h2,h3,h4,h5,_⟩:=h;exact ⟨es,clock,h1,h2,h3,h4,h5⟩
theorem QG.lt (h:QG mk ok w b r n f left cnt):r<w.heap.size:=by
 obtain ⟨es,clock,seen,h1,h2,h3,h4,h5,h6,_⟩:=h;exact lt_of_block h6
theorem QG.of_blocks {w':World} (h:QG mk ok w b r n f left cnt) (hb:w'.heap[b]?=w.heap[b]?) (hr:w'.heap[r]?=w.heap[r]?):QG mk ok w' b r n f left cnt:=by
 obtain ⟨es,clock,seen,h1,h2,h3,h4,h5,h6,h7⟩:=h;exact ⟨es,clock,seen,hb.trans h1,h2,h3,h4,h5,hr.trans h6,h7⟩
theorem QG.frm {w':World} {M:Nat→Prop} (h:QG mk ok w b r n f left cnt) (hf:Frm M w w') (hb: ¬M b) (hr: ¬M r):QG mk ok w' b r n f left cnt:=
 h.of_blocks (hf.block b h.map.lt hb) (hf.block r h.lt hr)
theorem Qn.range (ht:P.underlying t=some (.map k e)) (h:Qn mk ok w b n f):
 ∃o,(Instr.range t (.map (some b))).run P w= .ok (.pointer (some ⟨w.heap.size,0,none⟩)) (w.alloc o)∧
  QG mk ok (w.alloc o) b w.heap.size n f (fun a=>(f a).isSome) n:=by
 obtain ⟨es,clock,h1,h2,h3,h4,h5⟩:=h;refine ⟨.mapIter (some b) clock #[] clock,?_,⟨es,clock,#[],Ql _ h1,h2,h3,h4,h5,Qb _ _,by subst h4;simp [leftOf],fun a ha=>?_⟩⟩
 ·simp [Instr.range,run_underlying ht,MapKept.run_getObj_map h1,Result.andThen,go_sem]
 ·show (f a).isSome=true↔_;rw [Option.isSome_iff_exists];constructor
  ·rintro ⟨v,hv⟩;obtain ⟨x,hx,hk,_⟩:=(h5 a v ha).1 hv;exact ⟨x,hx,hk,by simp⟩
  ·rintro ⟨x,hx,hk,_⟩;exact ⟨x.val,(h5 a _ ha).2 ⟨x,hx,hk,rfl⟩⟩
theorem QG.next (K:JK P k mk ok) (h:QG mk ok w b r n f left cnt) (ty:TypeId):
 ((∀a,ok a→¬left a)∧(Instr.next (.pointer (some ⟨r,0,none⟩)) false ty).run P w= .ok (.tuple #[.bool false]) w)∨
 ∃a v w' cnt',ok a∧left a∧f a=some v∧(Instr.next (.pointer (some ⟨r,0,none⟩)) false ty).run P w= .ok (.tuple #[.bool true,mk a,v]) w'∧
  QG mk ok w' b r n f (fun x=>left x∧x≠a) cnt'∧cnt'<cnt∧Frm (Q0 r) w w'∧w'.heap.size=w.heap.size∧
  (Instr.entry (.pointer (some ⟨r,0,none⟩))).run P w'= .ok (.tuple #[mk a,v]) w':=by
 obtain ⟨es,clock,seen,hb,h2,h3,h4,h5,hr,rfl,hl⟩:=h;have hne:r≠b:=fun e'=>by subst e';rw [hb] at hr;cases hr
 have hold: ∀x∈es.toList,x.born<clock:=h2.1;rcases run_next_at (P:=P) w ty r b clock clock seen es clock hr hb hold (Nat.le_refl _) with ⟨h0,hrun⟩ | ⟨x,hx,w1,hal,hrun⟩
 ·refine .inl ⟨fun a ha hla=>?_,hrun⟩;obtain ⟨x,hx,_,hs⟩:=(hl a ha).1 hla;rw [all_seen es seen h0 x hx] at hs;cases hs
 ·obtain ⟨hem,hes⟩:=mem_left hx;obtain ⟨a,ha,hka⟩:=h3 x hem;have hr1:w1.heap[r]?=some (.mapIter (some b) clock seen clock):=by rcases hal with rfl | rfl<;>exact hr
  have hb1:w1.heap[b]?=some (.map es clock):=by rcases hal with rfl | rfl<;>exact hb
  have hset:=heap_set (o':= .mapIter (some b) clock (seen.push x.born) clock) hr1;have hb':(setBlock w1 r (.mapIter (some b) clock (seen.push x.born) clock)).heap[b]?=some (.map es clock):=(hset.2 b (fun e1=>hne e1.symm)).trans hb1;have hkeys:es.toList.Pairwise (fun x y=>x.key≠y.key):=((stamped_iff es clock).1 h2).2.2;have hborn:(es.toList.map (·.born)).Nodup:=((stamped_iff es clock).1 h2).2.1;have hinj: ∀y∈es.toList,y.born=x.born↔y.key=x.key:=fun y hy=>by
   obtain ⟨i,hi,rfl⟩:=List.getElem_of_mem hy;obtain ⟨j,hj,rfl⟩:=List.getElem_of_mem hem;constructor
   ·intro e1;have:i=j:=by
     rw [List.Nodup,List.pairwise_map] at hborn;rcases Nat.lt_trichotomy i j with hlt | heq | hlt
     ·exact absurd e1 (List.pairwise_iff_getElem.1 hborn i j hi hj hlt)
     ·exact heq
     ·exact absurd e1.symm (List.pairwise_iff_getElem.1 hborn j i hj hi hlt)
    subst this;rfl
   ·intro e1;have:i=j:=by
     rcases Nat.lt_trichotomy i j with hlt | heq | hlt
     ·exact absurd e1 (List.pairwise_iff_getElem.1 hkeys i j hi hj hlt)
     ·exact heq
     ·exact absurd e1.symm (List.pairwise_iff_getElem.1 hkeys j i hj hi hlt)
    subst this;rfl
  refine .inr ⟨a,x.val,_,_,ha,(hl a ha).2 ⟨x,hem,hka,by simpa using hes⟩,(h5 a _ ha).2 ⟨x,hem,hka,rfl⟩,by rw [←hka];exact hrun,
   ⟨es,clock,seen.push x.born,hb',h2,h3,h4,h5,hset.1,rfl,fun a' ha'=>?_⟩,left_shrinks es seen x hx,?_,?_,by
    rw [←hka];exact run_entry_at _ r b clock seen es clock x hset.1 hb' hem hborn⟩
  ·show (left a'∧a'≠a)↔_;rw [hl a' ha'];constructor
   ·rintro ⟨⟨y,hy,hyk,hys⟩,hne'⟩;refine ⟨y,hy,hyk,?_⟩;rw [contains_push,hys,Bool.false_or];rw [beq_eq_false_iff_ne];intro e1;have:=(hinj y hy).1 e1;exact hne' (K.inj _ _ (hyk.symm.trans (this.trans hka)))
   ·rintro ⟨y,hy,hyk,hys⟩;rw [contains_push,Bool.or_eq_false_iff,beq_eq_false_iff_ne] at hys;refine ⟨⟨y,hy,hyk,hys.1⟩,fun e1=>hys.2 ?_⟩;subst e1;exact (hinj y hy).2 (hyk.trans hka.symm)
  ·rcases hal with rfl | rfl
   ·exact (Frm.refl _ _).setBlock (.inl (Q0.self r)) _
   ·exact ((Frm.refl _ _).drew).setBlock (.inl (Q0.self r)) _
  ·rcases hal with rfl | rfl<;>simp [ChangeMaps.setBlock]
theorem QG.left_eq (h:QG mk ok w b r n f left cnt):w.rangeLeft b r=cnt:=by
 obtain ⟨es,clock,seen,h1,h2,h3,h4,h5,h6,h7,_⟩:=h;simp [World.rangeLeft,h1,h6,h7]
end
section
open Go.ChangeMaps Go.MapKept
open Go.Maps (Keyed)
variable {α:Type} {mk:α→Value} {ok:α→Prop} {P:Program} {k t e:TypeId} {w:World} {b r n cnt:Nat} {f:α→Option Value} {left:α→Prop}
variable {ops:Array Oper} {rest:List Oper} {o:Oper} {a:Act} {Q:Exit→Act→World→Prop}
theorem Vb (hg:o.guard=none) (m:Operand) (t:TypeId) (hop:o.op=Op.range t m) (k e:TypeId) (ht:P.underlying t=some (.map k e)) (hm:a.eval m= .map (some b)) (h:Qn mk ok w b n f)
 (hK: ∀o',QG mk ok (w.alloc o') b w.heap.size n f (fun a=>(f a).isSome) n→wpList P ops Q rest (a.put o.dst (.pointer (some ⟨w.heap.size,0,none⟩))) (w.alloc o')):wpList P ops Q (o::rest) a w:=by
 refine wpList_plain hg fun K' hK'=>?_
 obtain ⟨o',hrun,hr⟩:=h.range ht;unfold Oper.wp;simp [execOp,hop,hm,hrun,Result.andThen];exact hK' _ _ (hK o' hr)
theorem VA (hg:o.guard=none) (it:Operand) (hop:o.op=Op.next it false) (K:JK P k mk ok) (hit:a.eval it= .pointer (some ⟨r,0,none⟩)) (h:QG mk ok w b r n f left cnt)
 (hDone:(∀a,ok a→¬left a)→wpList P ops Q rest (a.put o.dst (.tuple #[.bool false])) w)
 (hMore: ∀x v w' cnt',ok x→left x→f x=some v→QG mk ok w' b r n f (fun y=>left y∧y≠x) cnt'→cnt'<cnt→Frm (Q0 r) w w'→w'.heap.size=w.heap.size→
  (Instr.entry (.pointer (some ⟨r,0,none⟩))).run P w'= .ok (.tuple #[mk x,v]) w'→wpList P ops Q rest (a.put o.dst (.tuple #[.bool true,mk x,v])) w'):wpList P ops Q (o::rest) a w:=by
 refine wpList_plain hg fun K' hK'=>?_
 unfold Oper.wp;rcases h.next K o.type with ⟨h0,hrun⟩ | ⟨x,v,w',cnt',h1,h2,h3,hrun,h4,h5,h6,h7,h8⟩
 ·simp [execOp,hop,hit,hrun,Result.andThen];exact hK' _ _ (hDone h0)
 ·simp [execOp,hop,hit,hrun,Result.andThen];exact hK' _ _ (hMore x v w' cnt' h1 h2 h3 h4 h5 h6 h7 h8)
end
theorem QF.frm2 {w w':World} {h:Hdl} {D:DSt} {R M:Nat→Prop} (H:QF w h D R) (hf:Frm M w w') (hm: ∀x,x<w.heap.size→M x→¬h.M x∧(R x→∀c,¬IsC w x c)):QF w' h D R:=by
 obtain ⟨wf,⟨left,hb,hl⟩,⟨nf,f,Mf,f1,f2⟩,⟨ng,g,Mg,g1,g2⟩,⟨nm,m,Mm,m1,m2⟩,ap⟩:=H;have hB: ∀v bs,Qc w v bs R→Qc w' v bs R:=fun v bs hv=>hv.of_block fun x c hR hc=>hf.block x (hc.lt) (fun e=>(hm x (hc.lt) e).2 hR c hc)
 have hM: ∀x,x<w.heap.size→h.M x→w'.heap[x]?=w.heap[x]?:=fun x hx hMx=>hf.block x hx (fun e=>(hm x hx e).1 hMx)
 refine ⟨wf,⟨left,(hM _ (lt_of_block hb) h.Mb).trans hb,hl⟩,⟨nf,f,Mf.of_block (hM _ Mf.lt h.Mf),f1,fun k v h1 h2=>?_⟩,
  ⟨ng,g,Mg.of_block (hM _ Mg.lt h.Mw),fun k i hi=>?_,g2⟩,⟨nm,m,Mm.of_block (hM _ Mm.lt h.Mm),m1,m2⟩,ap⟩
 ·obtain ⟨a,b,c⟩:=f2 k v h1 h2;exact ⟨a,b,hB _ _ c⟩
 ·obtain ⟨v,hv,c⟩:=g1 k i hi;exact ⟨v,hv,hB _ _ c⟩
theorem QF.noIter {w:World} {h:Hdl} {D:DSt} {R:Nat→Prop} (H:QF w h D R): ∀x,h.M x→∀a b c d,w.heap[x]?≠some (.mapIter a b c d):=by
 obtain ⟨_,⟨left,hb,_⟩,⟨nf,f,Mf,_⟩,⟨ng,g,Mg,_⟩,⟨nm,m,Mm,_⟩,_⟩:=H;rintro x (rfl | rfl | rfl | rfl) a b c d e
 ·rw [hb] at e;simp [Va] at e
 ·obtain ⟨es,cl,h1,_⟩:=Mf;rw [h1] at e;cases e
 ·obtain ⟨es,cl,h1,_⟩:=Mg;rw [h1] at e;cases e
 ·obtain ⟨es,cl,h1,_⟩:=Mm;rw [h1] at e;cases e
def DSt.rebase (D:DSt) (k:Nat) (b:Blk):DSt:= { D with base:=fun x=>if x=k then b else D.base x }
theorem QF.setBase {w:World} {h:Hdl} {D:DSt} {R:Nat→Prop} (H:QF w h D R) {k:Int} (h0:0≤k) (hk:k<D.n) {v:Value} {bs:Blk} (hbs:bs.length=512) (hv:Qc w v bs R):
 ∃o,(∀W,W.heap[h.fm]?=w.heap[h.fm]?→(Instr.mapUpdate 125 (.map (some h.fm)) (.int .i64 k) v).run prog W= .ok () (setBlock W h.fm o))∧
  (∀W,Agree w W→w.heap.size≤W.heap.size→QF (setBlock W h.fm o) h (D.rebase k.toNat bs) R):=by
 have hok:=H.okn h0 hk;have hnb:=H.noBytes;obtain ⟨wf,⟨left,hb,hl,hokl⟩,⟨nf,f,Mf,f1,f2⟩,⟨ng,g,Mg,g1,g2⟩,⟨nm,m,Mm,m1,m2⟩,ap⟩:=H;obtain ⟨o,u1,u2⟩:=Mf.update Yw underlying125 hok v;refine ⟨o,u1,fun W hA hS=>?_⟩;have hoth: ∀b,b<w.heap.size→b≠h.fm→(setBlock W h.fm o).heap[b]?=w.heap[b]?:=fun b hb1 hb2=>(Qm _ rfl hb2).trans (hA b hb1)
 have hB: ∀v bs,Qc w v bs R→Qc (setBlock W h.fm o) v bs R:=fun v bs hv=>hv.of_block fun x c _ hc=>hoth x (hc.lt) (fun e=>hnb x (by rw [e];exact h.Mf) c hc)
 refine ⟨⟨wf.n,wf.n1,fun x=>?_,wf.pend,wf.far,wf.few⟩,⟨left,(hoth _ (lt_of_block hb) ap.1).trans hb,hl,hokl⟩,⟨_,_,u2 W (Nat.lt_of_lt_of_le Mf.lt hS),fun x hx hn _ _=>?_,fun x y hx hy=>?_⟩,
  ⟨ng,g,Mg.of_block (hoth _ Mg.lt (Ne.symm ap.2.2.2.1)),fun x i hi=>?_,g2⟩,⟨nm,m,Mm.of_block (hoth _ Mm.lt (Ne.symm ap.2.2.2.2.1)),m1,m2⟩,ap⟩
 ·simp only [DSt.rebase];split
  ·exact hbs
  ·exact wf.base x
 ·unfold upd at hn;split at hn
  ·cases hn
  ·rename_i hne _ _
   simp only [DSt.rebase];rw [if_neg (by omega)];exact f1 x hx hn (by assumption) (by assumption)
 ·unfold upd at hy;split at hy
  ·rename_i e
   subst e;cases hy;refine ⟨h0,hk,?_⟩;simp only [DSt.rebase,if_true];exact hB _ _ hv
  ·rename_i hne
   obtain ⟨a,b,c⟩:=f2 x y hx hy;refine ⟨a,b,?_⟩;simp only [DSt.rebase];rw [if_neg (by omega)];exact hB _ _ c
 ·obtain ⟨v0,hv0,hb0⟩:=g1 x i hi;exact ⟨v0,hv0,hB _ _ hb0⟩
theorem QF.cleared {w w':World} {h:Hdl} {D:DSt} {R:Nat→Prop} (H:QF w h D R) (hoth: ∀b,b<w.heap.size→b≠h.wm→b≠h.mm→w'.heap[b]?=w.heap[b]?)
 (Mw:Qn Ug okP w' h.wm 0 (fun _=>none)) (Mm:Qn JX okI w' h.mm 0 (fun _=>none)):QF w' h { D with pend:=fun _=> [] } R:=by
 have hnb:=H.noBytes;obtain ⟨wf,⟨left,hb,hl,hokl⟩,⟨nf,f,Mf,f1,f2⟩,_,_,ap⟩:=H;have hB: ∀v bs,Qc w v bs R→Qc w' v bs R:=fun v bs hv=>hv.of_block fun x c _ hc=>hoth x (hc.lt) (fun e=>hnb x (by rw [e];exact h.Mw) c hc) (fun e=>hnb x (by rw [e];exact h.Mm) c hc)
 refine ⟨⟨wf.n,wf.n1,wf.base,fun _ _ hc=>(by cases hc),fun _ _=>rfl,fun _=>Nat.zero_le _⟩,⟨left,(hoth _ (lt_of_block hb) ap.2.1 ap.2.2.1).trans hb,hl,hokl⟩,⟨nf,f,Mf.of_block (hoth _ Mf.lt ap.2.2.2.1 ap.2.2.2.2.1),f1,fun x y hx hy=>?_⟩,
  ⟨0,_,Mw,fun _ _ hi=>(by cases hi),fun _ _ _ _=>rfl⟩,⟨0,_,Mm,fun _ _=>rfl,fun _ _ _=>rfl⟩,ap⟩
 obtain ⟨a,b,c⟩:=f2 x y hx hy;exact ⟨a,b,hB _ _ c⟩
theorem QF.rebased {w:World} {h:Hdl} {D E:DSt} {R:Nat→Prop} (H:QF w h D R) (hn:E.n=D.n) (hp:E.pend=D.pend) (ho:E.ops=D.ops) (hl:E.lim=D.lim) (wf:E.Wf)
 (hb: ∀a:Nat,a<D.n→D.base a=E.base a):QF w h E R:=by
 obtain ⟨n,base,pend,ops,lim⟩:=E;simp only at hn hp ho hl hb;subst hn hp ho hl;obtain ⟨_,hblk,⟨nf,f,Mf,f1,f2⟩,hw,hm,ap⟩:=H;refine ⟨wf,hblk,⟨nf,f,Mf,fun k hk hf h0 h1=>?_,fun k v hk hf=>?_⟩,hw,hm,ap⟩
 ·have h1':k<(D.n:Int):=h1;show base k.toNat=Qs;rw [←hb k.toNat (by omega)];exact f1 k hk hf h0 h1'
 ·obtain ⟨a,b,c⟩:=f2 k v hk hf;exact ⟨a,b,by show Qc w v (base k.toNat) R;rw [←hb k.toNat (by omega)];exact c⟩
theorem Qfj (w:World) (h:Hdl) (D:DSt) (R:Nat→Prop) (H:QF w h D R) (ho:D.ops<4611686018427387904) (hoff:D.off=true):
 Calls prog 143 #[.pointer (some ⟨h.b,0,none⟩)] w fun e w'=>
  e= .returned (.int .i64 9)∧QF w' h D.op R∧Frm h.M w w':=by
 have HC:=hid (Qbj w h D R H ho);go_enter func143,ntmps143;go_wp2_with fail;refine HC.out.mono ?_;rintro e w1 ⟨rfl,hd,hf,hs⟩;rw [hoff];have HP:=hid (And.intro hd (hf.mono (N:=h.M) fun x _ e=>by obtain rfl:x=h.b:=e;exact h.Mb));clear hd hf hs HC;go_wp2;go_ret;exact ⟨rfl,HP.out.1,HP.out.2⟩
def Qcr (w1:World) (h:Hdl) (D:DSt) (R:Nat→Prop) (nm:Nat) (m:Int→Option Value) (wr:World):Prop:=
 ∃(left:Int→Prop) (cnt:Nat) (B:Nat→Blk),QG JX okI wr h.mm w1.heap.size nm m left cnt∧QF wr h { D with base:=B } R∧(∀a,okI a→left a→(m a).isSome=true)∧
   (∀a:Nat,okI (a:Int)→(¬left a→B a=D.last a))∧Frm (fun x=>x=h.fm) w1 wr
theorem Qhh (w:World) (h:Hdl) (D:DSt) (R:Nat→Prop) (H:QF w h D R) (ho:D.ops<4611686018427387903) (hoff:D.off=false):
 Calls prog 143 #[.pointer (some ⟨h.b,0,none⟩)] w fun e w'=>
  e= .returned (.int .i64 0)∧QF w' h D.op.flushed R∧Frm h.M w w':=by
 have HC:=hid (Qbj w h D R H (by omega));go_enter func143,ntmps143;go_wp2_with fail;refine HC.out.mono ?_;rintro e w1 ⟨rfl,hd,hf,hs⟩;rw [hoff];have ho1:D.op.ops<4611686018427387904:=by show D.ops+1<_;omega
 have HF1:=hid (hf.mono (N:=h.M) fun x _ e=>by obtain rfl:x=h.b:=e;exact h.Mb);obtain ⟨D1,hD1⟩: ∃D1,D1=D.op:=⟨_,rfl⟩;rw [←hD1] at hd ho1;have HD1:=hid hD1;have HS:=hid hs;clear hD1 hs;obtain ⟨left,hb,hl,hokl⟩:=hd.blk;obtain ⟨c0,c1,c2,c3,c4,c5,c6,fz⟩:=Jm h _ _ _ _ hb;obtain ⟨nm,m,Mm,m1,m2⟩:=hd.mn;have HD:=hid hd;have HB:=hid hb;have HM1:=hid m1;have HM2:=hid m2;have HO:=hid ho1;have hbl:=lt_of_block hb;clear hd hb m1 m2 ho1 hf HC hl hokl ho;go_wp2_with (at_range;refine Vb rfl _ 127 rfl 3 3 underlying127 rfl Mm ?_;intro o' hrg);go_frame;go_loopw [3] (fun _ wr=>Qcr w1 h D1 R nm m wr) (fun _ wr=>wr.rangeLeft h.mm w1.heap.size)
 case atStart=>
  refine ⟨_,_,D1.base,hrg,HD.out.alloc _,fun a _ h=>h,fun a ha hna=>?_,(Frm.refl _ _).alloc _⟩;have:=HM1.out a ha;unfold DSt.last;by_cases hp:D1.pend a= []
  ·rw [hp];rfl
  ·rw [if_neg hp] at this;rw [this] at hna;exact absurd rfl hna
 case round=>
  clear c0 c1 c2 c3 c4 c5 c6 fz Mm hrg HB;obtain ⟨left,cnt,B,hrg,hd,hsub,hdone,hfr⟩:=hrel;go_wp2_with (at_next;refine VA rfl _ rfl Yw rfl hrg ?_ ?_)
  ·intro hno;obtain ⟨left',hb,_,_⟩:=hd.blk;obtain ⟨_,_,c2,c3,_,_,_,_⟩:=Jm h _ _ _ _ hb;have ap:=hd.apart;have hbl':=lt_of_block hb;obtain ⟨ng,g,Mg,_⟩:=hd.wr;obtain ⟨o1,p1,p2⟩:=Mg.clear underlying126 0;obtain ⟨o2,q1,q2⟩:=hrg.map.clear underlying127 0;have p1':=p1 wr rfl;have q1':=q1 (setBlock wr h.wm o1) (Qm _ rfl (Ne.symm ap.2.2.2.2.2));have d3:(setBlock wr h.wm o1).cell? ⟨h.b,3,none⟩=some (.map (some h.mm)):=by
    rw [←c3];exact World.cell?_of_block (w:=wr) (Qm _ rfl ap.2.1)
   have sz:(setBlock wr h.wm o1).heap.size=wr.heap.size:=by simp [ChangeMaps.setBlock]
   have FIN:QF (setBlock (setBlock wr h.wm o1) h.mm o2) h D1.flushed R:=by
    have hB:B=fun a=>B a:=rfl
    have h1:=hd.cleared (w':=setBlock (setBlock wr h.wm o1) h.mm o2) (fun b _ hb1 hb2=>(Qm _ (Qm _ rfl hb1) hb2))
     ((p2 wr Mg.lt).of_block (Qm _ rfl ap.2.2.2.2.2)) (q2 _ (by rw [sz];exact hrg.map.lt))
    have hBl: ∀a:Nat,a<D1.n→B a=D1.last a:=fun a ha=>by
     have hok:okI (a:Int):=hd.okn (by omega) (by show (a:Int)<(D1.n:Int);omega);exact hdone a hok (hno _ hok)
    exact h1.rebased rfl rfl rfl rfl (DSt.flushed_wf HD.out.wf) hBl
   have FRM:Frm h.M w (setBlock (setBlock wr h.wm o1) h.mm o2):=by
    have f1:Frm h.M w wr:=HF1.out.trans hfr (fun x _ e=>by obtain rfl:x=h.fm:=e;exact h.Mf);exact (f1.setBlock (.inl h.Mw) _).setBlock (.inl h.Mm) _
   have HFIN:=hid FIN;have HFRM:=hid FRM;clear FIN FRM p1 p2 q1 q2 sz ap Mg hno hdone hsub hfr hb;go_wp2;go_ret;exact ⟨rfl,HD1.out▸HFIN.out,HFRM.out⟩
  ·intro x v w2 cnt' hokx hlx hmx hrg2 hlt hf2 hs2 hen;have hx0:0≤x:=by
    rcases Int.lt_or_le x 0 with hx | hx
    ·rw [HM2.out x hokx hx] at hmx;cases hmx
    ·exact hx
   have hxk:((x.toNat:Nat):Int)=x:=by omega
   have hpx:D1.pend x.toNat≠ []:=fun e=>by
    have:=HM1.out x.toNat (by rw [hxk];exact hokx);rw [if_pos e,hxk,hmx] at this;cases this
   have hxn:x<D1.n:=by
    rcases Int.lt_or_le x D1.n with hx | hx
    ·exact hx
    ·exact absurd (HD.out.wf.far x.toNat (by omega)) hpx
   have hit: ∃a b c d,wr.heap[w1.heap.size]?=some (.mapIter a b c d):=by
    obtain ⟨_,_,_,_,_,_,_,_,h6,_⟩:=hrg;exact ⟨_,_,_,_,h6⟩
   have hd2:QF w2 h { D1 with base:=B } R:=hd.frm2 hf2 (fun y hy hM=>by
    obtain rfl:y=w1.heap.size:=hM;obtain ⟨a,b,c,d,hit⟩:=hit;exact ⟨fun hM=>hd.noIter _ hM a b c d hit,fun _ c' ⟨_,_,e⟩=>by rw [hit] at e;cases e⟩)
   obtain ⟨left',hb2,_,_⟩:=hd2.blk;obtain ⟨_,d1,_,_,_,_,_,_⟩:=Jm h _ _ _ _ hb2;have HPX:=hid hpx;have HMX:=hid hmx;have HXK:=hid hxk;have HD2:=hid hd2;have HSUB:=hid hsub;have HDONE:=hid hdone;have HB2:=hid hb2;have HS2:=hid hs2;have HF2:=hid hf2;have HFR:=hid hfr;have HLX:=hid hlx;have HOK:=hid hokx;have HLT:=hid hlt;clear hpx hmx hxk hd2 hsub hdone hb2 hs2 hf2 hfr hlx hokx hlt hd;go_wp2_with fail;have KA:Hid (∀y,Agree w2 y→y.cell? ⟨h.b,1,none⟩=some (.map (some h.fm))):=hid fun y hy=>by
    rw [←d1];exact hy.cell (lt_of_block HB2.out)
   have KB:Hid (∀y o,Agree w2 y→(setBlock y h.fm o).cell? ⟨h.b,1,none⟩=some (.map (some h.fm))):=hid fun y o hy=>by
    rw [←KA.out y hy];exact World.cell?_of_block (w:=y) (Qm _ rfl HD2.out.apart.1)
   go_region_held3 (fun y=>y.cell? ⟨h.b,1,none⟩=some (.map (some h.fm)))
    (first | (refine KB.out _ _ ?_;intro _ _;rfl) | (refine KA.out _ ?_;intro _ _;rfl))
    (first | (go_at_call 226;refine (QbZ _ h { D1 with base:=B } R ?_ x hx0 hxn HO.out).mono ?_;exact HD2.out.keep (fun _ _ _=>rfl);rintro e w3 ⟨rfl,v',rfl,_,hb3⟩;have hb3':=hb3 HPX.out;clear hb3;obtain ⟨o3,q1,q2⟩:=HD2.out.setBase hx0 hxn (DSt.last_length HD2.out.wf x.toNat) hb3';have q1':=q1 w2.drew rfl;clear q1))
   have hfr12:w1.heap.size<w2.heap.size:=by have:=hrg2.lt;exact this
   have hfm1:h.fm≠w1.heap.size:=fun e=>by
    have hM:=HD.out.fl;obtain ⟨_,_,Mf,_⟩:=hM;have:=Mf.lt;omega
   have ap:=HD2.out.apart;have hrg4:QG JX okI (setBlock w2.drew h.fm o3) h.mm w1.heap.size nm m (fun y=>left y∧y≠x) cnt':=
    hrg2.of_blocks (Qm _ rfl (Ne.symm ap.2.2.2.2.1)) (Qm _ rfl (Ne.symm hfm1))
   have REL:Qcr w1 h D1 R nm m (setBlock w2.drew h.fm o3):=by
    refine ⟨_,cnt',_,hrg4,q2 w2.drew (fun _ _=>rfl) (Nat.le_refl _),fun a ha hl=>HSUB.out a ha hl.1,fun a ha hna=>?_,?_⟩
    ·show (if a=x.toNat then DSt.last { D1 with base:=B } x.toNat else B a)=D1.last a;by_cases hax:a=x.toNat
     ·subst hax;rw [if_pos rfl];unfold DSt.last;show (D1.pend x.toNat).getLastD (B x.toNat)=(D1.pend x.toNat).getLastD (D1.base x.toNat);cases hp:D1.pend x.toNat with
      | nil=>exact absurd hp HPX.out
      | cons c l=>rfl
     ·rw [if_neg hax];exact HDONE.out a ha (fun hl=>hna ⟨hl,fun e=>hax (by omega)⟩)
    ·have f1:Frm (fun x=>x=h.fm) w1 w2:=HFR.out.trans HF2.out (fun y hy e=>by have e':y=w1.heap.size:=e;omega);exact f1.drew.setBlock (.inl rfl) _
   have HREL:=hid REL;have HR4:=hid hrg4;have HRG:=hid hrg;clear REL hrg4 ap hfr12 hfm1 hrg;go_roundw
   case rel=>first | exact HREL.out | ((repeat apply Exists.intro);exact ⟨HREL.out,rfl⟩)
   case measure=>rw [HR4.out.left_eq,HRG.out.left_eq];exact HLT.out
end Go.Proofs.YtlemndledcmhiaaGreatDoor
