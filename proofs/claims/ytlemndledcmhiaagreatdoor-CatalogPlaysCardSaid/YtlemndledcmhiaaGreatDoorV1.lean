/-
  The catalog, from the device up, part 1.
-/
import Derived.Test.YtlemndledcmhiaaGreatDoorV0
import Derived.Test.YtlemndledcmhiaaGreatDoorShelf
import Derived.Deep.QuietTactic
import Derived.BigQuiet
import Derived.Lib.BufferWrite
import Derived.Maps.AppendAt
namespace Go.Proofs.YtlemndledcmhiaaGreatDoor
set_option linter.unusedVariables false
set_option linter.unusedSimpArgs false
set_option maxHeartbeats 8000000
set_option maxRecDepth 100000
open Tryz
open Lib (hid)
open Go.ChangeMaps Go.MapKept Go.RowKit
section
open Go.MapKept Go.RowKit Go.Shelf
open Go.WideElems (Fit)
def O4 (v:Value):Option (DataW Value×List MemPlace):=some (.held v,[])
theorem Qbi {H:Type} (g:MapEntry→Lit×DataW H) (l:List MapEntry):(intKeys (.map ((l.map g).foldr DataW.insert []))).Perm (l.map fun x=>Go.intOf (g x).1):=by
 show (List.map (fun p:Lit×DataW H=>Go.intOf p.1) _).Perm _;have:=(WideShapes.sorted_perm (l.map g)).map (fun p:Lit×DataW H=>Go.intOf p.1);rw [List.map_map] at this;exact this
theorem Qn.owns {w:World} {b n:Nat} {f:Int→Option Value} (h:Qn JX okI w b n f) (hn:n≤maxLen):
 ∃D,w.ownsMap prog 3 O4 b n D∧Maps.size D=n∧(intKeys D).Nodup∧(intKeys D).length=n∧∀a,a∈intKeys D↔okI a∧(f a).isSome=true:=by
 obtain ⟨es,clock,hb,hst,hk,rfl,hf⟩:=h;have hrd: ∀x∈es.toList,∃a,okI a∧x.key=JX a∧WideElems.rd prog 3 O4 x=some (.int .i64 a,.held x.val):=fun x hx=>by
  obtain ⟨a,ha,e⟩:=hk x hx;refine ⟨a,ha,e,?_⟩;unfold WideElems.rd;rw [e];have:keyOf prog 3 (JX a)=some (.int .i64 a):=Go.Maps.keyOf_int_mk underlying3 ha;rw [this];rfl
 have F:Fit prog 3 O4 es clock:=⟨hn,hst,fun x hx=>by obtain ⟨a,_,_,e⟩:=hrd x hx;exact ⟨_,e⟩⟩;have hlen:((es.toList.map (WideElems.rg prog 3 O4)).foldr DataW.insert []).length=es.size:=by rw [length_sorted];simp
 have hperm:=Qbi (WideElems.rg prog 3 O4) es.toList;have hkey: ∀x∈es.toList,∀a,x.key=JX a→Go.intOf (WideElems.rg prog 3 O4 x).1=a:=fun x hx a e=>by
  obtain ⟨a',_,e',hr⟩:=hrd x hx;rw [WideElems.rg_of hr];have:JX a=JX a':=e.symm.trans e';show a'=a;exact (Value.int.inj this).2.symm
 refine ⟨_,⟨es,clock,hb,F,Nat.le_refl _,rfl⟩,?_,?_,?_,fun a=>?_⟩
 ·show ((es.toList.map (WideElems.rg prog 3 O4)).foldr DataW.insert []).length=es.size;exact hlen
 ·refine (hperm.nodup_iff).2 ?_;rw [List.Nodup,List.pairwise_map];have hpw:es.toList.Pairwise (fun x y=>x.key≠y.key):=((stamped_iff es clock).1 hst).2.2;refine List.Pairwise.imp_of_mem ?_ hpw;intro x y hx hy hne e;obtain ⟨a,_,ea⟩:=hk x hx;obtain ⟨b',_,eb⟩:=hk y hy;rw [hkey x hx a ea,hkey y hy b' eb] at e;exact hne (by rw [ea,eb,e])
 ·rw [hperm.length_eq];simp
 ·rw [hperm.mem_iff,List.mem_map];constructor
  ·rintro ⟨x,hx,e⟩;obtain ⟨a',ha',ea⟩:=hk x hx;rw [hkey x hx a' ea] at e;subst e;exact ⟨ha',by rw [(hf a' x.val ha').2 ⟨x,hx,ea,rfl⟩];rfl⟩
  ·rintro ⟨ha,hs⟩;obtain ⟨v,hv⟩:=Option.isSome_iff_exists.1 hs;obtain ⟨x,hx,ex,_⟩:=(hf a v ha).1 hv;exact ⟨x,hx,hkey x hx a ex⟩
def UZ (w:World) (t:TypeId) (v:Value) (xs:List Value) (R:Nat→Prop):Prop:=
 (v= .slice none 0 0∧xs= [])∨
 ∃blk off cap c,v= .slice (some ⟨blk,off,none⟩) xs.length cap∧xs.length≤cap∧w.heap[blk]?=some (.cells c t (0,0))∧(∀i,i<xs.length→c[off+i]?=xs[i]?)∧R blk
theorem UZ.of_owns {w:World} {base:Nat} {t:TypeId} {v:Value} {n:Nat} {xs:List Value} (h:w.ownsRow base t 1 v n xs):UZ w t v xs (fun x=>base≤x):=by
 obtain ⟨hl,h | ⟨g,cap,cur,rfl,hb,hh,hn,_,hsz,ht⟩⟩:=h
 ·obtain ⟨rfl,rfl⟩:=h;exact .inl ⟨rfl,List.eq_nil_of_length_eq_zero (by rw [hl])⟩
 ·rw [Nat.mul_one] at hl ht;subst hl;refine .inr ⟨g,0,cap,cur,rfl,hn,hh,fun i hi=>?_,hb⟩;have h1:(cur.toList.take xs.length)[i]?=xs[i]?:=by rw [ht]
  rw [List.getElem?_take,if_pos hi] at h1;rw [Nat.zero_add,←h1,Array.getElem?_toList]
def Qcw (w:World) (v:Value) (xs:List Value):Prop:=
 ∃a cap,v= .slice a xs.length cap∧∀i x,xs[i]?=some x→∃blk off,a=some ⟨blk,off,none⟩∧blk<w.heap.size∧w.cell? ⟨blk,off+i,none⟩=some x
structure O5 (f:Int→Option Value) (n:Nat) (ks:List Int):Prop where
 sorted:ks.Pairwise (· < ·)
 mem: ∀a,a∈ks↔okI a∧(f a).isSome=true
 len:ks.length=n
theorem Qad {f:Int→Option Value} {n:Nat} {D:DataW Value} {ss:List Int} (hp:ss.Perm (intKeys D)) (hnd:(intKeys D).Nodup) (hlen:(intKeys D).length=n)
 (hm: ∀a,a∈intKeys D↔okI a∧(f a).isSome=true):O5 f n (ss.mergeSort (fun x y=>decide (x≤y))):=by
 have hp2:(ss.mergeSort (fun x y=>decide (x≤y))).Perm (intKeys D):=(List.mergeSort_perm ss _).trans hp;have hs:(ss.mergeSort (fun x y=>decide (x≤y))).Pairwise (fun x y=>decide (x≤y)=true):=
  List.pairwise_mergeSort (fun a b c h1 h2=>by simp at*;omega) (fun a b=>by simp;omega) ss
 have hn2:(ss.mergeSort (fun x y=>decide (x≤y))).Nodup:=(hp2.nodup_iff).2 hnd;refine ⟨?_,fun a=>hp2.mem_iff.trans (hm a),by rw [hp2.length_eq,hlen]⟩;refine (hs.and hn2).imp ?_;rintro a b ⟨h1,h2⟩;simp at h1;omega
theorem Qj9 (m:Nat):AnyZI.SortsIn prog Tryz.sortedA_ren Fence.wide m:=
 ⟨fun blk off cap ss W hH hblk hsz=>callsIn_wide.2 (AnyM.slices_Sort_int Tryz.sortA blk off cap ss W hH hblk hsz),
  fun p cap W=>callsIn_wide.2 (AnyM.slices_Sort_int_none Tryz.sortA p cap W)⟩
end
theorem nodup_lt_length: ∀(N:Nat) (L:List Nat),L.Nodup→(∀x∈L,x<N)→L.length≤N
 | 0,L,_,h=>by
   cases L with
   | nil=>exact Nat.le_refl _
   | cons a l=>exact absurd (h a (by simp)) (by omega)
 | N+1,L,hn,h=>by
   have h1:=nodup_lt_length N (L.erase N) (hn.erase N) (fun x hx=>by
    have hx':=(hn.mem_erase_iff).1 hx;have:=h x hx'.2;have:=hx'.1;omega)
   have h2:=List.length_erase (a:=N) (l:=L);split at h2<;>omega
theorem UZ.cases {w:World} {t:TypeId} {v:Value} {xs:List Value} {R:Nat→Prop} (h:UZ w t v xs R):
 ∃a cap,v= .slice a xs.length cap∧xs.length≤cap∧∀i x,xs[i]?=some x→∃blk off,a=some ⟨blk,off,none⟩∧blk<w.heap.size∧w.cell? ⟨blk,off+i,none⟩=some x∧(∃c,w.heap[blk]?=some (.cells c t (0,0)))∧R blk:=by
 rcases h with ⟨rfl,rfl⟩ | ⟨blk,off,cap,c,h1,h2,h3,h4,h5⟩
 ·exact ⟨none,0,rfl,Nat.le_refl _,fun i x hx=>by simp at hx⟩
 ·refine ⟨_,cap,h1,h2,fun i x hx=>⟨blk,off,rfl,lt_of_block h3,?_,⟨c,h3⟩,h5⟩⟩;rw [Qa h3,h4 i (List.getElem?_eq_some_iff.1 hx).1,hx]
def Jw (w:World) (v:Value) (bs:List UInt8):Prop:=
 ∃a cap,v= .slice a bs.length cap∧∀i b,bs[i]?=some b→∃blk off,a=some ⟨blk,off,none⟩∧blk<w.heap.size∧w.cell? ⟨blk,off+i,none⟩=some (B8 b)
theorem Qc.sliceOf {w:World} {v:Value} {bs:List UInt8} {R:Nat→Prop} (h:Qc w v bs R):Jw w v bs:=by
 obtain ⟨blk,off,cap,c,rfl,h2,h3,h4,h5⟩:=h;refine ⟨_,cap,rfl,fun i b hb=>⟨blk,off,rfl,h3.lt,?_⟩⟩;obtain ⟨h6,h7⟩:=List.getElem?_eq_some_iff.1 hb;rw [h3.cell,h4 i h6,List.getD_eq_getElem?_getD,hb];rfl
theorem OA {w:World} {b:Nat} {bs:List UInt8} (h:w.heap[b]?=some (Kp bs)) {n:Nat} (hn:bs.length=n) (cap:Nat) (hc:n≤cap) (R:Nat→Prop) (hR:R b):Qc w (.slice (some ⟨b,0,none⟩) n cap) bs R:=by
 subst hn;refine ⟨b,0,cap,_,rfl,hc,IsC.of8 h,fun i hi=>?_,hR⟩;rw [Nat.zero_add,List.getElem?_toArray,List.getElem?_map,List.getElem?_eq_getElem hi,List.getD_eq_getElem?_getD,List.getElem?_eq_getElem hi];rfl
def Ku:Nat→Prop:=fun _=>True
def Off (Z:Nat→Prop):Nat→Prop:=fun x=> ¬Z x
theorem Qc.zone {w:World} {v:Value} {bs:List UInt8} {Z Z':Nat→Prop} (h:Qc w v bs (Off Z)) (hz: ∀x,Z' x→x<w.heap.size→Z x):Qc w v bs (Off Z'):=
 h.mono fun x hx hn hz'=>hn (hz x hz' hx)
theorem Qc.off {w w':World} {v:Value} {bs:List UInt8} {Z:Nat→Prop} (h:Qc w' v bs (QR w)) (hz: ∀x,Z x→x<w.heap.size):Qc w' v bs (Off Z):=
 h.mono fun x _ hn hx=>by have:w.heap.size≤x:=hn;have:=hz x hx;omega
theorem Qc.fresh {a b w:World} {v:Value} {bs:List UInt8} (h:Qc w v bs (QR b)) (hs:a.heap.size≤b.heap.size):Qc w v bs (QR a):=
 h.mono fun _ _ hx=>Nat.le_trans hs hx
def VU (Z:Nat→Prop) (w:World) (h:Hdl) (D:DSt):Prop:=QF w h D (Off Z)
theorem VU.zone {Z Z':Nat→Prop} {w:World} {h:Hdl} {D:DSt} (H:VU Z w h D) (hz: ∀x,Z' x→x<w.heap.size→Z x):VU Z' w h D:=QF.mono H fun x hx hn hz'=>hn (hz x hz' hx)
def Dry (w:World) (M:Nat→Prop):Prop:= ∀x,x<w.heap.size→M x→∀c,¬IsC w x c
theorem Dry.none (w:World):Dry w NoB:=fun _ _ h=>h.elim
theorem Qc.frmZ {w w':World} {v:Value} {bs:List UInt8} {R N:Nat→Prop} (h:Qc w v bs R) (hf:Frm N w w') (hd:Dry w N):Qc w' v bs R:=
 h.of_block fun x c _ hc=>hf.block x hc.lt fun hN=>hd x hc.lt hN c hc
theorem Qc.any {w:World} {v:Value} {bs:List UInt8} {R:Nat→Prop} (h:Qc w v bs R):Qc w v bs Ku:=h.mono fun _ _ _=>trivial
section
variable {Z:Nat→Prop}
theorem QF.toIn {w w':World} {h:Hdl} {D:DSt} (H:QF w' h D (grow (Off Z) w w')) (hz: ∀x,Z x→x<w.heap.size):VU Z w' h D:=
 H.mono fun x _ hx=>by
  rcases hx with hx | hx
  ·exact hx
  ·exact fun hZ=>by have:=hz x hZ;omega
theorem VU.frm {w w':World} {h:Hdl} {D:DSt} {M:Nat→Prop} (H:VU Z w h D) (hf:Frm M w w') (hd:Dry w M) (ha: ∀x,M x→¬h.M x):VU Z w' h D:=
 QF.frm2 H hf (fun x hx hM=>⟨ha x hM,fun _=>hd x hx hM⟩)
theorem QgL (w:World) (h:Hdl) (D:DSt) (H:VU Z w h D) (hz: ∀x,Z x→x<w.heap.size) (ho:D.ops<4611686018427387904) (hoff:D.off=false) (k:Int) (v:Value) (bs:Blk) (Rv:Nat→Prop)
 (h0:0≤k) (hk:k<D.n) (hbs:bs.length=512) (hv:Qc w v bs Rv):
 Calls prog 227 #[.pointer (some ⟨h.b,0,none⟩),.int .i64 k,v] w fun e w'=>
  e= .returned (.int .i64 0)∧VU Z w' h (D.op.put k.toNat bs)∧Frm h.M w w':=
 (Qgh w h D (Off Z) H ho hoff k v bs Rv h0 hk hbs hv).mono fun _ _ ⟨a,b,c⟩=>⟨a,b.toIn hz,c⟩
theorem Qhd (w:World) (h:Hdl) (D:DSt) (H:VU Z w h D) (ho:D.ops<4611686018427387903) (hoff:D.off=false):
 Calls prog 143 #[.pointer (some ⟨h.b,0,none⟩)] w fun e w'=>
  e= .returned (.int .i64 0)∧VU Z w' h D.op.flushed∧Frm h.M w w':=Qhh w h D (Off Z) H ho hoff
def Qkn (Z:Nat→Prop) (w:World) (D:DSt) (v:Value) (w':World):Prop:=
 Frm NoB w w'∧∃h:Hdl,v= .pointer (some ⟨h.b,0,none⟩)∧VU Z w' h D∧(∀x,h.M x→w.heap.size≤x)
theorem QjP (w:World) (n:Int) (h1:1≤n) (h2:n≤65536):
 Calls prog 36 #[.int .i64 n] w fun e w'=> ∃v,e= .returned (.tuple #[v,.int .i64 0])∧Qkn Z w (DSt.new n.toNat) v w':=
 (Qic w n h1 h2).mono fun _ _ ⟨v,a,b,h,c,d,e⟩=>⟨v,a,b,h,c,QF.mono d (fun _ _ h=>h.elim),e⟩
theorem Qa4 (w:World) (h:Hdl) (D:DSt) (H:VU Z w h D) (k:Int) (h0:0≤k) (hk:k<D.n) (ho:D.ops<4611686018427387904):
 Calls prog 139 #[.pointer (some ⟨h.b,0,none⟩),.int .i64 k] w fun e w'=> ∃v,e= .returned (.tuple #[v,.int .i64 0])∧Qc w' v (D.last k.toNat) (QR w)∧Frm NoB w w':=
 (Qg7 w h D (Off Z) H k h0 hk ho).mono fun _ _ ⟨b,a⟩=>⟨_,a,by rw [b];exact OA (Qb _ _) (DSt.last_length H.wf _) 512 (Nat.le_refl _) _ (Nat.le_refl _),by rw [b];exact (Frm.refl _ _).alloc _⟩
end
theorem Qcz (w:World) (bs:Blk) (hb:bs.length=512):Qc (w.alloc (Kp bs)) (.slice (some ⟨w.heap.size,0,none⟩) 512 512) bs (QR w):=OA (Qb _ _) hb 512 (Nat.le_refl _) (QR w) (Nat.le_refl _)
theorem Qc.frm0 {w w':World} {v:Value} {bs:List UInt8} {R:Nat→Prop} (h:Qc w v bs R) (hf:Frm NoB w w'):Qc w' v bs R:=h.frmB hf (fun _ hx=>hx.elim)
structure Res where
 M:Nat→Prop
 inv:(Nat→Prop)→World→Prop
 lt: ∀Z w,inv Z w→∀x,M x→x<w.heap.size
 dry: ∀Z w,inv Z w→∀x,M x→∀c,¬IsC w x c
 keep: ∀Z w w' N,inv Z w→Frm N w w'→Dry w N→(∀x,M x→¬N x)→inv Z w'
 zone: ∀Z Z' w,inv Z w→(∀x,Z' x→x<w.heap.size→Z x)→(∀x,Z x→Z' x)→inv Z' w
structure Gnd where
 w:World
 Z:Nat→Prop
instance:Coe World Gnd:=⟨fun w=>⟨w,NoB⟩⟩
structure St (w0:Gnd) (w:World) (rs:List Res):Prop where
 base:Frm NoB w0.w w
 zin: ∀x,w0.Z x→x<w.heap.size
 inv: ∀r∈rs,r.inv w0.Z w
 new: ∀r∈rs,∀x,r.M x→w0.w.heap.size≤x
 apart:rs.Pairwise (fun a b=> ∀x,a.M x→¬b.M x)
theorem St.start (w:World):St w w []:=⟨Frm.refl _ _,fun _ h=>h.elim,fun _ h=>(by cases h),fun _ h=>(by cases h),List.Pairwise.nil⟩
theorem St.get {w0:Gnd} {w:World} {rs:List Res} (h:St w0 w rs) {i:Nat} {r:Res} (hr:rs[i]?=some r):r.inv w0.Z w:=h.inv r (List.mem_of_getElem? hr)
theorem St.frm0 {w0:Gnd} {w w':World} {rs:List Res} (h:St w0 w rs) (hf:Frm NoB w w'):St w0 w' rs:=
 ⟨h.base.trans hf (fun _ _ e=>e),fun x hx=>Nat.lt_of_lt_of_le (h.zin x hx) hf.size,fun r hr=>r.keep _ w w' NoB (h.inv r hr) hf (Dry.none w) (fun _ _ e=>e),h.new,h.apart⟩
theorem St.make {w0:Gnd} {w w':World} {rs:List Res} (h:St w0 w rs) (hf:Frm NoB w w') (r:Res) (hi:r.inv w0.Z w') (hn: ∀x,r.M x→w.heap.size≤x):St w0 w' (r::rs):=by
 have h1:=h.frm0 hf;refine ⟨h1.base,h1.zin,fun a ha=>?_,fun a ha=>?_,List.pairwise_cons.2 ⟨fun b hb x hx hbx=>?_,h1.apart⟩⟩
 ·rcases List.mem_cons.1 ha with rfl | ha
  ·exact hi
  ·exact h1.inv a ha
 ·rcases List.mem_cons.1 ha with rfl | ha
  ·exact fun x hx=>Nat.le_trans h.base.size (hn x hx)
  ·exact h1.new a ha
 ·have:=b.lt _ w (h.inv b hb) x hbx;have:=hn x hx;omega
theorem St.write {w0:Gnd} {w w':World} {rs:List Res} (h:St w0 w rs) (i:Nat) {r:Res} (hr:rs[i]?=some r) (hf:Frm r.M w w') (r':Res) (hi:r'.inv w0.Z w') (hM: ∀x,r'.M x→r.M x∨w.heap.size≤x):St w0 w' (rs.set i r'):=by
 have hmem:=List.mem_of_getElem? hr;obtain ⟨hi1,hi2⟩:=List.getElem?_eq_some_iff.1 hr;have hoth: ∀(j:Nat) (hj:j<rs.length),j≠i→∀x,rs[j].M x→¬r.M x:=fun j hj hne x hx hrx=>by
  have hp:=List.pairwise_iff_getElem.1 h.apart;rcases Nat.lt_or_gt_of_ne hne with hlt | hlt
  ·exact hp j i hj hi1 hlt x hx (hi2▸hrx)
  ·exact hp i j hi1 hj hlt x (hi2▸hrx) hx
 have hbig: ∀(j:Nat) (hj:j<rs.length) x,rs[j].M x→x<w.heap.size:=fun j hj x hx=>rs[j].lt _ w (h.inv _ (List.getElem_mem hj)) x hx
 refine ⟨h.base.trans hf (fun x hx hM=>by have:=h.new r hmem x hM;omega),fun x hx=>Nat.lt_of_lt_of_le (h.zin x hx) hf.size,fun a ha=>?_,fun a ha x hx=>?_,?_⟩
 ·obtain ⟨j,hj,rfl⟩:=List.getElem_of_mem ha;rw [List.length_set] at hj;rw [List.getElem_set];split
  ·exact hi
  ·rename_i hne
   exact rs[j].keep _ w w' r.M (h.inv _ (List.getElem_mem hj)) hf (fun x _ hx=>r.dry _ w (h.inv r hmem) x hx) (hoth j hj (Ne.symm hne))
 ·obtain ⟨j,hj,rfl⟩:=List.getElem_of_mem ha;rw [List.length_set] at hj;rw [List.getElem_set] at hx;split at hx
  ·rcases hM x hx with h1 | h1
   ·exact h.new r hmem x h1
   ·exact Nat.le_trans h.base.size h1
  ·exact h.new _ (List.getElem_mem hj) x hx
 ·rw [List.pairwise_iff_getElem];intro j k hj hk hjk x hx hkx;rw [List.length_set] at hj hk;rw [List.getElem_set] at hx hkx;split at hx
  ·split at hkx
   ·omega
   ·rename_i e hne
    rcases hM x hx with h1 | h1
    ·exact hoth k hk (Ne.symm hne) x hkx h1
    ·have:=hbig k hk x hkx;omega
  ·rename_i hne
   split at hkx
   ·rcases hM x hkx with h1 | h1
    ·exact hoth j hj (Ne.symm hne) x hx h1
    ·have:=hbig j hj x hx;omega
   ·exact List.pairwise_iff_getElem.1 h.apart j k hj hk hjk x hx hkx
theorem St.sub {w0:Gnd} {w:World} {rs rs':List Res} (h:St w0 w rs) (hs:rs'.Sublist rs):St w0 w rs':=
 ⟨h.base,h.zin,fun r hr=>h.inv r (hs.subset hr),fun r hr=>h.new r (hs.subset hr),h.apart.sublist hs⟩
theorem St.drop {w0:Gnd} {w:World} {rs:List Res} (h:St w0 w rs) (n:Nat):St w0 w (rs.drop n):=h.sub (List.drop_sublist n rs)
theorem St.pick {w0:Gnd} {w:World} {rs:List Res} (h:St w0 w rs) (is:List Nat) (rs':List Res) (hn:is.Nodup) (hr:is.map (rs[·]?)=rs'.map some):St w0 w rs':=by
 have hlen:is.length=rs'.length:=by have:=congrArg List.length hr;simpa using this
 have hget: ∀(j:Nat) (hj:j<rs'.length),rs[is[j]'(by omega)]?=some rs'[j]:=fun j hj=>by
  have:=congrArg (fun l=>l[j]?) hr;simp only [List.getElem?_map] at this;rw [List.getElem?_eq_getElem (by omega),List.getElem?_eq_getElem hj] at this
  simpa using this
 have hmem: ∀r∈rs',r∈rs:=fun r hr=>by
  obtain ⟨j,hj,rfl⟩:=List.getElem_of_mem hr;exact List.mem_of_getElem? (hget j hj)
 refine ⟨h.base,h.zin,fun r hr=>h.inv r (hmem r hr),fun r hr=>h.new r (hmem r hr),?_⟩;rw [List.pairwise_iff_getElem];intro j k hj hk hjk x hx hkx;obtain ⟨a1,a2⟩:=List.getElem?_eq_some_iff.1 (hget j hj);obtain ⟨b1,b2⟩:=List.getElem?_eq_some_iff.1 (hget k hk);have hne:is[j]'(by omega)≠is[k]'(by omega):=List.pairwise_iff_getElem.1 hn j k (by omega) (by omega) hjk;have hp:=List.pairwise_iff_getElem.1 h.apart;rcases Nat.lt_or_gt_of_ne hne with hlt | hlt
 ·exact hp _ _ a1 b1 hlt x (a2▸hx) (b2▸hkx)
 ·exact hp _ _ b1 a1 hlt x (b2▸hkx) (a2▸hx)
def dev (h:Hdl) (D:DSt):Res where
 M:=h.M
 inv:=fun Z w=>VU Z w h D
 lt:=fun Z w H x hx=>by
  obtain ⟨_,⟨left,hb,_⟩,⟨nf,f,Mf,_⟩,⟨ng,g,Mg,_⟩,⟨nm,m,Mm,_⟩,_⟩:=H;rcases hx with rfl | rfl | rfl | rfl
  ·exact lt_of_block hb
  ·exact Mf.lt
  ·exact Mg.lt
  ·exact Mm.lt
 dry:=fun Z w H x hx=>H.noBytes x hx
 keep:=fun Z w w' N H hf hd ha=>H.frm hf hd (fun x hn hx=>ha x hx hn)
 zone:=fun Z Z' w H hz _=>H.zone hz
def byt (v:Value) (bs:List UInt8):Res where
 M:=NoB
 inv:=fun Z w=>Qc w v bs Ku
 lt:=fun _ _ _ _ h=>h.elim
 dry:=fun _ _ _ _ h=>h.elim
 keep:=fun Z w w' N H hf hd _=>H.frmZ hf hd
 zone:=fun _ _ _ H _ _=>H
theorem St.mkByt {w0:Gnd} {w w':World} {rs:List Res} (h:St w0 w rs) (hf:Frm NoB w w') {v:Value} {bs:List UInt8} {R:Nat→Prop} (hb:Qc w' v bs R):St w0 w' (byt v bs::rs):=
 h.make hf (byt v bs) hb.any (fun _ h=>h.elim)
def arr (b:Nat) (c:Array Value) (t:TypeId) (ht: ¬U8T t):Res where
 M:=Q0 b
 inv:=fun Z w=>w.heap[b]?=some (.cells c t (0,0))
 lt:=fun Z w H x hx=>by obtain rfl:x=b:=hx;exact lt_of_block H
 dry:=fun Z w H x hx c' e=>by
  obtain rfl:x=b:=hx;exact Yf H ht _ e
 keep:=fun Z w w' N H hf _ ha=>(hf.block b (lt_of_block H) (ha b rfl)).trans H
 zone:=fun Z Z' w H _ _=>H
theorem St.newArr {w0:Gnd} {w:World} {rs:List Res} (h:St w0 w rs) (c:Array Value) (t:TypeId) (ht: ¬U8T t):St w0 (w.alloc (.cells c t (0,0))) (arr w.heap.size c t ht::rs):=
 h.make ((Frm.refl _ _).alloc _) (arr w.heap.size c t ht) (Qb _ _) (fun x hx=>by obtain rfl:x=w.heap.size:=hx;exact Nat.le_refl _)
theorem St.setArr {w0:Gnd} {w:World} {rs:List Res} (h:St w0 w rs) (i:Nat) {b:Nat} {c:Array Value} {t:TypeId} {ht: ¬U8T t} (hr:rs[i]?=some (arr b c t ht)) (j:Nat) (v:Value):
 St w0 (w.setCell ⟨b,j,none⟩ v) (rs.set i (arr b (c.setIfInBounds j v) t ht)):=
 h.write i hr ((Frm.refl (Q0 b) w).setOnly v) (arr b _ t ht) (Qh v (h.get hr)) (fun _ hx=> .inl hx)
theorem St.arrCell {w0:Gnd} {w:World} {rs:List Res} (h:St w0 w rs) {i:Nat} {b:Nat} {c:Array Value} {t:TypeId} {ht: ¬U8T t} (hr:rs[i]?=some (arr b c t ht)) (j:Nat):w.cell? ⟨b,j,none⟩=c[j]?:=
 Qa (h.get hr)
theorem St.arrFree {w0:Gnd} {w:World} {rs:List Res} (h:St w0 w rs) {i:Nat} {b:Nat} {c:Array Value} {t:TypeId} {ht: ¬U8T t} (hr:rs[i]?=some (arr b c t ht)) (j:Nat):w.frozen? ⟨b,j,none⟩=false:=
 Qf (h.get hr)
theorem Yk {D:DSt} (h:D.lim=none):D.off=false:=by unfold DSt.off;rw [h];rfl
theorem V4 (D:DSt) (k:Nat) (b:Blk):(D.put k b).last k=b:=by simp [DSt.last,DSt.put]
theorem Vx (D:DSt) {k j:Nat} (b:Blk) (h:j≠k):(D.put k b).last j=D.last j:=by simp [DSt.last,DSt.put,h]
theorem Qaj (D:DSt) (k:Nat) (h:D.pend k= []):D.last k=D.base k:=by unfold DSt.last;rw [h];rfl
section
variable {w0:Gnd} {w:World} {rs:List Res}
theorem Qks (h:St w0 w rs) (n:Int) (h1:1≤n) (h2:n≤65536):
 Calls prog 36 #[.int .i64 n] w fun e w'=> ∃H:Hdl,e= .returned (.tuple #[.pointer (some ⟨H.b,0,none⟩),.int .i64 0])∧St w0 w' (dev H (DSt.new n.toNat)::rs):=
 (QjP w n h1 h2).mono fun _ _ ⟨v,a,hf,H,b,hd,hm⟩=>⟨H,by rw [a,b],h.make hf (dev H _) hd hm⟩
theorem OX (h:St w0 w rs) (i j:Nat) {H:Hdl} {D:DSt} {v:Value} {bs:Blk} (hr:rs[i]?=some (dev H D)) (hv:rs[j]?=some (byt v bs)) (k:Int) (ho:D.ops<4611686018427387904) (hoff:D.off=false) (h0:0≤k) (hk:k<D.n) (hbs:bs.length=512):
 Calls prog 227 #[.pointer (some ⟨H.b,0,none⟩),.int .i64 k,v] w fun e w'=>e= .returned (.int .i64 0)∧St w0 w' (rs.set i (dev H (D.op.put k.toNat bs))):=
 (QgL w H D (h.get hr) h.zin ho hoff k v bs Ku h0 hk hbs (h.get hv)).mono fun _ _ ⟨a,hd,hf⟩=>⟨a,h.write i hr hf (dev H _) hd (fun _ h=> .inl h)⟩
theorem Qdw (h:St w0 w rs) (i:Nat) {H:Hdl} {D:DSt} (hr:rs[i]?=some (dev H D)) (k:Int) (v:Value) (ho:D.ops<4611686018427387904) (hoff:D.off=true):
 Calls prog 227 #[.pointer (some ⟨H.b,0,none⟩),.int .i64 k,v] w fun e w'=>e= .returned (.int .i64 9)∧St w0 w' (rs.set i (dev H D.op)):=
 (QfH w H D (Off w0.Z) (h.get hr) ho hoff k v).mono fun _ _ ⟨a,hd,hf⟩=>⟨a,h.write i hr hf (dev H _) hd (fun _ h=> .inl h)⟩
theorem Qbn (h:St w0 w rs) (i:Nat) {H:Hdl} {D:DSt} (hr:rs[i]?=some (dev H D)) (ho:D.ops<4611686018427387903) (hoff:D.off=false):
 Calls prog 143 #[.pointer (some ⟨H.b,0,none⟩)] w fun e w'=>e= .returned (.int .i64 0)∧St w0 w' (rs.set i (dev H D.op.flushed)):=
 (Qhd w H D (h.get hr) ho hoff).mono fun _ _ ⟨a,hd,hf⟩=>⟨a,h.write i hr hf (dev H _) hd (fun _ h=> .inl h)⟩
theorem QdH (h:St w0 w rs) (i:Nat) {H:Hdl} {D:DSt} (hr:rs[i]?=some (dev H D)) (ho:D.ops<4611686018427387904) (hoff:D.off=true):
 Calls prog 143 #[.pointer (some ⟨H.b,0,none⟩)] w fun e w'=>e= .returned (.int .i64 9)∧St w0 w' (rs.set i (dev H D.op)):=
 (Qfj w H D (Off w0.Z) (h.get hr) ho hoff).mono fun _ _ ⟨a,hd,hf⟩=>⟨a,h.write i hr hf (dev H _) hd (fun _ h=> .inl h)⟩
theorem Qhr (h:St w0 w rs) (i:Nat) {H:Hdl} {D:DSt} (hr:rs[i]?=some (dev H D)) (k:Int) (h0:0≤k) (hk:k<D.n) (ho:D.ops<4611686018427387904):
 Calls prog 139 #[.pointer (some ⟨H.b,0,none⟩),.int .i64 k] w fun e w'=> ∃v,e= .returned (.tuple #[v,.int .i64 0])∧St w0 w' (byt v (D.last k.toNat)::rs):=
 (Qa4 w H D (h.get hr) k h0 hk ho).mono fun _ _ ⟨v,a,hb,hf⟩=>⟨v,a,h.mkByt hf hb⟩
theorem QiF (h:St w0 w rs) (i:Nat) {H:Hdl} {D:DSt} (hr:rs[i]?=some (dev H D)) (k:Int) (h0:0≤k) (hk:k<D.n) (ho:D.ops<4611686018427387904):
 Calls prog 139 #[.pointer (some ⟨H.b,0,none⟩),.int .i64 k] w fun e w'=> ∃v,e= .returned (.tuple #[v,.int .i64 0])∧St w0 w' (byt v (D.last k.toNat)::rs)∧Qc w' v (D.last k.toNat) (Off w0.Z):=
 (Qa4 w H D (h.get hr) k h0 hk ho).mono fun _ _ ⟨v,a,hb,hf⟩=>⟨v,a,h.mkByt hf hb,hb.off h.zin⟩
theorem Kk (h:St w0 w rs) (i:Nat) {H:Hdl} {D:DSt} (hr:rs[i]?=some (dev H D)):
 Calls prog 66 #[.pointer (some ⟨H.b,0,none⟩)] w fun e w'=>w=w'∧e= .returned (.int .i64 D.n):=Qdz w H D (Off w0.Z) (h.get hr)
theorem u64_in {x:Int} (h0:0≤x) (h1:x<18446744073709551616):IntKind.u64.wrap x=x:=by
 simp [IntKind.wrap,IntKind.bits,IntKind.signed];omega
def EZ:List UInt8→Nat
 | []=>0
 | b::r=>b.toNat+256*EZ r
theorem W0: ∀l:List UInt8,EZ l<256 ^ l.length
 | []=>by simp [EZ]
 | b::r=>by
   have h1:=W0 r;have h2:=b.toNat_lt;rw [List.length_cons,Nat.pow_succ];show b.toNat+256*EZ r<_;omega
def leBytes:Nat→Nat→List UInt8
 | 0,_=> []
 | n+1,v=>UInt8.ofNat v::leBytes n (v/256)
theorem QT: ∀n v,(leBytes n v).length=n
 | 0,_=>rfl
 | n+1,v=>by rw [leBytes,List.length_cons,QT n]
theorem V6: ∀n v,v<256 ^ n→EZ (leBytes n v)=v
 | 0,v,h=>by simp at h;subst h;rfl
 | n+1,v,h=>by
   show (UInt8.ofNat v).toNat+256*EZ (leBytes n (v/256))=v;rw [V6 n (v/256) (by rw [Nat.pow_succ] at h;omega),UInt8.toNat_ofNat'];omega
theorem UJ: ∀(n v i:Nat),i<n→(leBytes n v)[i]?=some (UInt8.ofNat (v/256 ^ i))
 | 0,_,_,h=>by omega
 | n+1,v,0,_=>by simp [leBytes]
 | n+1,v,i+1,h=>by
   rw [leBytes,List.getElem?_cons_succ,UJ n (v/256) i (by omega),Nat.div_div_eq_div_mul,Nat.pow_succ,Nat.mul_comm]
def Qv (bs:List UInt8) (p n v:Nat):List UInt8:=bs.take p++leBytes n v++bs.drop (p+n)
def getLE (bs:List UInt8) (p n:Nat):Nat:=EZ ((bs.drop p).take n)
theorem Qu (bs:List UInt8) (p n v:Nat) (h:p+n≤bs.length):(Qv bs p n v).length=bs.length:=by
 unfold Qv;rw [List.length_append,List.length_append,List.length_take,QT,List.length_drop];omega
theorem Q1 (bs:List UInt8) (p n v:Nat) (h:p+n≤bs.length) (hv:v<256 ^ n):getLE (Qv bs p n v) p n=v:=by
 unfold getLE Qv;have h1:(bs.take p).length=p:=by rw [List.length_take];omega
 rw [List.append_assoc,List.drop_append,h1,Nat.sub_self,List.drop_zero,List.drop_of_length_le (by omega),List.nil_append,List.take_append,QT,Nat.sub_self,List.take_zero,List.append_nil,
  List.take_of_length_le (by rw [QT];omega)]
 exact V6 n v hv
theorem YI (bs:List UInt8) (p n v i:Nat) (h:p+n≤bs.length):(Qv bs p n v)[i]?=if p≤i∧i<p+n then some (UInt8.ofNat (v/256 ^ (i-p))) else bs[i]?:=by
 unfold Qv;have h1:(bs.take p).length=p:=by rw [List.length_take];omega
 rw [List.append_assoc,List.getElem?_append,h1];split
 ·rename_i hlt
  rw [if_neg (by omega),List.getElem?_take,if_pos hlt]
 ·rw [List.getElem?_append,QT];split
  ·rw [if_pos (by omega),UJ _ _ _ (by omega)]
  ·rw [if_neg (by omega),List.getElem?_drop]
   congr 1
   omega
theorem Yh {cs bs:List UInt8} {p n:Nat} (h: ∀i,p≤i→i<p+n→cs[i]?=bs[i]?):getLE cs p n=getLE bs p n:=by
 unfold getLE
 congr 1
 apply List.ext_getElem?;intro i;rw [List.getElem?_take,List.getElem?_take,List.getElem?_drop,List.getElem?_drop];split
 ·exact h _ (by omega) (by omega)
 ·rfl
theorem Q3 (bs:List UInt8) (p n v q m:Nat) (h:p+n≤bs.length) (hd:q+m≤p∨p+n≤q):getLE (Qv bs p n v) q m=getLE bs q m:=
 Yh fun i h1 h2=>by rw [YI _ _ _ _ _ h,if_neg (by omega)]
theorem Qeu (a b:Nat) (ha:a<72057594037927936) (hb:b<256):Go.bits .or .u64 ((a:Int)*256) (b:Int)=((a*256+b:Nat):Int):=by
 have h1:(BitVec.ofInt IntKind.u64.bits ((a:Int)*256)).toNat=a*256:=by
  rw [BitVec.toNat_ofInt];show ((a:Int)*256%18446744073709551616).toNat=a*256;omega
 have h2:(BitVec.ofInt IntKind.u64.bits (b:Int)).toNat=b:=by
  rw [BitVec.toNat_ofInt];show ((b:Int)%18446744073709551616).toNat=b;omega
 have h3:(BitVec.ofInt IntKind.u64.bits ((a:Int)*256) ||| BitVec.ofInt IntKind.u64.bits (b:Int)).toNat=a*256+b:=by
  rw [BitVec.toNat_or,h1,h2];have:=Nat.two_pow_add_eq_or_of_lt (i:=8) (b:=b) (by omega) a;rw [Nat.mul_comm];exact this.symm
 show IntKind.u64.wrap ((BitVec.ofInt IntKind.u64.bits ((a:Int)*256) ||| BitVec.ofInt IntKind.u64.bits (b:Int)).toNat:Int)=_;rw [h3];exact u64_in (by omega) (by omega)
theorem Qgv (i:Nat) (h:i≤7):256 ^ i≤72057594037927936:=by
 rcases (by omega:i=0∨i=1∨i=2∨i=3∨i=4∨i=5∨i=6∨i=7) with rfl | rfl | rfl | rfl | rfl | rfl | rfl | rfl<;>decide
theorem VY (w:World) (a:Option Addr) (len cap:Nat) (p size:Int) (h1:1≤size) (h2:size≤8) (h3:0≤p) (h4:p+size≤len) (h5:len<4611686018427387904):
 Calls prog 229 #[.slice a len cap,.int .i64 p,.int .i64 size] w fun e w'=>w=w'∧e= .returned (.bool true):=by
 have h6:p≤(len:Int)-size:=by omega
 go_enter func229,ntmps229;go_wp2;go_ret;exact ⟨rfl,rfl⟩
def VN (bs:List UInt8) (p n i:Nat):Nat:=getLE bs (p+(n-i)) i
theorem Qb6 (bs:List UInt8) (p n i:Nat) (hi:i<n) (h:p+n≤bs.length) (y:UInt8) (hy:bs[p+(n-1-i)]?=some y):VN bs p n (i+1)=VN bs p n i*256+y.toNat:=by
 unfold VN getLE;have e1:p+(n-(i+1))=p+(n-1-i):=by omega
 obtain ⟨h1,h2⟩:=List.getElem?_eq_some_iff.1 hy;rw [e1,List.drop_eq_getElem_cons h1,h2,List.take_succ_cons,show p+(n-1-i)+1=p+(n-i) from by omega];show y.toNat+256*_=_;omega
theorem Qan (bs:List UInt8) (p n i:Nat) (hi:i≤n) (h:p+n≤bs.length):VN bs p n i<256 ^ i:=by
 unfold VN getLE;have h1:=W0 ((bs.drop (p+(n-i))).take i);have h2:((bs.drop (p+(n-i))).take i).length=i:=by rw [List.length_take,List.length_drop];omega
 rwa [h2] at h1
theorem EA (bs:List UInt8) (p n:Nat) (h:p+n≤bs.length):getLE bs p n<256 ^ n:=by
 have:=Qan bs p n n (Nat.le_refl _) h;unfold VN at this
 rwa [Nat.sub_self] at this
theorem YJ (w:World) (v:Value) (bs:List UInt8) (p size:Nat) (hv:Jw w v bs) (h1:1≤size) (h2:size≤8) (h4:p+size≤bs.length) (h5:bs.length<4611686018427387904):
 Calls prog 147 #[v,.int .i64 p,.int .i64 size,.bool false] w fun e w'=>w=w'∧e= .returned (.tuple #[.int .u64 (getLE bs p size),.bool true]):=by
 obtain ⟨a,cap,rfl,hcell⟩:=hv;have HC:=hid hcell;clear hcell;go_enter func147,ntmps147;go_wp2_with fail;refine (VY _ _ _ _ _ _ (by omega) (by omega) (by omega) (by omega) (by omega)).mono ?_;rintro e w2 ⟨rfl,rfl⟩;go_wp2_with fail;go_loopw [8,10,11,18] (fun tv _ _ ti wr=>wr=w∧∃i:Nat,i≤size∧ti= .int .i64 i∧tv= .int .u64 (VN bs p size i)) (fun _ _ _ ti _=>size-(intOf ti).toNat)
 case atStart=>exact ⟨rfl,0,Nat.zero_le _,rfl,rfl⟩
 case round=>
  obtain ⟨rfl,i,hi,rfl,rfl⟩:=hrel;by_cases hlt:i<size
  ·have hi0:(0:Int)≤(i:Int):=Qk _;have hi1:(i:Int)<(size:Int):=by omega
   obtain ⟨y,hy⟩: ∃y,bs[p+(size-1-i)]?=some y:=⟨_,List.getElem?_eq_getElem (by omega)⟩;obtain ⟨blk,off,rfl,hb,hc0⟩:=HC.out (p+(size-1-i)) y hy;have hc:wr.cell? ⟨blk,off+(p+(size-1-i)),none⟩=some (.int .u8 y.toNat):=hc0;have HS:=hid (Qb6 bs p size i hlt h4 y hy);have hx1:=Nat.lt_of_lt_of_le (Qan bs p size i hi h4) (Qgv i (by omega));clear hy hc0;generalize VN bs p size i=x at*
   have hyl:=y.toNat_lt;have e1:((p:Int)+((size:Int)-1-(i:Int)))=((p+(size-1-i):Nat):Int):=by omega
   have hw:IntKind.u64.wrap ((x:Int)*256)=(x:Int)*256:=u64_in (by omega) (by omega);have hwy:IntKind.u64.wrap (y.toNat:Int)=(y.toNat:Int):=u64_in (by omega) (by omega);have hor:Go.bits .or .u64 ((x:Int)*256) (y.toNat:Int)=((VN bs p size (i+1):Nat):Int):=by rw [HS.out];exact Qeu x y.toNat hx1 (by omega)
   go_wp2;exact ⟨⟨trivial,i+1,hlt,by go_num,rfl⟩,by simp [intOf];omega⟩
  ·obtain rfl:i=size:=by omega
   have hT:VN bs p i i=getLE bs p i:=by unfold VN;rw [Nat.sub_self];rfl
   rw [hT];go_wp2;go_ret2;exact ⟨rfl,rfl⟩
theorem Qc.put {w:World} {blk off cap:Nat} {bs:List UInt8} {n:Nat} {R:Nat→Prop} (h:Qc w (.slice (some ⟨blk,off,none⟩) n cap) bs R) (j:Nat) (hj:j<bs.length) (y:UInt8):
 Qc (w.setCell ⟨blk,off+j,none⟩ (B8 y)) (.slice (some ⟨blk,off,none⟩) n cap) (bs.set j y) R:=by
 obtain ⟨blk',off',cap',c,e,h2,h3,h4,h5⟩:=h;injection e with e1 e2 e3
 injection e1 with e1
 injection e1 with e1 e4
 subst e1 e2 e3 e4;have hc:off+j<c.size:=by
  rcases Nat.lt_or_ge (off+j) c.size with h | h
  ·exact h
  ·have:=h4 j hj;rw [Array.getElem?_eq_none h] at this;cases this
 refine ⟨blk,off,cap,c.setIfInBounds (off+j) (B8 y),by rw [List.length_set],by rw [List.length_set];exact h2,h3.set _,fun i hi=>?_,h5⟩;rw [List.length_set] at hi;rw [List.getD_eq_getElem?_getD];by_cases e:i=j
 ·subst e;rw [Array.getElem?_setIfInBounds_self_of_lt hc,List.getElem?_set_self hi];rfl
 ·rw [Array.getElem?_setIfInBounds_ne (by omega),List.getElem?_set_ne (Ne.symm e),←List.getD_eq_getElem?_getD];exact h4 i hi
theorem Qdn (bs:List UInt8) (p v i:Nat) (h:p+i<bs.length):Qv bs p (i+1) v=(Qv bs p i v).set (p+i) (UInt8.ofNat (v/256 ^ i)):=by
 apply List.ext_getElem?;intro k;rw [YI _ _ _ _ _ (by omega),List.getElem?_set,Qu _ _ _ _ (by omega),YI _ _ _ _ _ (by omega)];by_cases e:p+i=k
 ·subst e;rw [if_pos (by omega),if_pos rfl,if_pos h,show p+i-p=i from by omega]
 ·rw [if_neg e];by_cases hk:p≤k∧k<p+i
  ·rw [if_pos hk,if_pos (by omega)]
  ·rw [if_neg hk,if_neg (by omega)]
theorem Qdl (bs:List UInt8) (p v:Nat):Qv bs p 0 v=bs:=by
 unfold Qv;rw [leBytes,List.append_nil,Nat.add_zero,List.take_append_drop]
theorem Qgo (i:Nat):(2:Int) ^ (8*i)=((256 ^ i:Nat):Int):=by
 rw [show (256:Nat)=2 ^ 8 from rfl,←Nat.pow_mul]
 norm_cast
theorem Qev (n i:Nat) (s:Int) (hs:8*(i:Int)=s):(n:Int)/2 ^ s.toNat=((n/256 ^ i:Nat):Int):=by
 rw [←hs,show (8*(i:Int)).toNat=8*i from by omega,Qgo];exact (Int.natCast_ediv n (256 ^ i)).symm
theorem Qc4 (q:Nat):(q:Int)%256=((UInt8.ofNat q).toNat:Int):=by
 rw [UInt8.toNat_ofNat'];omega
theorem YG (w:World) (v:Value) (bs:List UInt8) (p size n:Nat) (R:Nat→Prop) (hv:Qc w v bs R) (h1:1≤size) (h2:size≤8) (h4:p+size≤bs.length) (h5:bs.length≤140737488355328) (hn:n<18446744073709551616):
 Calls prog 178 #[v,.int .i64 p,.int .i64 size,.bool false,.int .u64 n] w fun e w'=>Frm NoB w w'∧∃v',e= .returned (.tuple #[v',.bool true])∧Qc w' v' (Qv bs p size n) (QR w):=by
 have HV:=hid hv;have HN:=hid hn;obtain ⟨a,cap,rfl,hcell⟩:=hv.sliceOf;clear hcell hv hn;go_enter func178,ntmps178;go_wp2_with fail;refine (VY _ _ _ _ _ _ (by omega) (by omega) (by omega) (by omega) (by omega)).mono ?_;rintro e w2 ⟨rfl,rfl⟩;go_wp2_with fail;refine (Vn w _ bs R HV.out h5).mono ?_;rintro e w1 ⟨hf,v1,rfl,hb1⟩;obtain ⟨blk,off,cap1,rfl,hcap1,_,hfr⟩:=hb1.cells;have HF:=hid hf;have HB:=hid hb1;have HFR:Hid (w.heap.size≤blk):=hid hfr;clear hf hb1 hfr;go_wp2_with fail;go_loopw [13,14,23] (fun _ _ ti wr=> ∃i:Nat,i≤size∧ti= .int .i64 i∧Frm NoB w wr∧Qc wr (.slice (some ⟨blk,off,none⟩) bs.length cap1) (Qv bs p i n) (QR w)) (fun _ _ ti _=>size-(intOf ti).toNat)
 case atStart=>exact ⟨0,Nat.zero_le _,rfl,HF.out,by rw [Qdl];exact HB.out⟩
 case round=>
  clear HF HB;obtain ⟨i,hi,rfl,hf,hb⟩:=hrel;have HF:=hid hf;have HB:=hid hb;clear hf hb;by_cases hlt:i<size
  ·have hi0:(0:Int)≤(i:Int):=Qk _;have hi1:(i:Int)<(size:Int):=by omega
   obtain ⟨k,hk⟩: ∃k:Nat,p+i=k:=⟨_,rfl⟩;have e1:((p:Int)+(i:Int))=(k:Int):=by omega
   have hk1:(k:Int)<(bs.length:Int):=by omega
   have hk2:(k:Int)<140737488355328:=by omega
   have hk0:(0:Int)≤(k:Int):=Qk _;have HK:=hid hk;obtain ⟨s,hs⟩: ∃s:Int,8*(i:Int)=s:=⟨_,rfl⟩;have hs0:0≤s:=by omega
   have hs1:s≤56:=by omega
   have hws:IntKind.i64.wrap (8*(i:Int))=s:=by rw [hs];exact IntWalk.i64_in (by omega) (by omega)
   have hsn: ¬s<0:=by omega
   have hsh:=Qev n i s hs;clear hs;have hb8:=Qc4 (n/256 ^ i);have HY:=hid (Qdn bs p n i (by omega));generalize n/256 ^ i=q at*
   generalize UInt8.ofNat q=y at*
   have hcell: ∃u,wr.cell? ⟨blk,off+k,none⟩=some u:=by
    obtain ⟨a',cap',e,hcl⟩:=HB.out.sliceOf;injection e with e1 e2 e3
    subst e1;obtain ⟨b',o',e',_,hc⟩:=hcl (p+i) _ (List.getElem?_eq_getElem (by rw [Qu _ _ _ _ (by omega)];omega));injection e' with e'
    injection e' with e1 e2
    subst e1 e2;exact ⟨_,by rw [←hk];exact hc⟩
   obtain ⟨u,hcell⟩:=hcell;have hfree:wr.frozen? ⟨blk,off+k,none⟩=false:=by
    obtain ⟨b',o',c',cc,e,_,h3,_⟩:=HB.out;injection e with e1 e2 e3
    injection e1 with e1
    injection e1 with e1 e2
    subst e1 e2;exact h3.frozen
   clear hk;go_wp2;have HB2:=HB.out.put (p+i) (by rw [Qu _ _ _ _ (by omega)];omega) y;rw [←HY.out,HK.out] at HB2;exact ⟨⟨i+1,hlt,by go_num,HF.out.setCell (.inr HFR.out) _,HB2⟩,by simp [intOf];omega⟩
  ·obtain rfl:i=size:=by omega
   go_wp2;go_ret2;exact ⟨HF.out,_,rfl,HB.out⟩
theorem QhD (w:World) (n:Nat) (hn:n<18446744073709551616):
 Calls prog 138 #[.int .u64 n] w fun e w'=>w=w'∧e= .returned (.int .i64 ((n%4:Nat):Int)):=by
 have hn0:(0:Int)≤(n:Int):=Qk _;obtain ⟨r,hr⟩: ∃r:Int,(n:Int)%4=r:=⟨_,rfl⟩;have hr0:0≤r:=by omega
 have hr1:r<4:=by omega
 have hrn:((n%4:Nat):Int)=r:=by omega
 have HR:=hid hrn;clear hrn hn;go_enter func138,ntmps138;go_wp2;go_ret;exact ⟨rfl,by rw [HR.out];rfl⟩
theorem E8 (w:World) (s b:Int) (h0:0≤s) (h1:s≤1000) (h2:0≤b) (h3:b≤1000):
 Calls prog 140 #[.agg #[.int .i64 s,.int .i64 b]] w fun e w'=>Frm NoB w w'∧e= .returned (.int .i64 (1+s*61+b)):=by
 go_enter func140,ntmps140;go_wp2;go_ret;exact ⟨(Frm.refl _ _).alloc _,rfl⟩
theorem EK (w:World) (v:Value) (bs:List UInt8) (k:Nat) (hv:Jw w v bs) (hk:k≤63) (hl:bs.length=512):
 Calls prog 225 #[v,.int .i64 k] w fun e w'=>w=w'∧e= .returned (.int .u64 (getLE bs (8*k) 8)):=by
 have hk0:(0:Int)≤(k:Int):=Qk _;have hk1:(k:Int)≤63:=by omega
 have HC:=hid (YJ w v bs (8*k) 8 hv (by omega) (by omega) (by omega) (by omega));obtain ⟨k8,hk8⟩: ∃k8:Nat,8*k=k8:=⟨_,rfl⟩;rw [hk8] at HC ⊢;have e1:8*(k:Int)=(k8:Int):=by omega
 clear hl hk8;go_enter func225,ntmps225;go_wp2_with fail;refine HC.out.mono ?_;rintro e w2 ⟨rfl,rfl⟩;go_wp2;go_ret;exact ⟨rfl,rfl⟩
def QE (P:Program) (f:FuncId):Prop:= ∀(args:Array Value) (w:World),(callFunc f args).run P w= .ok (.enter f args) w
theorem QJ {P:Program} {f:FuncId} {fn:Func} {c:Code} (hf:P.funcs[f]?=some fn) (hname:(fn.name== "runtime.NumGoroutine")=false) (hb:fn.body=some c):QE P f:=by
 intro args w;have h1:fn.name≠ "runtime.NumGoroutine":=by simpa using hname
 simp [callFunc,hf,h1,hb,mark]
theorem Yj {P:Program} {o:Oper} {a:Act} {next:Act→World→Prop} {Q:Exit→Act→World→Prop} {w:World} {f:FuncId} {args:Array Value} {R:Ending→World→Prop} (hE:QE P f) (h:Calls P f args w R)
 (hR: ∀e w',R e w'→∃v,e= .returned v∧next (a.put o.dst v) w'):o.upon P a next Q ((callFunc f args).run P w):=by
 rw [hE args w,Oper.upon_enter];refine h.mono ?_;intro e w' hr;obtain ⟨v,rfl,hn⟩:=hR e w' hr;exact hn
theorem E9 (w:World) (blk off len cap:Nat) (T:Nat→World→Prop) (Stop:Int→World→Prop) (g:Nat→FuncId) (fst cp:Nat→Array Value)
 (hT:T 0 w) (hc: ∀i W,i<len→T i W→W.cell? ⟨blk,off+i,none⟩=some (.func (.func (g i)) (fst i) (cp i))) (he: ∀i,i<len→QE prog (g i)) (hlen:len≤1000000)
 (hs: ∀i W,i<len→T i W→Calls prog (g i) (fst i++cp i) W fun e w'=> ∃x:Int,e= .returned (.int .i64 x)∧(x=0→T (i+1) w')∧(x≠0→Stop x w')):
 Calls prog 141 #[.slice (some ⟨blk,off,none⟩) len cap] w fun e w'=>(e= .returned (.int .i64 0)∧T len w')∨∃x:Int,x≠0∧e= .returned (.int .i64 x)∧Stop x w':=by
 have HC:=hid hc;have HS:=hid hs;have HT:=hid hT;have HE:=hid he;clear hc hs hT he;go_enter func141,ntmps141;go_wp2_with fail;go_loopw [4,5,8] (fun _ _ t wr=> ∃i:Nat,i≤len∧t= .int .i64 i∧T i wr) (fun _ _ t _=>len-(intOf t).toNat)
 case atStart=>exact ⟨0,Nat.zero_le _,rfl,HT.out⟩
 case round=>
  clear HT;obtain ⟨i,hi,rfl,hst⟩:=hrel;have HST:=hid hst;clear hst;by_cases hlt:i<len
  ·have hi0:(0:Int)≤(i:Int):=Qk _;have hi1:(i:Int)<(len:Int):=by omega
   have hcell:=HC.out i wr hlt HST.out;have HCL:=hid (HS.out i wr hlt HST.out);have HEN:=hid (HE.out i hlt);generalize g i=gi at*
   generalize fst i=fi at*
   generalize cp i=ci at*
   go_wp2_with fail;refine Yj HEN.out HCL.out ?_;rintro e w2 ⟨x,rfl,h0,h1⟩;refine ⟨_,rfl,?_⟩;by_cases hx:x=0
   ·subst hx;have H2:=hid (h0 rfl);clear h0 h1;go_wp2;exact ⟨⟨i+1,hlt,by go_num,H2.out⟩,by simp [intOf];omega⟩
   ·have H2:=hid (h1 hx);clear h0 h1;go_wp2;go_ret;exact .inr ⟨x,hx,rfl,H2.out⟩
  ·obtain rfl:i=len:=by omega
   go_wp2;go_ret;exact .inl ⟨rfl,HST.out⟩
def U64 (n:Nat):Value:= .int .u64 (n:Int)
def Q7 (s:List UInt8):Blk:=s++List.replicate (512-s.length) 0
theorem Jh (s:List UInt8) (h:s.length≤512):(Q7 s).length=512:=by
 unfold Q7;rw [List.length_append,List.length_replicate];omega
def Uv:Blk→Nat→List Nat→Blk
 | b,_,[]=>b
 | b,i,n::r=>Uv (Qv b (8*(i+1)) 8 n) (i+1) r
theorem U0: ∀(l:List Nat) (b:Blk) (i n:Nat),Uv b i (l++ [n])=Qv (Uv b i l) (8*(i+l.length+1)) 8 n
 | [],b,i,n=>rfl
 | m::r,b,i,n=>by
   have:=U0 r (Qv b (8*(i+1)) 8 m) (i+1) n;rw [show i+(m::r).length=i+1+r.length from by simp;omega];exact this
theorem JY: ∀(l:List Nat) (b:Blk) (i:Nat),b.length=512→i+l.length≤62→(Uv b i l).length=512
 | [],b,i,h,_=>h
 | m::r,b,i,h,hl=>by
   simp at hl;exact JY r _ _ ((Qu _ _ _ _ (by omega)).trans h) (by omega)
def laidB (s:List UInt8) (ns:List Nat):Blk:=Uv (Q7 s) 0 ns
theorem Qde (s:List UInt8) (ns:List Nat) (i n:Nat) (h:ns[i]?=some n):laidB s (ns.take (i+1))=Qv (laidB s (ns.take i)) (8*(i+1)) 8 n:=by
 obtain ⟨h1,h2⟩:=List.getElem?_eq_some_iff.1 h;unfold laidB;rw [List.take_succ_eq_append_getElem h1,h2,U0,List.length_take,Nat.min_eq_left (by omega),Nat.zero_add]
theorem Qc9 (s:ByteArray) (hs:s.size≤512):(zc.toList.take 0++Lib.byteCells s.data.toList++zc.toList.drop (0+s.size)).toArray=((Q7 s.data.toList).map B8).toArray:=by
 have hl:s.data.toList.length=s.size:=by rw [Array.length_toList];rfl
 unfold Q7;rw [QaH,List.take_zero,List.nil_append,Nat.zero_add,List.drop_replicate,List.map_append,List.map_replicate,hl];rfl
theorem QbM (w:World) (s:ByteArray) (v:Value) (ns:List Nat) (hv:Qcw w v (ns.map U64)) (hs:s.size≤8) (hn:ns.length≤62) (hu: ∀n∈ns,n<18446744073709551616):
 Calls prog 245 #[.string s,v] w fun e w'=>Frm NoB w w'∧∃v',e= .returned v'∧Qc w' v' (laidB s.data.toList ns) (QR w):=by
 obtain ⟨a,cap,rfl,ha⟩:=hv;have HA:=hid ha;have HU:=hid hu;rw [List.length_map];clear ha hu;have hmk:=V1;have hcp:=Lib.run_copy_row_string (P:=prog) (w.alloc (.cells zc 5 (0,0))) 76 9 3 5 w.heap.size 0 512 512 s zc 5 underlying76 (by kernel_rfl) (Qb _ _) (by omega) (by rw [Kv];omega);rw [Qc9 s (by omega),Kx] at hcp;have hsl:s.data.toList.length≤8:=by
  have hl:s.data.toList.length=s.size:=by rw [Array.length_toList];rfl
  omega
 have HSL:=hid hsl;have HTL:=hid (Jh s.data.toList (by omega));go_enter func245,ntmps245;go_wp2_with fail;clear hmk hcp;have HB0:Hid (Qc (w.alloc (.cells ((Q7 s.data.toList).map B8).toArray 5 (0,0))) (.slice (some ⟨w.heap.size,0,none⟩) 512 512) (Q7 s.data.toList) (QR w)):=hid (Qcz w (Q7 s.data.toList) HTL.out);go_loopw [5,6,7,14] (fun tb _ _ ti wr=> ∃i:Nat,i≤ns.length∧ti= .int .i64 i∧Frm NoB w wr∧Qc wr tb (laidB s.data.toList (ns.take i)) (QR w)) (fun _ _ _ ti _=>ns.length-(intOf ti).toNat)
 case atStart=>exact ⟨0,Nat.zero_le _,rfl,(Frm.refl _ _).alloc _,HB0.out⟩
 case round=>
  clear HB0;obtain ⟨i,hi,rfl,hf,hb⟩:=hrel;have HF:=hid hf;have HB:=hid hb;clear hf hb;by_cases hlt:i<ns.length
  ·obtain ⟨x,hx⟩: ∃x,ns[i]?=some x:=⟨_,List.getElem?_eq_getElem hlt⟩;obtain ⟨blk,off,rfl,hb,hcell⟩:=HA.out i (U64 x) (by rw [List.getElem?_map,hx];rfl);have hcell':wr.cell? ⟨blk,off+i,none⟩=some (.int .u64 x):=by
    rw [←show U64 x= .int .u64 x from rfl,←hcell];exact HF.out.cell hb (fun e=>e)
   have hlen:(laidB s.data.toList (ns.take i)).length=512:=JY _ _ _ HTL.out (by rw [List.length_take];omega);have hT:=Qde s.data.toList ns i x hx;have HT:=hid hT;have HP:=hid (YG wr _ _ (8*(i+1)) 8 x (QR w) HB.out (by omega) (by omega) (by omega) (by omega) (HU.out x (List.mem_of_getElem? hx)));obtain ⟨k,hk⟩: ∃k:Nat,8*(i+1)=k:=⟨_,rfl⟩;have hi0:(0:Int)≤(i:Int):=Qk _;have hi1:(i:Int)<(ns.length:Int):=by omega
   have hi2:(ns.length:Int)≤62:=by omega
   have e1:8*((i:Int)+1)=(k:Int):=by omega
   rw [hk] at HP HT;clear hx hcell hlen hT hk hb;go_wp2_with fail;refine HP.out.mono ?_;rintro e w2 ⟨hf2,v2,rfl,hb2⟩;have HF2:=hid (HF.out.trans hf2 (fun _ _ e=>e));have HB2:=hid (hb2.mono (R':=(QR w)) (fun x hx hr=>Nat.le_trans HF.out.size hr));rw [←HT.out] at HB2;clear hf2 hb2;go_wp2
   first | exact ⟨⟨i+1,hlt,by go_num,HF2.out,HB2.out⟩,by simp [intOf];omega⟩ | (go_roundw;case rel=>first | exact ⟨i+1,hlt,by go_num,HF2.out,HB2.out⟩ | ((repeat apply Exists.intro);exact ⟨⟨i+1,hlt,by go_num,HF2.out,HB2.out⟩,rfl⟩);case measure=>simp [intOf];omega)
  ·obtain rfl:i=ns.length:=by omega
   have HB3:=HB.out;rw [List.take_length] at HB3;have HB4:=hid HB3;clear HB3;go_wp2;go_ret;exact ⟨HF.out,_,rfl,HB4.out⟩
def YW:List UInt8:= [66,79,76,76,65,82,68,74]
def UM (b:Blk):Bool:=b.take 8==YW
theorem Ur {w:World} {blk off cap n:Nat} {bs:Blk} {R:Nat→Prop} (h:Qc w (.slice (some ⟨blk,off,none⟩) n cap) bs R) (hl:8≤bs.length) (c2:Nat):
 (convert 76 9 (.slice (some ⟨blk,off,none⟩) 8 c2)).run prog w= .ok (.string ⟨(bs.take 8).toArray⟩) w:=by
 have hlen:(bs.take 8).length=8:=by rw [List.length_take];omega
 obtain ⟨blk',off',cap',e,_,hc,_⟩:=h.cells;injection e with e1 e2 e3
 injection e1 with e1
 injection e1 with e1 e4
 subst e1 e4;have:=run_convert_bytes_back (P:=prog) w 76 9 5 ⟨blk,off,none⟩ c2 (bs.take 8) underlying76 (by kernel_rfl) (by kernel_rfl) (fun j hj=>by
  refine hc j _ ?_;rw [List.getElem?_map,List.getElem_take,List.getElem?_eq_getElem (by omega)];rfl)
 rw [hlen] at this;exact this
theorem Qa1 {w0:Gnd} {w:World} {rs:List Res} (h:St w0 w rs) (i:Nat) {H:Hdl} {D:DSt} (hr:rs[i]?=some (dev H D)) (hn:1≤D.n) (ho:D.ops<4611686018427387904):
 Calls prog 136 #[.pointer (some ⟨H.b,0,none⟩)] w fun e w'=>e= .returned (.tuple #[.int .u64 (getLE (D.last 0) 8 8),.bool (UM (D.last 0))])∧St w0 w' rs:=by
 have HL:=hid (DSt.last_length (h.get hr).wf 0);have H0:=hid (Qhr h i hr 0 (by omega) (by omega) ho);clear h hr ho;go_enter func136,ntmps136;go_wp2_with fail;refine H0.out.mono ?_;clear hn;rintro e w1 ⟨v,rfl,h⟩;have H1:=hid (show St w0 w1 (byt v (D.last 0)::rs) from h);clear h H0;obtain ⟨blk,off,cap,rfl,hcap,_,_⟩:=(H1.out.get (i:=0) rfl).cells;have hcap8:8≤cap:=by have:=HL.out;omega
 have HG:Hid (∀k,Calls prog 225 #[.slice (some ⟨blk,off,none⟩) (D.last 0).length cap,.int .i64 1] (w1.drewN k) fun e w'=>e= .returned (.int .u64 (getLE (D.last 0) 8 8))∧w'=w1.drewN k):=hid fun k=>
  (EK (w1.drewN k) _ _ 1 (Qc.frm0 (H1.out.get (i:=0) rfl) ((Frm.refl NoB w1).drewN k)).sliceOf (by omega) HL.out).mono fun _ _ ⟨a,b⟩=>⟨b,a.symm⟩
 have hst: ∀k c2,(convert 76 9 (.slice (some ⟨blk,off,none⟩) 8 c2)).run prog (w1.drewN k)= .ok (.string ⟨((D.last 0).take 8).toArray⟩) (w1.drewN k):=fun k c2=>
  Ur (Qc.frm0 (H1.out.get (i:=0) rfl) ((Frm.refl NoB w1).drewN k)) (by rw [HL.out];omega) c2
 have hl8:8≤(D.last 0).length:=by rw [HL.out];omega
 generalize (D.last 0).length=n512 at*
 go_wp2_with fail;go_quiet ((go_at_call 225;exact Calls.quiet_of_same (HG.out _)));go_wp2;go_ret2;exact ⟨rfl,(H1.out.frm0 ((Frm.refl NoB w1).drewN _)).drop 1⟩
theorem Qai: ¬U8T (23:TypeId):=by decide
theorem Qdv {w0:Gnd} {w:World} {rs:List Res} (h:St w0 w rs):St w0 (w.alloc (.cells zc 5 (0,0))) (byt (.slice (some ⟨w.heap.size,0,none⟩) 512 512) Qs::rs):=by
 have h1:=h.mkByt ((Frm.refl NoB w).alloc (Kp Qs)) (Qcz w Qs Q6);rw [show Kp Qs= .cells zc 5 (0,0) from by unfold Kp;rw [QgC]] at h1;exact h1
theorem Qbu {w0:Gnd} {w:World} {rs:List Res} (h:St w0 w rs) (a i j:Nat) {H:Hdl} {D:DSt} {bd bi k:Nat} {ht: ¬U8T (23:TypeId)} {ht': ¬U8T (3:TypeId)} (hr:rs[a]?=some (dev H D)) (hd:rs[i]?=some (arr bd #[.pointer (some ⟨H.b,0,none⟩)] 23 ht))
 (hi:rs[j]?=some (arr bi #[.int .i64 k] 3 ht')) (hk:k≤3) (hn:246≤D.n) (ho:D.ops<4611686018427387904) (hoff:D.off=false) (hia:i≠a) (hja:j≠a):
 Calls prog 243 #[.pointer (some ⟨bd,0,none⟩),.pointer (some ⟨bi,0,none⟩)] w fun e w'=>e= .returned (.int .i64 0)∧St w0 w' (rs.set a (dev H (D.op.put (1+61*k) Qs))):=by
 have H0:=hid h;have c1:w.cell? ⟨bd,0,none⟩=some (.pointer (some ⟨H.b,0,none⟩)):=(h.arrCell hd 0).trans rfl;have c2:w.cell? ⟨bi,0,none⟩=some (.int .i64 k):=(h.arrCell hi 0).trans rfl;have KA:Hid (∀y,Frm NoB w y→y.cell? ⟨bd,0,none⟩=some (.pointer (some ⟨H.b,0,none⟩))∧y.cell? ⟨bi,0,none⟩=some (.int .i64 k)):=hid fun y hy=>
  ⟨((h.frm0 hy).arrCell hd 0).trans rfl,((h.frm0 hy).arrCell hi 0).trans rfl⟩
 have KB:Hid (∀y v X,St w0 y ((v::rs).set (a+1) X)→y.cell? ⟨bd,0,none⟩=some (.pointer (some ⟨H.b,0,none⟩))∧y.cell? ⟨bi,0,none⟩=some (.int .i64 k)):=hid fun y v X hy=>
  ⟨(hy.arrCell (i:=i+1) (by rw [List.getElem?_set_ne (by omega),List.getElem?_cons_succ];exact hd) 0).trans rfl,(hy.arrCell (i:=j+1) (by rw [List.getElem?_set_ne (by omega),List.getElem?_cons_succ];exact hi) 0).trans rfl⟩
 have hk0:(0:Int)≤(k:Int):=Qk _;have hk1:(k:Int)≤3:=by omega
 have hmk:=V1;clear h;go_enter func243,ntmps243;go_wp2_with fail;clear c1 c2;go_region_held3 (fun y=>y.cell? ⟨bd,0,none⟩=some (.pointer (some ⟨H.b,0,none⟩))∧y.cell? ⟨bi,0,none⟩=some (.int .i64 k))
  (first | exact hS5 | (refine KA.out _ ?_;first | assumption | exact (Frm.refl NoB w).drew | exact ((Frm.refl NoB w).alloc _).drew | exact (Frm.refl NoB w).alloc _ | exact Frm.alloc (by assumption) _ | exact ⟨rfl,rfl,rfl,Nat.le_refl _,fun _ _ _=>rfl⟩))
  (first
   | (go_at_call 140;refine (E8 w.drew (k:Int) 0 hk0 (by omega) (by omega) (by omega)).mono ?_;rintro e w3 ⟨hf3,rfl⟩;have hf3':Frm NoB w w3:=((Frm.refl NoB w).drew).trans hf3 (fun _ _ e=>e))
   | (go_at_call 140;refine (E8 (w.alloc (.cells zc 5 (0,0))).drew (k:Int) 0 hk0 (by omega) (by omega) (by omega)).mono ?_;rintro e w3 ⟨hf3,rfl⟩;have hf3':Frm NoB w w3:=(((Frm.refl NoB w).alloc _).drew).trans hf3 (fun _ _ e=>e);have hB:=(Qdv H0.out).frm0 (((Frm.refl NoB _).drew).trans hf3 (fun _ _ e=>e)))
   | (go_at_call 227;refine (OX hB (a+1) 0 hr rfl (1+(k:Int)*61) ho hoff (by omega) (by omega) Q6).mono ?_;rintro e w5 ⟨rfl,h5⟩;have hS5:=KB.out _ _ _ h5)
   | (go_at_call 227;refine (OX (Qdv (H0.out.frm0 hf3')) (a+1) 0 hr rfl (1+(k:Int)*61) ho hoff (by omega) (by omega) Q6).mono ?_;rintro e w5 ⟨rfl,h5⟩;have hS5:=KB.out _ _ _ h5))
 all_goals
  have e:((1+(k:Int)*61)).toNat=1+61*k:=by omega
  rw [e] at h5;have H5:=hid (h5.drop 1);clear h5 hS5;go_wp2;go_ret;exact ⟨rfl,H5.out⟩
theorem JC: ¬U8T (101:TypeId):=by decide
theorem QdP (w:World) (n:Nat):Qcw (w.alloc (.cells #[.int .u64 (n:Int)] 101 (0,0))) (.slice (some ⟨w.heap.size,0,none⟩) 1 1) ([n].map U64):=
 ⟨_,_,rfl,fun i x hx=>by
  obtain ⟨h1,h2⟩:=List.getElem?_eq_some_iff.1 hx;obtain rfl:i=0:=by simpa using h1
  exact ⟨_,_,rfl,lt_of_block (Qb _ _),by rw [Qa (Qb _ _),←h2];rfl⟩⟩
theorem QiI {w0:Gnd} {w:World} {rs:List Res} (h:St w0 w rs) (n:Nat) (hn:n<18446744073709551616):
 Calls prog 245 #[.string { data:= #[66,79,76,76,65,82,68,74] },.slice (some ⟨w.heap.size,0,none⟩) 1 1] (w.alloc (.cells #[.int .u64 (n:Int)] 101 (0,0))) fun e w'=> ∃v,e= .returned v∧St w0 w' (byt v (laidB YW [n])::rs):=
 (QbM _ { data:= #[66,79,76,76,65,82,68,74] } _ [n] (QdP w n) (by decide) (by simp) (fun x hx=>by simp at hx;omega)).mono fun _ _ ⟨hf,v,e,hb⟩=>
  ⟨v,e,h.mkByt (((Frm.refl NoB w).alloc _).trans hf (fun _ _ e=>e)) (hb.fresh ((Frm.refl NoB w).alloc _).size)⟩
theorem Qjw {w0:Gnd} {w:World} {rs:List Res} (h:St w0 w rs) (a i j:Nat) {H:Hdl} {D:DSt} {bd bg g:Nat} {ht: ¬U8T (23:TypeId)} {ht': ¬U8T (101:TypeId)} (hr:rs[a]?=some (dev H D)) (hd:rs[i]?=some (arr bd #[.pointer (some ⟨H.b,0,none⟩)] 23 ht))
 (hi:rs[j]?=some (arr bg #[.int .u64 g] 101 ht')) (hg:g<18446744073709551615) (hn:246≤D.n) (ho:D.ops<4611686018427387904) (hoff:D.off=false) (hia:i≠a) (hja:j≠a):
 Calls prog 244 #[.pointer (some ⟨bd,0,none⟩),.pointer (some ⟨bg,0,none⟩)] w fun e w'=>e= .returned (.int .i64 0)∧St w0 w' (rs.set a (dev H (D.op.put 0 (laidB YW [g+1])))):=by
 have H0:=hid h;have KA:Hid (∀y,Frm NoB w y→y.cell? ⟨bd,0,none⟩=some (.pointer (some ⟨H.b,0,none⟩))∧y.cell? ⟨bg,0,none⟩=some (.int .u64 g)):=hid fun y hy=>
  ⟨((h.frm0 hy).arrCell hd 0).trans rfl,((h.frm0 hy).arrCell hi 0).trans rfl⟩
 have c1:=(KA.out w (Frm.refl _ _)).1;have c2:=(KA.out w (Frm.refl _ _)).2;have KB:Hid (∀y v X,St w0 y ((v::rs).set (a+1) X)→y.cell? ⟨bd,0,none⟩=some (.pointer (some ⟨H.b,0,none⟩))∧y.cell? ⟨bg,0,none⟩=some (.int .u64 g)):=hid fun y v X hy=>
  ⟨(hy.arrCell (i:=i+1) (by rw [List.getElem?_set_ne (by omega),List.getElem?_cons_succ];exact hd) 0).trans rfl,(hy.arrCell (i:=j+1) (by rw [List.getElem?_set_ne (by omega),List.getElem?_cons_succ];exact hi) 0).trans rfl⟩
 have KC:Hid (∀y v,St w0 y (v::rs)→y.cell? ⟨bd,0,none⟩=some (.pointer (some ⟨H.b,0,none⟩))∧y.cell? ⟨bg,0,none⟩=some (.int .u64 g)):=hid fun y v hy=>
  ⟨(hy.arrCell (i:=i+1) hd 0).trans rfl,(hy.arrCell (i:=j+1) hi 0).trans rfl⟩
 have HGG:=hid hg;have hg0:(0:Int)≤(g:Int):=Qk _;have hgw:IntKind.u64.wrap ((g:Int)+1)=(g:Int)+1:=u64_in (by omega) (by omega);clear h hg;go_enter func244,ntmps244;go_wp2_with fail;clear c1 c2;go_region_held3 (fun y=>y.cell? ⟨bd,0,none⟩=some (.pointer (some ⟨H.b,0,none⟩))∧y.cell? ⟨bg,0,none⟩=some (.int .u64 g))
  (first | exact hS5 | exact hS4 | (refine KA.out _ ?_;first | assumption | exact (Frm.refl NoB w).drew | exact ((Frm.refl NoB w).drew).alloc _ | exact (Frm.refl NoB w).alloc _ | exact ⟨rfl,rfl,rfl,Nat.le_refl _,fun _ _ _=>rfl⟩))
  (first
   | (go_at_call 245;refine (QiI (H0.out.frm0 ((Frm.refl NoB w).drew)) (g+1) (by have:=HGG.out;omega)).mono ?_;rintro e w3 ⟨v3,rfl,h3⟩;have hS4:=KC.out _ _ h3)
   | (go_at_call 227;refine (OX h3 (a+1) 0 hr rfl 0 ho hoff (by omega) (by omega) (JY _ _ _ (Jh _ (by decide)) (by simp))).mono ?_;rintro e w5 ⟨rfl,h5⟩;have hS5:=KB.out _ _ _ h5))
 all_goals
  have H5:=hid (h5.drop 1);clear h5 hS5;go_wp2;go_ret;exact ⟨rfl,H5.out⟩
theorem Qix:(prog.info? 3).map (fun i=>(i.zero,i.size,i.bytes))=some (some (.int .i64 0),1,8):=by kernel_rfl
theorem Jj: ¬U8T (3:TypeId):=by decide
theorem Js {w w':World} {base:Nat} {e:TypeId} {s:Nat} {v:Value} {n:Nat} {xs:List Value} (h:w.ownsRow base e s v n xs) (hb: ∀g,v.ownBlock=some g→w'.heap[g]?=w.heap[g]?):w'.ownsRow base e s v n xs:=by
 refine ⟨h.1,?_⟩;rcases h.2 with hn | ⟨g,cap,cur,rfl,h1,h2,h3⟩
 ·exact .inl hn
 ·exact .inr ⟨g,cap,cur,rfl,h1,(hb g rfl).trans h2,h3⟩
theorem W9 {w:World} {base:Nat} {v:Value} {l:List Int} (h:w.ownsRow base 3 1 v l.length (l.map JX)):Qcw w v (l.map JX):=by
 rcases h.2 with ⟨rfl,hl⟩ | ⟨g,cap,cur,rfl,_,h2,_,_,_,ht⟩
 ·obtain rfl:=List.eq_nil_of_length_eq_zero hl;exact ⟨none,0,rfl,fun i x hx=>by simp at hx⟩
 ·refine ⟨some ⟨g,0,none⟩,cap,by rw [List.length_map],fun i x hx=>⟨g,0,rfl,lt_of_block h2,?_⟩⟩;rw [Qa h2,Nat.zero_add];have h3:(cur.toList.take (l.length*1))[i]?=some x:=by rw [ht];exact hx
  rw [List.getElem?_take] at h3;split at h3
  ·rw [←Array.getElem?_toList];exact h3
  ·cases h3
theorem Qbs:(prog.info? 100).map (fun i=>(i.zero,i.size,i.bytes))=some (some .nilFunc,1,8):=by kernel_rfl
theorem J6: ¬U8T (100:TypeId):=by decide
def Kj (v:Value) (xs:List Value):Res where
 M:=fun x=>v.ownBlock=some x
 inv:=fun Z w=>w.ownsRow 0 100 1 v xs.length xs
 lt:=fun Z w H x hx=>(H.lt x hx).2
 dry:=fun Z w H x hx c' e=>by
  rcases H.2 with ⟨rfl,_⟩ | ⟨g,cap,cur,rfl,_,h2,_⟩
  ·cases hx
  ·obtain rfl:g=x:=by simpa [Value.ownBlock] using hx
   exact Yf h2 J6 _ e
 keep:=fun Z w w' N H hf hd ha=>Js H (fun g hg=>hf.block g (H.lt g hg).2 (ha g hg))
 zone:=fun Z Z' w H _ _=>H
theorem St.fnNil {w0:Gnd} {w:World} {rs:List Res} (h:St w0 w rs):St w0 w (Kj (.slice none 0 0) []::rs):=
 h.make (Frm.refl _ _) (Kj _ _) (World.ownsRow_nil _ _ _ _) (fun _ hx=>by cases hx)
theorem St.fnAppend {w0:Gnd} {w:World} {rs:List Res} (h:St w0 w rs) (i:Nat) {v:Value} {xs:List Value} (hr:rs[i]?=some (Kj v xs)) (o:Obj) {v':Value} {w':World} {news:List Value}
 (ho:w'.ownsRow 0 100 1 v' (xs.length+news.length) (xs++news)) (hg:(w.alloc o).grownBy w' v.ownBlock) (hat:v'.ownBlock=v.ownBlock∨v'.ownBlock=some (w.alloc o).heap.size):
 St w0 w' (rs.set i (Kj v' (xs++news))):=by
 refine h.write i hr (((Frm.refl (Kj v xs).M w).alloc o).trans (Frm.ofGrown hg) (fun y _ e=>e)) (Kj v' (xs++news)) (by show w'.ownsRow _ _ _ _ (xs++news).length _;rw [List.length_append];exact ho) (fun x hx=>?_);rcases hat with e | e
 ·exact .inl (show v.ownBlock=some x from e▸(show v'.ownBlock=some x from hx))
 ·have hx:v'.ownBlock=some x:=hx;rw [e] at hx;have e':(w.alloc o).heap.size=x:=by injection hx
  have:=((Frm.refl NoB w).alloc o).size;exact .inr (by omega)
theorem St.perm {w0:Gnd} {w:World} {rs rs':List Res} (h:St w0 w rs) (hp:rs.Perm rs'):St w0 w rs':=
 ⟨h.base,h.zin,fun r hr=>h.inv r (hp.mem_iff.2 hr),fun r hr=>h.new r (hp.mem_iff.2 hr),(hp.pairwise_iff (fun h x ha hb=>h x hb ha)).1 h.apart⟩
def WU:List Nat→List Res
 | []=> []
 | b::r=>arr b #[.int .i64 (r.length:Int)] 3 Jj::WU r
theorem St.capMore {w0:Gnd} {w:World} {a:Res} {bl:List Nat} {rs:List Res} (h:St w0 w (a::(WU bl++rs))) {z:Int} (hz:z=bl.length):St w0 (w.alloc (.cells #[.int .i64 z] 3 (0,0))) (a::(WU (w.heap.size::bl)++rs)):=by
 subst hz;exact (h.newArr #[.int .i64 (bl.length:Int)] 3 Jj).perm (List.Perm.swap _ _ _)
def Oq (bd:Nat):List Nat→List Value
 | []=> []
 | b::r=>Oq bd r++ [.func (.func 243) #[] #[.pointer (some ⟨bd,0,none⟩),.pointer (some ⟨b,0,none⟩)]]
theorem Ka (bd:Nat): ∀l,(Oq bd l).length=l.length
 | []=>rfl
 | b::r=>by rw [Oq,List.length_append,Ka bd r];rfl
def VW (g i:Nat) (E:DSt):DSt:=if i<4 then E.op.put (1+61*i) Qs else if i=5 then E.op.put 0 (laidB YW [g+1]) else E.op.flushed
def YB (D:DSt) (g:Nat):Nat→DSt
 | 0=>D
 | i+1=>VW g i (YB D g i)
theorem OY (D:DSt) (g:Nat) (hl:D.lim=none): ∀i,(YB D g i).n=D.n∧(YB D g i).ops=D.ops+i∧(YB D g i).lim=none
 | 0=>⟨rfl,rfl,hl⟩
 | i+1=>by
   obtain ⟨h1,h2,h3⟩:=OY D g hl i;have h0:(YB D g i).lim.map (· -1)=none:=by rw [h3];rfl
   have h4:(YB D g i).ops+1=D.ops+(i+1):=by omega
   unfold YB VW;split
   ·exact ⟨h1,h4,h0⟩
   ·split
    ·exact ⟨h1,h4,h0⟩
    ·exact ⟨h1,h4,h0⟩
theorem O1:QE prog 243:=QJ func243 (by kernel_rfl) rfl
theorem QiV:QE prog 244:=QJ func244 (by kernel_rfl) rfl
theorem UA:QE prog 143:=QJ func143 (by kernel_rfl) rfl
theorem Qf6 {w0:Gnd} {w:World} {rs:List Res} (h:St w0 w rs) (a:Nat) {H:Hdl} {D:DSt} (hr:rs[a]?=some (dev H D)) (hn:246≤D.n) (ho:D.ops<1000000) (hlim:D.lim=none) (hm:UM (D.last 0)=false) (hg:getLE (D.last 0) 8 8<18446744073709551615):
 Calls prog 175 #[.pointer (some ⟨H.b,0,none⟩)] w fun e w'=>e= .returned (.int .i64 0)∧St w0 w' (rs.set a (dev H (YB D (getLE (D.last 0) 8 8) 7))):=by
 obtain ⟨g,hgg⟩: ∃g,getLE (D.last 0) 8 8=g:=⟨_,rfl⟩;have HD:=hid (h.newArr #[.pointer (some ⟨H.b,0,none⟩)] 23 Qai);have c1:=HD.out.arrCell (i:=0) rfl 0;have c1:(w.alloc (.cells #[.pointer (some ⟨H.b,0,none⟩)] 23 (0,0))).cell? ⟨w.heap.size,0,none⟩=some (.pointer (some ⟨H.b,0,none⟩)):=c1;have HB:=hid (Kk HD.out (a+1) hr);have HFI:=hid (Qa1 HD.out (a+1) hr (by omega) (by omega));rw [hgg,hm] at HFI;rw [hgg] at hg ⊢;have hn': ¬(D.n:Int)<246:=by omega
 have HG:=hid hg;have HLIM:=hid hlim;clear hgg hm hg h hlim;go_enter func175,ntmps175;go_wp2_with fail;refine HB.out.mono ?_;rintro e w2 ⟨rfl,rfl⟩;go_wp2_with fail;refine HFI.out.mono ?_;rintro e w3 ⟨rfl,h3⟩;have H3:=hid h3;clear h3 HD HB HFI c1;generalize w.heap.size=bd at*
 go_wp2_with fail;have H4:=hid ((H3.out.newArr #[.int .u64 (g:Int)] 101 JC).fnNil);clear H3;generalize w3.heap.size=bg at*
 go_loopw [5,6,17] (fun v _ t wr=> ∃bl:List Nat,bl.length≤4∧t= .int .i64 bl.length∧St w0 wr (Kj v (Oq bd bl)::(WU bl++(arr bg #[.int .u64 (g:Int)] 101 JC::arr bd #[.pointer (some ⟨H.b,0,none⟩)] 23 Qai::rs)))) (fun _ _ t _=>4-(intOf t).toNat)
 case atStart=>exact ⟨[],Nat.zero_le _,rfl,H4.out⟩
 case round=>
  clear H4;obtain ⟨bl,hbl,rfl,hst⟩:=hrel;have HST:=hid hst;clear hst;by_cases hlt:bl.length<4
  ·have hi0:(0:Int)≤(bl.length:Int):=Qk _;have hi1:(bl.length:Int)<4:=by omega
   have H5:=hid (HST.out.capMore (z:=(bl.length:Int)) rfl);have HO:=hid (World.ownsRow.alloc (H5.out.get (i:=0) rfl) (.cells #[.func (.func 243) #[] #[.pointer (some ⟨bd,0,none⟩),.pointer (some ⟨wr.heap.size,0,none⟩)]] 100 (0,0)));have hxl:=Ka bd bl;obtain ⟨ii,hi0i,hz0,hz1,hz2⟩:=info_parts Qbs;have HN:Hid (∀(j:Nat) u,[Value.func (.func 243) #[] #[.pointer (some ⟨bd,0,none⟩),.pointer (some ⟨wr.heap.size,0,none⟩)]][j]?=some u→((wr.alloc (.cells #[.int .i64 (bl.length:Int)] 3 (0,0))).alloc (.cells #[.func (.func 243) #[] #[.pointer (some ⟨bd,0,none⟩),.pointer (some ⟨wr.heap.size,0,none⟩)]] 100 (0,0))).cell? ((⟨wr.heap.size+1,0,none⟩:Addr).add j)=some u):=hid fun j u hj=>by
    obtain ⟨h1,h2⟩:=List.getElem?_eq_some_iff.1 hj;obtain rfl:j=0:=by simp at h1;exact h1
    have e:wr.heap.size+1=(wr.alloc (.cells #[.int .i64 (bl.length:Int)] 3 (0,0))).heap.size:=(size_alloc _ _).symm;rw [show ((⟨wr.heap.size+1,0,none⟩:Addr).add 0)=⟨wr.heap.size+1,0,none⟩ from rfl,e,Qa (Qb _ _),←h2];rfl
   have hmf: ∀(fn:Fn) (first cap:Array Value) (W:World),(Instr.makeFunc fn first cap).run prog W= .ok (.func fn first cap) W:=fun _ _ _ _=>rfl
   go_wp2_with (at_builtin;refine wpList_append_own_at _ rfl _ _ 171 rfl 0 100 ii .nilFunc 1 8 underlying171 hi0i hz0 hz1 hz2 rfl (by decide) _ _ _ rfl HO.out ⟨wr.heap.size+1,0,none⟩ 1 1 [.func (.func 243) #[] #[.pointer (some ⟨bd,0,none⟩),.pointer (some ⟨wr.heap.size,0,none⟩)]] rfl rfl HN.out ?c0 ?c1 ?c2 ?c3 ?_)
   case c0=>intro u hu;simp at hu;subst hu;rfl
   case c1=>simp only [maxLen];omega
   case c2=>omega
   case c3=>omega
   intro v' w6 ho hg2 hnn hat;have h7:=H5.out.fnAppend 0 rfl (.cells #[.func (.func 243) #[] #[.pointer (some ⟨bd,0,none⟩),.pointer (some ⟨wr.heap.size,0,none⟩)]] 100 (0,0)) (news:= [.func (.func 243) #[] #[.pointer (some ⟨bd,0,none⟩),.pointer (some ⟨wr.heap.size,0,none⟩)]]) (by rw [hxl];exact ho) hg2 (by rw [size_alloc,size_alloc];first | exact hat | (rw [size_alloc,size_alloc] at hat;exact hat));have H7:=hid (show St w0 w6 (Kj v' (Oq bd (wr.heap.size::bl))::(WU (wr.heap.size::bl)++(arr bg #[.int .u64 (g:Int)] 101 JC::arr bd #[.pointer (some ⟨H.b,0,none⟩)] 23 Qai::rs))) from h7);clear ho hg2 hnn hat h7;go_wp2
   first | exact ⟨⟨wr.heap.size::bl,hlt,by go_num,H7.out⟩,by simp [intOf];omega⟩ | (go_roundw;case rel=>first | exact ⟨wr.heap.size::bl,hlt,by go_num,H7.out⟩ | ((repeat apply Exists.intro);exact ⟨⟨wr.heap.size::bl,hlt,by go_num,H7.out⟩,rfl⟩);case measure=>simp [intOf];omega)
  ·have hi1: ¬(bl.length:Int)<4:=by omega
   have hmf: ∀(fn:Fn) (first cap:Array Value) (W:World),(Instr.makeFunc fn first cap).run prog W= .ok (.func fn first cap) W:=fun _ _ _ _=>rfl
   obtain ⟨pd,hpd⟩: ∃pd,WU bl++(arr bg #[.int .u64 (g:Int)] 101 JC::arr bd #[.pointer (some ⟨H.b,0,none⟩)] 23 Qai::rs)=pd:=⟨_,rfl⟩;have hcd:wr.cell? ⟨bd,0,none⟩=some (.pointer (some ⟨H.b,0,none⟩)):=
    ((HST.out.arrCell (i:=1+(WU bl).length+1) (b:=bd) (c:= #[.pointer (some ⟨H.b,0,none⟩)]) (t:=23) (ht:=Qai) (by
      rw [show 1+(WU bl).length+1=((WU bl).length+1)+1 from by omega,List.getElem?_cons_succ,List.getElem?_append_right (by omega),show (WU bl).length+1-(WU bl).length=1 from by omega];rfl) 0).trans rfl)
   clear hpd;have hxl:=Ka bd bl;have hbl4:bl.length=4:=by omega
   have HO:=hid (World.ownsRow.alloc (HST.out.get (i:=0) rfl) (.cells #[.func (.func 143) #[.pointer (some ⟨H.b,0,none⟩)] #[],.func (.func 244) #[] #[.pointer (some ⟨bd,0,none⟩),.pointer (some ⟨bg,0,none⟩)],.func (.func 143) #[.pointer (some ⟨H.b,0,none⟩)] #[]] 100 (0,0)));have HN:Hid (∀(j:Nat) u,(([.func (.func 143) #[.pointer (some ⟨H.b,0,none⟩)] #[],.func (.func 244) #[] #[.pointer (some ⟨bd,0,none⟩),.pointer (some ⟨bg,0,none⟩)],.func (.func 143) #[.pointer (some ⟨H.b,0,none⟩)] #[]]:List Value))[j]?=some u→(wr.alloc (.cells #[.func (.func 143) #[.pointer (some ⟨H.b,0,none⟩)] #[],.func (.func 244) #[] #[.pointer (some ⟨bd,0,none⟩),.pointer (some ⟨bg,0,none⟩)],.func (.func 143) #[.pointer (some ⟨H.b,0,none⟩)] #[]] 100 (0,0))).cell? ((⟨wr.heap.size,0,none⟩:Addr).add j)=some u):=hid fun j u hj=>by
    have e:((⟨wr.heap.size,0,none⟩:Addr).add j)=⟨wr.heap.size,j,none⟩:=by unfold Addr.add;split<;>simp_all
    rw [e,Qa (Qb _ _),←Array.getElem?_toList];exact hj
   obtain ⟨ii,hi0i,hz0,hz1,hz2⟩:=info_parts Qbs;go_wp2_with (at_builtin;refine wpList_append_own_at _ rfl _ _ 171 rfl 0 100 ii .nilFunc 1 8 underlying171 hi0i hz0 hz1 hz2 rfl (by decide) _ _ _ rfl HO.out ⟨wr.heap.size,0,none⟩ 3 3 [.func (.func 143) #[.pointer (some ⟨H.b,0,none⟩)] #[],.func (.func 244) #[] #[.pointer (some ⟨bd,0,none⟩),.pointer (some ⟨bg,0,none⟩)],.func (.func 143) #[.pointer (some ⟨H.b,0,none⟩)] #[]] rfl rfl HN.out ?c0 ?c1 ?c2 ?c3 ?_)
   case c0=>exact ⟨rfl,rfl,rfl⟩
   case c1=>simp only [maxLen];omega
   try case c2=>omega
   try case c3=>omega
   intro v' w6 ho hg2 hnn hat;have H7:=hid (HST.out.fnAppend 0 rfl (.cells #[.func (.func 143) #[.pointer (some ⟨H.b,0,none⟩)] #[],.func (.func 244) #[] #[.pointer (some ⟨bd,0,none⟩),.pointer (some ⟨bg,0,none⟩)],.func (.func 143) #[.pointer (some ⟨H.b,0,none⟩)] #[]] 100 (0,0)) (news:= [.func (.func 143) #[.pointer (some ⟨H.b,0,none⟩)] #[],.func (.func 244) #[] #[.pointer (some ⟨bd,0,none⟩),.pointer (some ⟨bg,0,none⟩)],.func (.func 143) #[.pointer (some ⟨H.b,0,none⟩)] #[]]) (by rw [hxl,hbl4];exact ho) hg2 (by rw [size_alloc];exact hat));have HNE:Hid (v'≠ .slice none 0 0):=hid (by first | exact hnn | exact fun e=>by have:=(hnn.1 e).2;omega);clear ho hg2 hnn hat HO HN HST hxl hi1 hcd;go_wp2_with fail
   match bl,hbl4 with
   | [b3,b2,b1,b0],_=>
   have H8:=H7.out;obtain ⟨XS,hXS⟩: ∃XS,Oq bd [b3,b2,b1,b0]++ [.func (.func 143) #[.pointer (some ⟨H.b,0,none⟩)] #[],.func (.func 244) #[] #[.pointer (some ⟨bd,0,none⟩),.pointer (some ⟨bg,0,none⟩)],.func (.func 143) #[.pointer (some ⟨H.b,0,none⟩)] #[]]=XS:=⟨_,rfl⟩;rw [hXS] at H8;have hlen:XS.length=7:=by rw [←hXS];rfl
   have hgetX: ∀i,i<7→XS[i]?=some (.func (.func ([243,243,243,243,143,244,143].getD i 0)) ([#[],#[],#[],#[],#[.pointer (some ⟨H.b,0,none⟩)],#[],#[.pointer (some ⟨H.b,0,none⟩)]].getD i #[]) ([#[.pointer (some ⟨bd,0,none⟩),.pointer (some ⟨b0,0,none⟩)],#[.pointer (some ⟨bd,0,none⟩),.pointer (some ⟨b1,0,none⟩)],#[.pointer (some ⟨bd,0,none⟩),.pointer (some ⟨b2,0,none⟩)],#[.pointer (some ⟨bd,0,none⟩),.pointer (some ⟨b3,0,none⟩)],#[],#[.pointer (some ⟨bd,0,none⟩),.pointer (some ⟨bg,0,none⟩)],#[]].getD i #[])):=fun i hi=>by
    rw [←hXS];rcases (by omega:i=0∨i=1∨i=2∨i=3∨i=4∨i=5∨i=6) with rfl | rfl | rfl | rfl | rfl | rfl | rfl<;>rfl
   clear hXS;obtain ⟨gb,gc,rfl⟩: ∃gb gc,v'= .slice (some ⟨gb,0,none⟩) 7 gc:=by
    have ho:w6.ownsRow 0 100 1 v' XS.length XS:=H8.get (i:=0) rfl;rcases ho.2 with h | ⟨gb,gc,_,h,_⟩
    ·exact absurd h.1 HNE.out
    ·exact ⟨gb,gc,by rw [h,hlen]⟩
   obtain ⟨ha1,ha2⟩:=List.getElem?_eq_some_iff.1 hr;have hok:=OY D g HLIM.out;have hdev: ∀X:Res,(rs.set a X)[a]?=some X:=fun X=>List.getElem?_set_self ha1
   have hrs:rs.set a (dev H D)=rs:=by rw [←ha2];exact List.set_getElem_self ha1
   have hnext: ∀(W:World) (i:Nat) (X:Res),X=dev H (YB D g (i+1))→St w0 W ((Kj (.slice (some ⟨gb,0,none⟩) 7 gc) XS::arr b3 #[.int .i64 ((3:Nat):Int)] 3 Jj::arr b2 #[.int .i64 ((2:Nat):Int)] 3 Jj::arr b1 #[.int .i64 ((1:Nat):Int)] 3 Jj::arr b0 #[.int .i64 ((0:Nat):Int)] 3 Jj::arr bg #[.int .u64 (g:Int)] 101 JC::arr bd #[.pointer (some ⟨H.b,0,none⟩)] 23 Qai::rs.set a (dev H (YB D g i))).set (a+7) X)→St w0 W (Kj (.slice (some ⟨gb,0,none⟩) 7 gc) XS::arr b3 #[.int .i64 ((3:Nat):Int)] 3 Jj::arr b2 #[.int .i64 ((2:Nat):Int)] 3 Jj::arr b1 #[.int .i64 ((1:Nat):Int)] 3 Jj::arr b0 #[.int .i64 ((0:Nat):Int)] 3 Jj::arr bg #[.int .u64 (g:Int)] 101 JC::arr bd #[.pointer (some ⟨H.b,0,none⟩)] 23 Qai::rs.set a (dev H (YB D g (i+1)))):=fun W i X hX h=>by
    subst hX;have h':St w0 W (Kj (.slice (some ⟨gb,0,none⟩) 7 gc) XS::arr b3 #[.int .i64 ((3:Nat):Int)] 3 Jj::arr b2 #[.int .i64 ((2:Nat):Int)] 3 Jj::arr b1 #[.int .i64 ((1:Nat):Int)] 3 Jj::arr b0 #[.int .i64 ((0:Nat):Int)] 3 Jj::arr bg #[.int .u64 (g:Int)] 101 JC::arr bd #[.pointer (some ⟨H.b,0,none⟩)] 23 Qai::(rs.set a (dev H (YB D g i))).set a (dev H (YB D g (i+1)))):=h;rw [List.set_set] at h';exact h'
   refine (E9 w6 gb 0 7 gc (fun i W=>St w0 W (Kj (.slice (some ⟨gb,0,none⟩) 7 gc) XS::arr b3 #[.int .i64 ((3:Nat):Int)] 3 Jj::arr b2 #[.int .i64 ((2:Nat):Int)] 3 Jj::arr b1 #[.int .i64 ((1:Nat):Int)] 3 Jj::arr b0 #[.int .i64 ((0:Nat):Int)] 3 Jj::arr bg #[.int .u64 (g:Int)] 101 JC::arr bd #[.pointer (some ⟨H.b,0,none⟩)] 23 Qai::rs.set a (dev H (YB D g i)))) (fun _ _=>False) (fun i=> [243,243,243,243,143,244,143].getD i 0) (fun i=> [#[],#[],#[],#[],#[.pointer (some ⟨H.b,0,none⟩)],#[],#[.pointer (some ⟨H.b,0,none⟩)]].getD i #[]) (fun i=> [#[.pointer (some ⟨bd,0,none⟩),.pointer (some ⟨b0,0,none⟩)],#[.pointer (some ⟨bd,0,none⟩),.pointer (some ⟨b1,0,none⟩)],#[.pointer (some ⟨bd,0,none⟩),.pointer (some ⟨b2,0,none⟩)],#[.pointer (some ⟨bd,0,none⟩),.pointer (some ⟨b3,0,none⟩)],#[],#[.pointer (some ⟨bd,0,none⟩),.pointer (some ⟨bg,0,none⟩)],#[]].getD i #[]) ?_ ?_ ?_ (by omega) ?_).mono ?_
   ·show St w0 w6 (Kj (.slice (some ⟨gb,0,none⟩) 7 gc) XS::arr b3 #[.int .i64 ((3:Nat):Int)] 3 Jj::arr b2 #[.int .i64 ((2:Nat):Int)] 3 Jj::arr b1 #[.int .i64 ((1:Nat):Int)] 3 Jj::arr b0 #[.int .i64 ((0:Nat):Int)] 3 Jj::arr bg #[.int .u64 (g:Int)] 101 JC::arr bd #[.pointer (some ⟨H.b,0,none⟩)] 23 Qai::rs.set a (dev H (D)));rw [hrs];exact H8
   ·intro i W hi hT;have ho:W.ownsRow 0 100 1 (.slice (some ⟨gb,0,none⟩) 7 gc) XS.length XS:=hT.get (i:=0) rfl;have h1:=ho.cells (g:=gb) rfl i _ (hgetX i hi);rw [show (⟨gb,0,none⟩:Addr).add i=⟨gb,0+i,none⟩ from by unfold Addr.add;split<;>simp_all] at h1;exact h1
   ·intro i hi;rcases (by omega:i=0∨i=1∨i=2∨i=3∨i=4∨i=5∨i=6) with rfl | rfl | rfl | rfl | rfl | rfl | rfl
    ·exact O1
    ·exact O1
    ·exact O1
    ·exact O1
    ·exact UA
    ·exact QiV
    ·exact UA
   ·intro i W hi hT;rcases (by omega:i=0∨i=1∨i=2∨i=3∨i=4∨i=5∨i=6) with rfl | rfl | rfl | rfl | rfl | rfl | rfl
    ·exact (Qbu (k:=0) hT (a+7) 6 4 (hdev _) rfl rfl (by omega) (by rw [(hok 0).1];exact hn) (by rw [(hok 0).2.1];omega) (Yk (hok 0).2.2) (by omega) (by omega)).mono fun _ _ ⟨e,h⟩=>⟨0,e,fun _=>hnext _ 0 _ rfl h,fun h=>absurd rfl h⟩
    ·exact (Qbu (k:=1) hT (a+7) 6 3 (hdev _) rfl rfl (by omega) (by rw [(hok 1).1];exact hn) (by rw [(hok 1).2.1];omega) (Yk (hok 1).2.2) (by omega) (by omega)).mono fun _ _ ⟨e,h⟩=>⟨0,e,fun _=>hnext _ 1 _ rfl h,fun h=>absurd rfl h⟩
    ·exact (Qbu (k:=2) hT (a+7) 6 2 (hdev _) rfl rfl (by omega) (by rw [(hok 2).1];exact hn) (by rw [(hok 2).2.1];omega) (Yk (hok 2).2.2) (by omega) (by omega)).mono fun _ _ ⟨e,h⟩=>⟨0,e,fun _=>hnext _ 2 _ rfl h,fun h=>absurd rfl h⟩
    ·exact (Qbu (k:=3) hT (a+7) 6 1 (hdev _) rfl rfl (by omega) (by rw [(hok 3).1];exact hn) (by rw [(hok 3).2.1];omega) (Yk (hok 3).2.2) (by omega) (by omega)).mono fun _ _ ⟨e,h⟩=>⟨0,e,fun _=>hnext _ 3 _ rfl h,fun h=>absurd rfl h⟩
    ·exact (Qbn hT (a+7) (hdev _) (by rw [(hok 4).2.1];omega) (Yk (hok 4).2.2)).mono fun _ _ ⟨e,h⟩=>⟨0,e,fun _=>hnext _ 4 _ rfl h,fun h=>absurd rfl h⟩
    ·exact (Qjw (g:=g) hT (a+7) 6 5 (hdev _) rfl rfl HG.out (by rw [(hok 5).1];exact hn) (by rw [(hok 5).2.1];omega) (Yk (hok 5).2.2) (by omega) (by omega)).mono fun _ _ ⟨e,h⟩=>⟨0,e,fun _=>hnext _ 5 _ rfl h,fun h=>absurd rfl h⟩
    ·exact (Qbn hT (a+7) (hdev _) (by rw [(hok 6).2.1];omega) (Yk (hok 6).2.2)).mono fun _ _ ⟨e,h⟩=>⟨0,e,fun _=>hnext _ 6 _ rfl h,fun h=>absurd rfl h⟩
   ·rintro e w7 (⟨rfl,h9⟩ | ⟨x,hx,_,hf⟩)
    ·have H9:=hid (h9.drop 7);clear h9 hnext hdev hrs hok hgetX hlen H8;go_wp2;go_ret;exact ⟨rfl,H9.out⟩
    ·exact hf.elim
theorem Wo (D:DSt) (g:Nat):(YB D g 7).last 0=laidB YW [g+1]:=by
 show (VW g 6 (VW g 5 (YB D g 5))).last 0=_;show ((YB D g 5).op.put 0 (laidB YW [g+1])).last 0=_;exact V4 _ _ _
theorem Qfz (D:DSt) (g k:Nat):(YB D g 7).pend k= []:=rfl
theorem Qhk (g:Nat) (hg:g<18446744073709551615):getLE (laidB YW [g+1]) 8 8=g+1:=
 Q1 (Q7 YW) 8 8 (g+1) (by rw [Jh _ (by decide)];omega) (by omega)
theorem QdV (g:Nat):UM (laidB YW [g+1])=true:=by
 have h:(laidB YW [g+1]).take 8=(Q7 YW).take 8:=by
  apply List.ext_getElem?;intro i;rw [List.getElem?_take,List.getElem?_take];split
  ·show (Qv (Q7 YW) 8 8 (g+1))[i]?=_;rw [YI _ _ _ _ _ (by rw [Jh _ (by decide)];omega),if_neg (by omega)]
  ·rfl
 unfold UM;rw [h];rfl
inductive DOp where
 | wr (k:Nat) (b:Blk)
 | fl
def DOp.did:DOp→DSt→DSt
 | .wr k b,D=>D.op.put k b
 | .fl,D=>D.op.flushed
def DOp.ok (n:Nat):DOp→Prop
 | .wr k b=>k<n∧b.length=512
 | .fl=>True
def QL:List DOp→DSt→DSt
 | [],D=>D
 | o::r,D=>if D.off then D.op else QL r (o.did D)
def Jp:List DOp→DSt→Int
 | [],_=>0
 | o::r,D=>if D.off then 9 else Jp r (o.did D)
theorem Kg {o:DOp} {r:List DOp} {D:DSt} (h:D.off=true):QL (o::r) D=D.op:=by unfold QL;rw [if_pos h]
theorem VS {o:DOp} {r:List DOp} {D:DSt} (h: ¬D.off=true):QL (o::r) D=QL r (o.did D):=by conv=>lhs;unfold QL;rw [if_neg h]
theorem Kf {o:DOp} {r:List DOp} {D:DSt} (h:D.off=true):Jp (o::r) D=9:=by unfold Jp;rw [if_pos h]
theorem VX {o:DOp} {r:List DOp} {D:DSt} (h: ¬D.off=true):Jp (o::r) D=Jp r (o.did D):=by conv=>lhs;unfold Jp;rw [if_neg h]
theorem Qjp (o:DOp) (D:DSt):(o.did D).n=D.n:=by cases o<;>rfl
theorem QiO (o:DOp) (D:DSt):(o.did D).ops=D.ops+1:=by cases o<;>rfl
theorem QiU (o:DOp) (D:DSt):(o.did D).lim=D.lim.map (· -1):=by cases o<;>rfl
theorem Qbt {o:DOp} {D:DSt} (h:D.Wf) (ho:o.ok D.n):(o.did D).Wf:=by
 cases o with
 | wr k b=>exact DSt.put_wf (DSt.op_wf h) ho.1 ho.2 (Nat.succ_le_succ (h.few _))
 | fl=>exact DSt.flushed_wf (DSt.op_wf h)
theorem Ea: ∀(l:List DOp) (D:DSt),(QL l D).n=D.n
 | [],_=>rfl
 | o::r,D=>by
   unfold QL;split
   ·rfl
   ·rw [Ea r,Qjp]
theorem Ko: ∀(l:List DOp) (D:DSt),(QL l D).ops≤D.ops+l.length
 | [],_=>Nat.le_refl _
 | o::r,D=>by
   unfold QL;split
   ·show D.ops+1≤_;simp
   ·have:=Ko r (o.did D);rw [QiO] at this;simp only [List.length_cons];omega
theorem Qbv: ∀(l:List DOp) (D:DSt),D.Wf→(∀o∈l,o.ok D.n)→(QL l D).Wf
 | [],_,h,_=>h
 | o::r,D,h,hl=>by
   unfold QL;split
   ·exact DSt.op_wf h
   ·exact Qbv r _ (Qbt h (hl o (by simp))) (fun p hp=>by rw [Qjp];exact hl p (by simp [hp]))
theorem Ym: ∀(l:List DOp) (D:DSt),Jp l D=0∨Jp l D=9
 | [],_=> .inl rfl
 | o::r,D=>by
   unfold Jp;split
   ·exact .inr rfl
   ·exact Ym r _
theorem YH: ∀(a b:List DOp) (D:DSt),Jp a D=0→QL (a++b) D=QL b (QL a D)∧Jp (a++b) D=Jp b (QL a D)
 | [],_,_,_=>⟨rfl,rfl⟩
 | o::r,b,D,h=>by
   by_cases ho:D.off=true
   ·rw [Kf ho] at h;cases h
   ·rw [VX ho] at h;rw [List.cons_append,VS ho,VX ho,VS ho];exact YH r b _ h
theorem Vo: ∀(a b:List DOp) (D:DSt),Jp a D=9→QL (a++b) D=QL a D∧Jp (a++b) D=9
 | [],_,_,h=>by cases h
 | o::r,b,D,h=>by
   by_cases ho:D.off=true
   ·rw [List.cons_append,Kg ho,Kf ho,Kg ho];exact ⟨rfl,rfl⟩
   ·rw [VX ho] at h;rw [List.cons_append,VS ho,VX ho,VS ho];exact Vo r b _ h
theorem E5: ∀(l:List DOp) (D:DSt),D.lim=none→Jp l D=0∧(QL l D).lim=none
 | [],_,h=>⟨rfl,h⟩
 | o::r,D,h=>by
   have ho:D.off=false:=Yk h;unfold Jp QL;rw [if_neg (by simp [ho]),if_neg (by simp [ho])];exact E5 r _ (by rw [QiU,h];rfl)
def Img (D:DSt) (C:Nat→Blk):Prop:= ∀k,C k=D.base k∨C k∈D.pend k
def Yr (C:Nat→Blk) (k:Nat) (b:Blk):Nat→Blk:=fun x=>if x=k then b else C x
theorem QgS (D:DSt):Img D D.last:=fun k=>by
 unfold DSt.last;cases hp:D.pend k with
 | nil=>exact .inl rfl
 | cons a l=>exact .inr (List.getLast_mem (l:=a::l) (by simp))
theorem QeD {D:DSt} {k:Nat} {b:Blk} {C:Nat→Blk} (h:Img (D.put k b) C): ∃C',Img D C'∧(C=C'∨C=Yr C' k b):=by
 by_cases hk:C k=D.base k∨C k∈D.pend k
 ·refine ⟨C,fun x=>?_,.inl rfl⟩;by_cases hx:x=k
  ·subst hx;exact hk
  ·have:=h x;simp only [DSt.put,if_neg hx] at this;exact this
 ·refine ⟨Yr C k (D.base k),fun x=>?_,.inr ?_⟩
  ·unfold Yr;by_cases hx:x=k
   ·subst hx;rw [if_pos rfl];exact .inl rfl
   ·rw [if_neg hx];have:=h x;simp only [DSt.put,if_neg hx] at this;exact this
  ·have hb:C k=b:=by
    have:=h k;simp only [DSt.put,if_true] at this;rcases this with h1 | h1
    ·exact absurd (.inl h1) hk
    ·rcases List.mem_append.1 h1 with h2 | h2
     ·exact absurd (.inr h2) hk
     ·simpa using h2
   funext x
   unfold Yr;by_cases hx:x=k
   ·subst hx;rw [if_pos rfl];exact hb
   ·rw [if_neg hx,if_neg hx]
def Safe (D:DSt) (P:(Nat→Blk)→Prop):Prop:= ∀C,Img D C→P C
theorem Safe.mono {D:DSt} {P Q:(Nat→Blk)→Prop} (h:Safe D P) (hq: ∀C,P C→Q C):Safe D Q:=fun C hC=>hq C (h C hC)
theorem Safe.put {D:DSt} {P:(Nat→Blk)→Prop} (h:Safe D P) (k:Nat) (b:Blk) (hk: ∀C,P C→P (Yr C k b)):Safe (D.op.put k b) P:=fun C hC=>by
 obtain ⟨C',h1,h2 | h2⟩:=QeD hC
 ·subst h2;exact h _ h1
 ·subst h2;exact hk _ (h _ h1)
theorem Safe.fl {D:DSt} {P:(Nat→Blk)→Prop} (h:Safe D P):Safe D.op.flushed P:=fun C hC=>by
 have:C=D.last:=funext fun k=>by
  rcases hC k with h1 | h1
  ·exact h1
  ·simp [DSt.flushed] at h1
 subst this;exact h _ (QgS D)
theorem Safe.run {P:(Nat→Blk)→Prop}: ∀(l:List DOp) {D:DSt},Safe D P→(∀k b,.wr k b∈l→∀C,P C→P (Yr C k b))→Safe (QL l D) P
 | [],_,h,_=>h
 | o::r,D,h,hl=>by
   unfold QL;split
   ·exact h
   ·refine Safe.run r ?_ (fun k b hm=>hl k b (by simp [hm]));cases o with
    | wr k b=>exact h.put k b (hl k b (by simp))
    | fl=>exact h.fl
theorem Safe.clean {D:DSt} {P:(Nat→Blk)→Prop} (hp: ∀k,D.pend k= []) (h:P D.base):Safe D P:=fun C hC=>by
 have:C=D.base:=funext fun k=>by
  rcases hC k with h1 | h1
  ·exact h1
  ·rw [hp] at h1;cases h1
 rw [this];exact h
theorem Safe.base {D:DSt} {P:(Nat→Blk)→Prop} (h:Safe D P):P D.base:=h _ (fun k=> .inl rfl)
theorem JQ {D:DSt} (hp: ∀k,D.pend k= []):D.last=D.base:=funext fun k=>Qaj D k (hp k)
def Yi:List DOp→(Nat→Blk)→(Nat→Blk)
 | [],C=>C
 | .wr k b::r,C=>Yi r (Yr C k b)
 | .fl::r,C=>Yi r C
theorem Es (D:DSt) (k:Nat) (b:Blk):(D.op.put k b).last=Yr D.last k b:=funext fun x=>by
 unfold Yr;by_cases hx:x=k
 ·subst hx;rw [if_pos rfl];exact V4 _ _ _
 ·rw [if_neg hx];exact Vx _ _ hx
theorem QaM: ∀(l:List DOp) (D:DSt),Jp l D=0→(QL l D).last=Yi l D.last
 | [],_,_=>rfl
 | o::r,D,h=>by
   unfold Jp at h;unfold QL;split
   ·rename_i ho;rw [if_pos ho] at h;cases h
   ·rename_i ho
    rw [if_neg ho] at h;rw [QaM r _ h];cases o with
    | wr k b=>show Yi r (D.op.put k b).last=_;rw [Es];rfl
    | fl=>rfl
theorem Qel (l:List DOp) (D:DSt) (h:Jp (l++ [.fl]) D=0):(∀k,(QL (l++ [.fl]) D).pend k= [])∧(QL (l++ [.fl]) D).base=Yi l D.last:=by
 rcases Ym l D with h0 | h9
 ·obtain ⟨e1,e2⟩:=YH l [.fl] D h0;rw [e2] at h;rw [e1];unfold Jp at h;unfold QL;split
  ·rename_i ho;rw [if_pos ho] at h;cases h
  ·exact ⟨fun k=>rfl,by show (QL l D).last=_;exact QaM l D h0⟩
 ·rw [(Vo l [.fl] D h9).2] at h;cases h
theorem V2: ∀(a b:List DOp) (C:Nat→Blk),Yi (a++b) C=Yi b (Yi a C)
 | [],_,_=>rfl
 | .wr k x::r,b,C=>V2 r b _
 | .fl::r,b,C=>V2 r b _
def QU:List UInt8:= [66,79,76,76,65,82,68,72]
def Yv (g:Nat) (b:Blk):Bool:=b.take 8==QU && getLE b 8 8==g
def E2 (b:Blk):Nat:=getLE b 16 8
def Kq (b:Blk):Nat:=getLE b 24 8
def EW (b:Blk) (i:Nat):Nat:=getLE b (32+4*i) 4
def Qae (b:Blk):List Nat:=(List.range (Kq b)).map (EW b)
def Qp (i:Nat):Nat:=1+61*i
def WE (C:Nat→Blk) (s m:Nat):List Blk:=(List.range m).map fun i=>C (Qp s+1+i)
theorem EH (C:Nat→Blk) (s m:Nat):(WE C s m).length=m:=by simp [WE]
theorem QaI (C:Nat→Blk) (s m i:Nat) (h:i<m):(WE C s m)[i]?=some (C (Qp s+1+i)):=by simp [WE,h]
structure YM (n g:Nat) (C:Nat→Blk) (last:Nat) (o:List Nat) (dt:List Blk):Prop where
 magic:UM (C 0)=true
 gen:getLE (C 0) 8 8=g
 slots: ∀i,i<4→Yv g (C (Qp i))=true→Kq (C (Qp i))≤60∧E2 (C (Qp i))%4=i∧E2 (C (Qp i))≤last
 chosen:(last=0∧o= []∧dt= [])∨(0<last∧Yv g (C (Qp (last%4)))=true∧E2 (C (Qp (last%4)))=last∧o=Qae (C (Qp (last%4)))∧dt=WE C (last%4) o.length)
 homes: ∀k∈o,245≤k∧k<n
 nodup:o.Nodup
theorem YM.len {n g last:Nat} {C:Nat→Blk} {o:List Nat} {dt:List Blk} (h:YM n g C last o dt):dt.length=o.length:=by
 rcases h.chosen with ⟨_,rfl,rfl⟩ | ⟨_,_,_,_,h5⟩
 ·rfl
 ·rw [h5,EH]
theorem YM.few {n g last:Nat} {C:Nat→Blk} {o:List Nat} {dt:List Blk} (h:YM n g C last o dt):o.length≤60:=by
 rcases h.chosen with ⟨_,rfl,rfl⟩ | ⟨h0,h1,h2,h3,h5⟩
 ·exact Nat.zero_le _
 ·rw [h3];have:=(h.slots (last%4) (by omega) h1).1
  simpa [Qae] using this
def Q5 (g:Nat) (C:Nat→Blk):Nat→Nat×List Nat
 | 0=>(0,[])
 | i+1=>if Yv g (C (Qp i))=true∧(Q5 g C i).1<E2 (C (Qp i)) then (E2 (C (Qp i)),Qae (C (Qp i))) else Q5 g C i
theorem Qe2 {n g last:Nat} {C:Nat→Blk} {o:List Nat} {dt:List Blk} (h:YM n g C last o dt): ∀i,i≤4→(Q5 g C i).1≤last
 | 0,_=>Nat.zero_le _
 | i+1,hi=>by
   unfold Q5;split
   ·rename_i hc;exact (h.slots i (by omega) hc.1).2.2
   ·exact Qe2 h i (by omega)
theorem QaA {n g last:Nat} {C:Nat→Blk} {o:List Nat} {dt:List Blk} (h:YM n g C last o dt) (hl:0<last): ∀i,i≤last%4→(Q5 g C i).1<last
 | 0,_=>hl
 | i+1,hi=>by
   unfold Q5;split
   ·rename_i hc
    obtain ⟨_,h2,h3⟩:=h.slots i (by omega) hc.1;show E2 (C (Qp i))<last;rcases Nat.lt_or_eq_of_le h3 with h4 | h4
    ·exact h4
    ·rw [h4] at h2;omega
   ·exact QaA h hl i (by omega)
theorem Ox {n g last:Nat} {C:Nat→Blk} {o:List Nat} {dt:List Blk} (h:YM n g C last o dt) (hl:0<last): ∀d,last%4+1+d≤4→Q5 g C (last%4+1+d)=(last,o)
 | 0,_=>by
   rcases h.chosen with ⟨h0,_⟩ | ⟨_,h1,h2,h3,_⟩
   ·omega
   ·show Q5 g C (last%4+1)=_;unfold Q5;rw [if_pos ⟨h1,by rw [h2];exact QaA h hl _ (Nat.le_refl _)⟩,h2,h3]
 | d+1,hd=>by
   show Q5 g C (last%4+1+d+1)=_;have ih:=Ox h hl d (by omega);unfold Q5;rw [ih];split
   ·rename_i hc
    have:=(h.slots (last%4+1+d) (by omega) hc.1).2.2;have h2:last<E2 (C (Qp (last%4+1+d))):=hc.2;omega
   ·rfl
theorem YM.pick {n g last:Nat} {C:Nat→Blk} {o:List Nat} {dt:List Blk} (h:YM n g C last o dt):Q5 g C 4=(last,o):=by
 rcases Nat.eq_zero_or_pos last with h0 | h0
 ·subst h0;have ho:o= []:=by
   rcases h.chosen with ⟨_,h1,_⟩ | ⟨h1,_⟩
   ·exact h1
   ·omega
  subst ho;have: ∀i,i≤4→Q5 g C i=(0,[]):=by
   intro i
   induction i with
   | zero=>intro _;rfl
   | succ i ih=>
     intro hi;unfold Q5;rw [ih (by omega)];split
     ·rename_i hc
      have:=(h.slots i (by omega) hc.1).2.2;have h2:0<E2 (C (Qp i)):=hc.2;omega
     ·rfl
  exact this 4 (Nat.le_refl _)
 ·have:=Ox h h0 (3-last%4) (by omega)
  rwa [show last%4+1+(3-last%4)=4 from by omega] at this
def QH (o:List Nat) (dt:List Blk) (C:Nat→Blk) (k:Nat):Blk:=
 match o,dt with
 | x::o',b::dt'=>if x=k then b else QH o' dt' C k
 | _,_=>C k
theorem UI: ∀(o:List Nat) (dt:List Blk) (C:Nat→Blk) (k:Nat),k∉o→QH o dt C k=C k
 | [],_,_,_,_=>by unfold QH;rfl
 | x::o,[],_,_,_=>by unfold QH;rfl
 | x::o,b::dt,C,k,h=>by
   unfold QH;rw [if_neg (fun e=>h (by simp [e]))];exact UI o dt C k (fun e=>h (by simp [e]))
theorem O2: ∀(o:List Nat) (dt:List Blk) (C:Nat→Blk) (i k:Nat) (b:Blk),o.Nodup→o[i]?=some k→dt[i]?=some b→QH o dt C k=b
 | [],_,_,_,_,_,_,h,_=>by simp at h
 | x::o,[],_,_,_,_,_,_,h=>by simp at h
 | x::o,c::dt,C,0,k,b,_,h1,h2=>by
   simp at h1 h2;subst h1 h2;unfold QH;rw [if_pos rfl]
 | x::o,c::dt,C,i+1,k,b,hn,h1,h2=>by
   simp only [List.getElem?_cons_succ] at h1 h2;have hm:k∈o:=List.mem_of_getElem? h1;unfold QH;have hne: ¬x=k:=fun e=>(List.nodup_cons.1 hn).1 (by rw [e];exact hm)
   rw [if_neg hne];exact O2 o dt C i k b (List.nodup_cons.1 hn).2 h1 h2
theorem Vu: ∀(o:List Nat) (dt:List Blk) (C C':Nat→Blk) (k:Nat),dt.length=o.length→(k∉o→C k=C' k)→QH o dt C k=QH o dt C' k
 | [],_,C,C',k,_,h=>by unfold QH;exact h (by simp)
 | x::o,[],_,_,_,hl,_=>by simp at hl
 | x::o,b::dt,C,C',k,hl,h=>by
   unfold QH;split
   ·rfl
   ·rename_i hx
    exact Vu o dt C C' k (by simpa using hl) (fun hk=>h (by simp [hk];exact fun e=>hx e.symm))
def OI (n g m:Nat) (s:Nat→Blk) (C:Nat→Blk):Prop:= ∃last o dt,last≤m∧YM n g C last o dt∧∀k,245≤k→k<n→QH o dt C k=s k
def Q2 (n g last:Nat) (o:List Nat) (dt:List Blk) (s:Nat→Blk) (C:Nat→Blk):Prop:=YM n g C last o dt∧∀k,245≤k→k<n→QH o dt C k=s k
theorem YM.congr {n g last:Nat} {C C':Nat→Blk} {o:List Nat} {dt:List Blk} (h:YM n g C last o dt) (h0:C' 0=C 0) (hh: ∀i,i<4→C' (Qp i)=C (Qp i))
 (hd: ∀i,i<o.length→C' (Qp (last%4)+1+i)=C (Qp (last%4)+1+i)):YM n g C' last o dt:=by
 refine ⟨by rw [h0];exact h.magic,by rw [h0];exact h.gen,fun i hi=>by rw [hh i hi];exact h.slots i hi,?_,h.homes,h.nodup⟩;rcases h.chosen with hc | ⟨h1,h2,h3,h4,h5⟩
 ·exact .inl hc
 ·refine .inr ⟨h1,?_,?_,?_,?_⟩
  ·rw [hh _ (by omega)];exact h2
  ·rw [hh _ (by omega)];exact h3
  ·rw [hh _ (by omega)];exact h4
  ·rw [h5];unfold WE;apply List.map_congr_left;intro i hi;exact (hd i (by simpa using hi)).symm
theorem Q2.lay {n g last:Nat} {o:List Nat} {dt:List Blk} {s:Nat→Blk} {C:Nat→Blk} (h:Q2 n g last o dt s C) {i k:Nat} {b:Blk} (hk:o[i]?=some k) (hb:dt[i]?=some b):
 Q2 n g last o dt s (Yr C k b):=by
 have hkm:=List.mem_of_getElem? hk;have hk2:=h.1.homes k hkm;have hf:=h.1.few;refine ⟨h.1.congr ?_ ?_ ?_,fun x h1 h2=>?_⟩
 ·unfold Yr;rw [if_neg (by omega)]
 ·intro j hj;unfold Yr;rw [if_neg (by unfold Qp;omega)]
 ·intro j hj;unfold Yr;rw [if_neg (by unfold Qp;omega)]
 ·rw [←h.2 x h1 h2];refine Vu o dt _ _ x h.1.len (fun hx=>?_);have hne: ¬x=k:=fun e=>hx (by rw [e];exact hkm)
  unfold Yr;rw [if_neg hne]
theorem Q2.data {n g last:Nat} {o:List Nat} {dt:List Blk} {s:Nat→Blk} {C:Nat→Blk} (h:Q2 n g last o dt s C) {t i:Nat} (b:Blk) (ht:t<4) (hne:t≠last%4) (hi:i<60):
 Q2 n g last o dt s (Yr C (Qp t+1+i) b):=by
 have hf:=h.1.few;refine ⟨h.1.congr ?_ ?_ ?_,fun x h1 h2=>?_⟩
 ·unfold Yr;rw [if_neg (by omega)]
 ·intro j hj;unfold Yr;rw [if_neg (by unfold Qp;omega)]
 ·intro j hj;unfold Yr;rw [if_neg (by unfold Qp;omega)]
 ·rw [←h.2 x h1 h2];refine Vu o dt _ _ x h.1.len (fun hx=>?_);unfold Yr;rw [if_neg (by unfold Qp;omega)]
def Qi:List Nat→List Blk→List DOp
 | k::o,b::dt=> .wr k b::Qi o dt
 | _,_=> []
theorem Ys: ∀(o:List Nat) (dt:List Blk) (k:Nat) (b:Blk),DOp.wr k b∈Qi o dt→∃i:Nat,o[i]?=some k∧dt[i]?=some b
 | [],_,_,_,h=>by unfold Qi at h;cases h
 | x::o,[],_,_,h=>by unfold Qi at h;cases h
 | x::o,c::dt,k,b,h=>by
   unfold Qi at h;rcases List.mem_cons.1 h with e | h
   ·injection e with e1 e2
    exact ⟨0,by simp [e1],by simp [e2]⟩
   ·obtain ⟨i,h1,h2⟩:=Ys o dt k b h;exact ⟨i+1,by simpa using h1,by simpa using h2⟩
theorem Jo: ∀(o:List Nat) (dt:List Blk),dt.length=o.length→(Qi o dt).length=o.length
 | [],_,_=>by unfold Qi;rfl
 | x::o,[],h=>by simp at h
 | x::o,c::dt,h=>by unfold Qi;simp [Jo o dt (by simpa using h)]
theorem Uk: ∀(o:List Nat) (dt:List Blk) (i k:Nat) (b:Blk),o[i]?=some k→dt[i]?=some b→Qi (o.take (i+1)) (dt.take (i+1))=Qi (o.take i) (dt.take i)++ [.wr k b]
 | [],_,_,_,_,h,_=>by simp at h
 | x::o,[],_,_,_,_,h=>by simp at h
 | x::o,c::dt,0,k,b,h1,h2=>by
   simp at h1 h2;subst h1 h2;simp [Qi]
 | x::o,c::dt,i+1,k,b,h1,h2=>by
   simp only [List.getElem?_cons_succ] at h1 h2;simp only [List.take_succ_cons,Qi,List.cons_append];rw [Uk o dt i k b h1 h2]
theorem Ue: ∀(o:List Nat) (dt:List Blk) (n:Nat),Qi (o.take n) (dt.take n)++Qi (o.drop n) (dt.drop n)=Qi o dt
 | [],_,n=>by simp [Qi]
 | x::o,[],n=>by
   cases n with
   | zero=>simp [Qi]
   | succ n=>simp only [List.take_nil,List.drop_nil];cases (o.drop n)<;>simp [Qi]
 | x::o,c::dt,0=>by simp [Qi]
 | x::o,c::dt,n+1=>by
   simp only [List.take_succ_cons,List.drop_succ_cons,Qi,List.cons_append];rw [Ue o dt n]
theorem Um: ∀(o:List Nat) (dt:List Blk) (C:Nat→Blk),dt.length=o.length→o.Nodup→Yi (Qi o dt) C=QH o dt C
 | [],_,C,_,_=>by funext k;unfold Qi QH Yi;rfl
 | x::o,[],_,h,_=>by simp at h
 | x::o,c::dt,C,h,hn=>by
   unfold Qi Yi;rw [Um o dt _ (by simpa using h) (List.nodup_cons.1 hn).2]
   funext k
   conv=>rhs;unfold QH
   split
   ·rename_i e;subst e
    rw [UI o dt _ _ (List.nodup_cons.1 hn).1];unfold Yr;rw [if_pos rfl]
   ·rename_i e
    refine Vu o dt _ _ k (by simpa using h) (fun _=>?_);unfold Yr;rw [if_neg (fun e'=>e e'.symm)]
def QK (o:List Nat) (dt:List Blk):List DOp:=Qi o dt++ [.fl]
theorem Em {n g last:Nat} {o:List Nat} {dt:List Blk} {s:Nat→Blk} {D:DSt} (h:Safe D (Q2 n g last o dt s)):Safe (QL (QK o dt) D) (Q2 n g last o dt s):=by
 refine h.run _ (fun k b hm C hC=>?_);rcases List.mem_append.1 hm with hm | hm
 ·obtain ⟨i,h1,h2⟩:=Ys o dt k b hm;exact hC.lay h1 h2
 ·simp at hm
def K7 (o:List Nat) (dt:List Blk) (C:Nat→Blk):Prop:= ∀(i k:Nat),o[i]?=some k→dt[i]?=some (C k)
theorem EJ {o:List Nat} {dt:List Blk} {C:Nat→Blk} (hl:dt.length=o.length) (hn:o.Nodup) (h:K7 o dt C) (k:Nat):QH o dt C k=C k:=by
 by_cases hk:k∈o
 ·obtain ⟨i,hi⟩:=List.getElem?_of_mem hk;exact O2 o dt C i k _ hn hi (h i k hi)
 ·exact UI o dt C k hk
theorem Ex {o:List Nat} {dt:List Blk} {C:Nat→Blk} (hl:dt.length=o.length) (hn:o.Nodup):K7 o dt (QH o dt C):=fun i k hk=>by
 obtain ⟨h1,_⟩:=List.getElem?_eq_some_iff.1 hk;have hb:dt[i]?=some (dt[i]'(by omega)):=List.getElem?_eq_getElem (by omega);rw [O2 o dt C i k _ hn hk hb];exact hb
theorem Qa3 {n g last:Nat} {o:List Nat} {dt:List Blk} {s:Nat→Blk} {D:DSt} (h:Q2 n g last o dt s D.last) (hs:Safe D (Q2 n g last o dt s)) (he:Jp (QK o dt) D=0):
 (∀k,(QL (QK o dt) D).pend k= [])∧Q2 n g last o dt s (QL (QK o dt) D).base∧K7 o dt (QL (QK o dt) D).base:=by
 obtain ⟨h1,h2⟩:=Qel _ _ he;refine ⟨h1,(Em hs).base,?_⟩;unfold QK;rw [h2,Um o dt _ h.1.len h.1.nodup];exact Ex h.1.len h.1.nodup
def QV:Blk→Nat→List Nat→Blk
 | b,_,[]=>b
 | b,i,k::r=>QV (Qv b (32+4*i) 4 k) (i+1) r
def JN (g n:Nat) (ks:List Nat):Blk:=QV (laidB QU [g,n,ks.length]) 0 ks
theorem EM: ∀(l:List Nat) (b:Blk) (i k:Nat),QV b i (l++ [k])=Qv (QV b i l) (32+4*(i+l.length)) 4 k
 | [],b,i,k=>rfl
 | m::r,b,i,k=>by
   have:=EM r (Qv b (32+4*i) 4 m) (i+1) k;rw [show i+(m::r).length=i+1+r.length from by simp;omega];exact this
theorem QbK (b:Blk) (ks:List Nat) (i k:Nat) (h:ks[i]?=some k):QV b 0 (ks.take (i+1))=Qv (QV b 0 (ks.take i)) (32+4*i) 4 k:=by
 obtain ⟨h1,h2⟩:=List.getElem?_eq_some_iff.1 h;rw [List.take_succ_eq_append_getElem h1,h2,EM,List.length_take,Nat.min_eq_left (by omega),Nat.zero_add]
theorem VC: ∀(l:List Nat) (b:Blk) (i:Nat),b.length=512→i+l.length≤120→(QV b i l).length=512
 | [],b,i,h,_=>h
 | m::r,b,i,h,hl=>by
   simp at hl;exact VC r _ _ ((Qu _ _ _ _ (by omega)).trans h) (by omega)
theorem J1: ∀(l:List Nat) (b:Blk) (i x:Nat),b.length=512→i+l.length≤120→x<32+4*i→(QV b i l)[x]?=b[x]?
 | [],b,i,x,_,_,_=>rfl
 | m::r,b,i,x,h,hl,hx=>by
   simp at hl;have h1:=J1 r (Qv b (32+4*i) 4 m) (i+1) x ((Qu _ _ _ _ (by omega)).trans h) (by omega) (by omega);show (QV (Qv b (32+4*i) 4 m) (i+1) r)[x]?=_;rw [h1,YI _ _ _ _ _ (by omega),if_neg (by omega)]
theorem Wn: ∀(l:List Nat) (b:Blk) (i j k:Nat),b.length=512→i+l.length≤120→l[j]?=some k→k<4294967296→getLE (QV b i l) (32+4*(i+j)) 4=k
 | [],b,i,j,k,_,_,h,_=>by simp at h
 | m::r,b,i,0,k,h,hl,hj,hk=>by
   simp at hj;subst hj;simp at hl;have hlen:(Qv b (32+4*i) 4 m).length=512:=(Qu _ _ _ _ (by omega)).trans h;show getLE (QV (Qv b (32+4*i) 4 m) (i+1) r) _ 4=m;rw [Yh (bs:=Qv b (32+4*i) 4 m) (fun x h1 h2=>J1 r _ (i+1) x hlen (by omega) (by omega))];exact Q1 _ _ _ _ (by omega) (by omega)
 | m::r,b,i,j+1,k,h,hl,hj,hk=>by
   simp at hl;have hlen:(Qv b (32+4*i) 4 m).length=512:=(Qu _ _ _ _ (by omega)).trans h;have:=Wn r (Qv b (32+4*i) 4 m) (i+1) j k hlen (by omega) (by simpa using hj) hk
   rwa [show i+1+j=i+(j+1) from by omega] at this
theorem Vj (g n m:Nat):(laidB QU [g,n,m]).length=512:=JY _ _ _ (Jh _ (by decide)) (by simp)
theorem ER (g n:Nat) (ks:List Nat) (h:ks.length≤60):(JN g n ks).length=512:=VC _ _ _ (Vj _ _ _) (by omega)
theorem Qcf (g n m x:Nat) (hx:x<8):(laidB QU [g,n,m])[x]?=(Q7 QU)[x]?:=by
 have h0:(Q7 QU).length=512:=Jh _ (by decide);have h1:(Qv (Q7 QU) 8 8 g).length=512:=(Qu _ _ _ _ (by omega)).trans h0;have h2:(Qv (Qv (Q7 QU) 8 8 g) 16 8 n).length=512:=(Qu _ _ _ _ (by omega)).trans h1;show (Qv (Qv (Qv (Q7 QU) 8 8 g) 16 8 n) 24 8 m)[x]?=_;rw [YI _ _ _ _ _ (by omega),if_neg (by omega),YI _ _ _ _ _ (by omega),if_neg (by omega),YI _ _ _ _ _ (by omega),if_neg (by omega)]
theorem QeZ (g n m:Nat) (hg:g<18446744073709551616) (hn:n<18446744073709551616) (hm:m<18446744073709551616):
 getLE (laidB QU [g,n,m]) 8 8=g∧getLE (laidB QU [g,n,m]) 16 8=n∧getLE (laidB QU [g,n,m]) 24 8=m:=by
 have h0:(Q7 QU).length=512:=Jh _ (by decide);have h1:(Qv (Q7 QU) 8 8 g).length=512:=(Qu _ _ _ _ (by omega)).trans h0;have h2:(Qv (Qv (Q7 QU) 8 8 g) 16 8 n).length=512:=(Qu _ _ _ _ (by omega)).trans h1;show getLE (Qv (Qv (Qv (Q7 QU) 8 8 g) 16 8 n) 24 8 m) 8 8=g∧getLE (Qv (Qv (Qv (Q7 QU) 8 8 g) 16 8 n) 24 8 m) 16 8=n∧getLE (Qv (Qv (Qv (Q7 QU) 8 8 g) 16 8 n) 24 8 m) 24 8=m;refine ⟨?_,?_,Q1 _ _ _ _ (by omega) (by omega)⟩
 ·rw [Q3 _ _ _ _ _ _ (by omega) (by omega),Q3 _ _ _ _ _ _ (by omega) (by omega)];exact Q1 _ _ _ _ (by omega) (by omega)
 ·rw [Q3 _ _ _ _ _ _ (by omega) (by omega)];exact Q1 _ _ _ _ (by omega) (by omega)
theorem Qga (g n:Nat) (ks:List Nat) (h:ks.length≤60) (hg:g<18446744073709551616) (hn:n<18446744073709551616) (hk: ∀k∈ks,k<4294967296):
 Yv g (JN g n ks)=true∧E2 (JN g n ks)=n∧Kq (JN g n ks)=ks.length∧Qae (JN g n ks)=ks:=by
 obtain ⟨a1,a2,a3⟩:=QeZ g n ks.length hg hn (by omega);have hl:=Vj g n ks.length;have e1:getLE (JN g n ks) 8 8=g:=(Yh (fun x h1 h2=>J1 ks _ 0 x hl (by omega) (by omega))).trans a1;have e2:getLE (JN g n ks) 16 8=n:=(Yh (fun x h1 h2=>J1 ks _ 0 x hl (by omega) (by omega))).trans a2;have e3:getLE (JN g n ks) 24 8=ks.length:=(Yh (fun x h1 h2=>J1 ks _ 0 x hl (by omega) (by omega))).trans a3;have e4:(JN g n ks).take 8=QU:=by
  have:(JN g n ks).take 8=(Q7 QU).take 8:=by
   apply List.ext_getElem?;intro x;rw [List.getElem?_take,List.getElem?_take];split
   ·rename_i hx
    exact (J1 ks _ 0 x hl (by omega) (by omega)).trans (Qcf _ _ _ _ hx)
   ·rfl
  rw [this];rfl
 refine ⟨?_,e2,e3,?_⟩
 ·unfold Yv;rw [e1,e4];simp
 ·unfold Qae;have e3':Kq (JN g n ks)=ks.length:=e3;rw [e3'];apply List.ext_getElem?;intro i;rw [List.getElem?_map];rcases Nat.lt_or_ge i ks.length with hi | hi
  ·have hki:ks[i]?=some ks[i]:=List.getElem?_eq_getElem hi;rw [List.getElem?_range hi,hki];have:=Wn ks (laidB QU [g,n,ks.length]) 0 i ks[i] hl (by omega) hki (hk _ (List.getElem_mem hi));rw [Nat.zero_add] at this;show some (getLE (JN g n ks) (32+4*i) 4)=_;exact congrArg some this
  ·rw [List.getElem?_eq_none (by simpa using hi),List.getElem?_eq_none hi];rfl
def Ja (t:Nat):Nat→List Blk→List DOp
 | _,[]=> []
 | i,b::r=> .wr (Qp t+1+i) b::Ja t (i+1) r
theorem K5 (t:Nat): ∀(l:List Blk) (i k:Nat) (b:Blk),DOp.wr k b∈Ja t i l→∃j,k=Qp t+1+(i+j)∧l[j]?=some b
 | [],_,_,_,h=>by simp [Ja] at h
 | c::r,i,k,b,h=>by
   unfold Ja at h;rcases List.mem_cons.1 h with e | h
   ·injection e with e1 e2
    exact ⟨0,by omega,by simp [e2]⟩
   ·obtain ⟨j,h1,h2⟩:=K5 t r (i+1) k b h;exact ⟨j+1,by omega,by simpa using h2⟩
theorem Qb0 (t:Nat): ∀(l:List Blk) (i:Nat),DOp.fl∉Ja t i l
 | [],_=>by simp [Ja]
 | c::r,i=>by unfold Ja;simp [Qb0 t r]
theorem Jk (t:Nat): ∀(l:List Blk) (i:Nat),(Ja t i l).length=l.length
 | [],_=>rfl
 | c::r,i=>by unfold Ja;simp [Jk t r]
theorem Oj (t:Nat): ∀(l:List Blk) (i:Nat) (C:Nat→Blk) (x:Nat),Yi (Ja t i l) C x=if Qp t+1+i≤x then (l[x-(Qp t+1+i)]?).getD (C x) else C x
 | [],i,C,x=>by simp [Ja,Yi]
 | b::r,i,C,x=>by
   unfold Ja Yi;rw [Oj t r (i+1) _ x];unfold Yr;rcases Nat.lt_trichotomy x (Qp t+1+i) with h | h | h
   ·rw [if_neg (by omega),if_neg (by omega),if_neg (by omega)]
   ·subst h;rw [if_neg (by omega),if_pos rfl,if_pos (Nat.le_refl _),Nat.sub_self];rfl
   ·rw [if_pos (by omega),if_neg (by omega),if_pos (by omega),show x-(Qp t+1+i)=(x-(Qp t+1+(i+1)))+1 from by omega,List.getElem?_cons_succ]
def Qz (g last:Nat) (om:List Nat) (dm:List Blk) (ks:List Nat) (ds:List Blk):List DOp:=
 (Qi om dm++Ja ((last+1)%4) 0 ds)++ [.fl]++ [.wr (Qp ((last+1)%4)) (JN g (last+1) ks),.fl]
def Qje (o:List Nat) (dt:List Blk) (C:Nat→Blk) (om:List Nat) (dm:List Blk):Prop:=(om=o∧dm=dt)∨(om= []∧dm= []∧K7 o dt C)
structure W5 (n:Nat) (ks:List Nat) (ds:List Blk):Prop where
 home: ∀k∈ks,245≤k∧k<n
 nodup:ks.Nodup
 few:ks.length≤60
 len:ds.length=ks.length
theorem Qj5 {n g last:Nat} {o ks:List Nat} {dt ds:List Blk} {s:Nat→Blk} {C:Nat→Blk} (h:Q2 n g last o dt s C) (hs:K7 o dt C) (hl:W5 n ks ds) (hd: ∀(i:Nat) (b:Blk),ds[i]?=some b→C (Qp ((last+1)%4)+1+i)=b)
 (hn:n≤65536) (hg:g<18446744073709551616) (hla:last+1<18446744073709551616):
 Q2 n g (last+1) ks ds (QH ks ds s) (Yr C (Qp ((last+1)%4)) (JN g (last+1) ks)):=by
 obtain ⟨b1,b2,b3,b4⟩:=Qga g (last+1) ks hl.few hg hla (fun k hk=>by have:=hl.home k hk;omega);have hset: ∀i,i<4→i≠(last+1)%4→Yr C (Qp ((last+1)%4)) (JN g (last+1) ks) (Qp i)=C (Qp i):=fun i hi hne=>by
  unfold Yr;rw [if_neg (by unfold Qp;omega)]
 have hself:Yr C (Qp ((last+1)%4)) (JN g (last+1) ks) (Qp ((last+1)%4))=JN g (last+1) ks:=by unfold Yr;rw [if_pos rfl]
 have h0:Yr C (Qp ((last+1)%4)) (JN g (last+1) ks) 0=C 0:=by unfold Yr;rw [if_neg (by unfold Qp;omega)]
 refine ⟨⟨by rw [h0];exact h.1.magic,by rw [h0];exact h.1.gen,fun i hi=>?_,.inr ⟨by omega,by rw [hself];exact b1,by rw [hself];exact b2,by rw [hself];exact b4.symm,?_⟩,hl.home,hl.nodup⟩,fun k h1 h2=>?_⟩
 ·by_cases hi2:i=(last+1)%4
  ·subst hi2;rw [hself];exact fun _=>⟨by rw [b3];exact hl.few,by rw [b2],by rw [b2];exact Nat.le_refl _⟩
  ·rw [hset i hi hi2];exact fun hok=>by obtain ⟨c1,c2,c3⟩:=h.1.slots i hi hok;exact ⟨c1,c2,by omega⟩
 ·apply List.ext_getElem?;intro i;rcases Nat.lt_or_ge i ks.length with hi | hi
  ·rw [QaI _ _ _ _ hi];have hb:ds[i]?=some (ds[i]'(by rw [hl.len];exact hi)):=List.getElem?_eq_getElem _;have:=hd i _ hb;unfold Yr;rw [if_neg (by unfold Qp;omega),this];exact hb
  ·rw [List.getElem?_eq_none (by rw [hl.len];exact hi),List.getElem?_eq_none (by rw [EH];exact hi)]
 ·refine Vu ks ds _ _ k hl.len (fun hk=>?_);rw [←h.2 k h1 h2,EJ h.1.len h.1.nodup hs];unfold Yr;rw [if_neg (by unfold Qp;omega)]
end
end Go.Proofs.YtlemndledcmhiaaGreatDoor
