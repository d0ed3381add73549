/-
  The catalog, from the device up, part 2.
-/
import Derived.Test.YtlemndledcmhiaaGreatDoorU1
import Derived.Test.YtlemndledcmhiaaGreatDoorShelf
import Derived.Deep.QuietTactic
import Derived.BigQuiet
import Derived.Lib.BufferWrite
import Derived.Maps.AppendAt
namespace Go.Proofs.YtlemndledcmhiaaGreatDoor
set_option linter.unusedVariables false
set_option linter.unusedSimpArgs false
section
open Go.MapKept Go.RowKit Go.Shelf
open Go.WideElems (Fit)
def heldR (v:Value):Option (DataW Value×List MemPlace):=some (.held v,[])
theorem intKeys_perm {H:Type} (g:MapEntry→Lit×DataW H) (l:List MapEntry):(intKeys (.map ((l.map g).foldr DataW.insert []))).Perm (l.map fun x=>Go.intOf (g x).1):=by
  show (List.map (fun p:Lit×DataW H=>Go.intOf p.1) _).Perm _
  have:=(WideShapes.sorted_perm (l.map g)).map (fun p:Lit×DataW H=>Go.intOf p.1)
  rw [List.map_map] at this
  exact this
theorem MapAt.owns {w:World} {b n:Nat} {f:Int→Option Value} (h:MapAt IntK okI w b n f) (hn:n≤maxLen):
    ∃D,w.ownsMap Tryz.prog 3 heldR b n D∧Maps.size D=n∧(intKeys D).Nodup∧(intKeys D).length=n∧∀a,a∈intKeys D↔okI a∧(f a).isSome=true:=by
  obtain ⟨es,clock,hb,hst,hk,rfl,hf⟩:=h
  have hrd: ∀x∈es.toList,∃a,okI a∧x.key=IntK a∧WideElems.rd Tryz.prog 3 heldR x=some (.int .i64 a,.held x.val):=fun x hx=>by
    obtain ⟨a,ha,e⟩:=hk x hx
    refine ⟨a,ha,e,?_⟩
    unfold WideElems.rd
    rw [e]
    have:keyOf Tryz.prog 3 (IntK a)=some (.int .i64 a):=Go.Maps.keyOf_int_mk Tryz.underlying3 ha
    rw [this]
    rfl
  have F:Fit Tryz.prog 3 heldR es clock:=⟨hn,hst,fun x hx=>by obtain ⟨a,_,_,e⟩:=hrd x hx;exact ⟨_,e⟩⟩
  have hlen:((es.toList.map (WideElems.rg Tryz.prog 3 heldR)).foldr DataW.insert []).length=es.size:=by rw [length_sorted];simp
  have hperm:=intKeys_perm (WideElems.rg Tryz.prog 3 heldR) es.toList
  have hkey: ∀x∈es.toList,∀a,x.key=IntK a→Go.intOf (WideElems.rg Tryz.prog 3 heldR x).1=a:=fun x hx a e=>by
    obtain ⟨a',_,e',hr⟩:=hrd x hx
    rw [WideElems.rg_of hr]
    have:IntK a=IntK a':=e.symm.trans e'
    show a'=a
    exact (Value.int.inj this).2.symm
  refine ⟨_,⟨es,clock,hb,F,Nat.le_refl _,rfl⟩,?_,?_,?_,fun a=>?_⟩
  · show ((es.toList.map (WideElems.rg Tryz.prog 3 heldR)).foldr DataW.insert []).length=es.size
    exact hlen
  · refine (hperm.nodup_iff).2 ?_
    rw [List.Nodup,List.pairwise_map]
    have hpw:es.toList.Pairwise (fun x y=>x.key≠y.key):=((stamped_iff es clock).1 hst).2.2
    refine List.Pairwise.imp_of_mem ?_ hpw
    intro x y hx hy hne e
    obtain ⟨a,_,ea⟩:=hk x hx
    obtain ⟨b',_,eb⟩:=hk y hy
    rw [hkey x hx a ea,hkey y hy b' eb] at e
    exact hne (by rw [ea,eb,e])
  · rw [hperm.length_eq];simp
  · rw [hperm.mem_iff,List.mem_map]
    constructor
    · rintro ⟨x,hx,e⟩
      obtain ⟨a',ha',ea⟩:=hk x hx
      rw [hkey x hx a' ea] at e
      subst e
      exact ⟨ha',by rw [(hf a' x.val ha').2 ⟨x,hx,ea,rfl⟩];rfl⟩
    · rintro ⟨ha,hs⟩
      obtain ⟨v,hv⟩:=Option.isSome_iff_exists.1 hs
      obtain ⟨x,hx,ex,_⟩:=(hf a v ha).1 hv
      exact ⟨x,hx,hkey x hx a ex⟩
def RowAt (w:World) (t:TypeId) (v:Value) (xs:List Value) (R:Nat→Prop):Prop:=
  (v= .slice none 0 0∧xs= [])∨
  ∃blk off cap c,v= .slice (some ⟨blk,off,none⟩) xs.length cap∧xs.length≤cap∧w.heap[blk]?=some (.cells c t (0,0))∧(∀i,i<xs.length→c[off+i]?=xs[i]?)∧R blk
theorem RowAt.of_owns {w:World} {base:Nat} {t:TypeId} {v:Value} {n:Nat} {xs:List Value} (h:w.ownsRow base t 1 v n xs):RowAt w t v xs (fun x=>base≤x):=by
  obtain ⟨hl,h | ⟨g,cap,cur,rfl,hb,hh,hn,_,hsz,ht⟩⟩:=h
  · obtain ⟨rfl,rfl⟩:=h
    exact .inl ⟨rfl,List.eq_nil_of_length_eq_zero (by rw [hl])⟩
  · rw [Nat.mul_one] at hl ht
    subst hl
    refine .inr ⟨g,0,cap,cur,rfl,hn,hh,fun i hi=>?_,hb⟩
    have h1:(cur.toList.take xs.length)[i]?=xs[i]?:=by rw [ht]
    rw [List.getElem?_take,if_pos hi] at h1
    rw [Nat.zero_add,←h1,Array.getElem?_toList]
def Elems (w:World) (v:Value) (xs:List Value):Prop:=
  ∃a cap,v= .slice a xs.length cap∧∀i x,xs[i]?=some x→∃blk off,a=some ⟨blk,off,none⟩∧blk<w.heap.size∧w.cell? ⟨blk,off+i,none⟩=some x
structure SortedKeys (f:Int→Option Value) (n:Nat) (ks:List Int):Prop where
  sorted:ks.Pairwise (· < ·)
  mem: ∀a,a∈ks↔okI a∧(f a).isSome=true
  len:ks.length=n
theorem sortedKeys_of {f:Int→Option Value} {n:Nat} {D:DataW Value} {ss:List Int} (hp:ss.Perm (intKeys D)) (hnd:(intKeys D).Nodup) (hlen:(intKeys D).length=n)
    (hm: ∀a,a∈intKeys D↔okI a∧(f a).isSome=true):SortedKeys f n (ss.mergeSort (fun x y=>decide (x≤y))):=by
  have hp2:(ss.mergeSort (fun x y=>decide (x≤y))).Perm (intKeys D):=(List.mergeSort_perm ss _).trans hp
  have hs:(ss.mergeSort (fun x y=>decide (x≤y))).Pairwise (fun x y=>decide (x≤y)=true):=
    List.pairwise_mergeSort (fun a b c h1 h2=>by simp at*;omega) (fun a b=>by simp;omega) ss
  have hn2:(ss.mergeSort (fun x y=>decide (x≤y))).Nodup:=(hp2.nodup_iff).2 hnd
  refine ⟨?_,fun a=>hp2.mem_iff.trans (hm a),by rw [hp2.length_eq,hlen]⟩
  refine (hs.and hn2).imp ?_
  rintro a b ⟨h1,h2⟩
  simp at h1
  omega
theorem sortsA (m:Nat):AnyZI.SortsIn Tryz.prog Tryz.sortedA_ren Fence.wide m:=
  ⟨fun blk off cap ss W hH hblk hsz=>callsIn_wide.2 (AnyM.slices_Sort_int Tryz.sortA blk off cap ss W hH hblk hsz),
   fun p cap W=>callsIn_wide.2 (AnyM.slices_Sort_int_none Tryz.sortA p cap W)⟩
end
section
open Go.ChangeMaps Go.MapKept Go.RowKit
theorem nodup_lt_length: ∀(N:Nat) (L:List Nat),L.Nodup→(∀x∈L,x<N)→L.length≤N
  | 0,L,_,h=>by
    cases L with
    | nil=>exact Nat.le_refl _
    | cons a l=>exact absurd (h a (by simp)) (by omega)
  | N+1,L,hn,h=>by
    have h1:=nodup_lt_length N (L.erase N) (hn.erase N) (fun x hx=>by
      have hx':=(hn.mem_erase_iff).1 hx
      have:=h x hx'.2
      have:=hx'.1
      omega)
    have h2:=List.length_erase (a:=N) (l:=L)
    split at h2<;>omega
theorem RowAt.cases {w:World} {t:TypeId} {v:Value} {xs:List Value} {R:Nat→Prop} (h:RowAt w t v xs R):
    ∃a cap,v= .slice a xs.length cap∧xs.length≤cap∧∀i x,xs[i]?=some x→∃blk off,a=some ⟨blk,off,none⟩∧blk<w.heap.size∧w.cell? ⟨blk,off+i,none⟩=some x∧(∃c,w.heap[blk]?=some (.cells c t (0,0)))∧R blk:=by
  rcases h with ⟨rfl,rfl⟩ | ⟨blk,off,cap,c,h1,h2,h3,h4,h5⟩
  · exact ⟨none,0,rfl,Nat.le_refl _,fun i x hx=>by simp at hx⟩
  · refine ⟨_,cap,h1,h2,fun i x hx=>⟨blk,off,rfl,lt_of_block h3,?_,⟨c,h3⟩,h5⟩⟩
    rw [cell_of_block h3,h4 i (List.getElem?_eq_some_iff.1 hx).1,hx]
def SliceOf (w:World) (v:Value) (bs:List UInt8):Prop:=
  ∃a cap,v= .slice a bs.length cap∧∀i b,bs[i]?=some b→∃blk off,a=some ⟨blk,off,none⟩∧blk<w.heap.size∧w.cell? ⟨blk,off+i,none⟩=some (B8 b)
theorem BytesAt.sliceOf {w:World} {v:Value} {bs:List UInt8} {R:Nat→Prop} (h:BytesAt w v bs R):SliceOf w v bs:=by
  obtain ⟨blk,off,cap,c,rfl,h2,h3,h4,h5⟩:=h
  refine ⟨_,cap,rfl,fun i b hb=>⟨blk,off,rfl,h3.lt,?_⟩⟩
  obtain ⟨h6,h7⟩:=List.getElem?_eq_some_iff.1 hb
  rw [h3.cell,h4 i h6,List.getD_eq_getElem?_getD,hb]
  rfl
theorem bytesObj_at {w:World} {b:Nat} {bs:List UInt8} (h:w.heap[b]?=some (bytesObj bs)) {n:Nat} (hn:bs.length=n) (cap:Nat) (hc:n≤cap) (R:Nat→Prop) (hR:R b):BytesAt w (.slice (some ⟨b,0,none⟩) n cap) bs R:=by
  subst hn
  refine ⟨b,0,cap,_,rfl,hc,IsC.of8 h,fun i hi=>?_,hR⟩
  rw [Nat.zero_add,List.getElem?_toArray,List.getElem?_map,List.getElem?_eq_getElem hi,List.getD_eq_getElem?_getD,List.getElem?_eq_getElem hi]
  rfl
def AnyB:Nat→Prop:=fun _=>True
def Off (Z:Nat→Prop):Nat→Prop:=fun x=> ¬Z x
theorem BytesAt.zone {w:World} {v:Value} {bs:List UInt8} {Z Z':Nat→Prop} (h:BytesAt w v bs (Off Z)) (hz: ∀x,Z' x→x<w.heap.size→Z x):BytesAt w v bs (Off Z'):=
  h.mono fun x hx hn hz'=>hn (hz x hz' hx)
theorem BytesAt.off {w w':World} {v:Value} {bs:List UInt8} {Z:Nat→Prop} (h:BytesAt w' v bs (Fresh w)) (hz: ∀x,Z x→x<w.heap.size):BytesAt w' v bs (Off Z):=
  h.mono fun x _ hn hx=>by have:w.heap.size≤x:=hn;have:=hz x hx;omega
theorem BytesAt.fresh {a b w:World} {v:Value} {bs:List UInt8} (h:BytesAt w v bs (Fresh b)) (hs:a.heap.size≤b.heap.size):BytesAt w v bs (Fresh a):=
  h.mono fun _ _ hx=>Nat.le_trans hs hx
def DevIn (Z:Nat→Prop) (w:World) (h:Hdl) (D:DSt):Prop:=DevAt w h D (Off Z)
theorem DevIn.zone {Z Z':Nat→Prop} {w:World} {h:Hdl} {D:DSt} (H:DevIn Z w h D) (hz: ∀x,Z' x→x<w.heap.size→Z x):DevIn Z' w h D:=DevAt.mono H fun x hx hn hz'=>hn (hz x hz' hx)
def Dry (w:World) (M:Nat→Prop):Prop:= ∀x,x<w.heap.size→M x→∀c,¬IsC w x c
theorem Dry.none (w:World):Dry w NoB:=fun _ _ h=>h.elim
theorem BytesAt.frmZ {w w':World} {v:Value} {bs:List UInt8} {R N:Nat→Prop} (h:BytesAt w v bs R) (hf:Frm N w w') (hd:Dry w N):BytesAt w' v bs R:=
  h.of_block fun x c _ hc=>hf.block x hc.lt fun hN=>hd x hc.lt hN c hc
theorem BytesAt.any {w:World} {v:Value} {bs:List UInt8} {R:Nat→Prop} (h:BytesAt w v bs R):BytesAt w v bs AnyB:=h.mono fun _ _ _=>trivial
end
section
open Go.ChangeMaps Go.MapKept Go.RowKit
variable {Z:Nat→Prop}
theorem DevAt.toIn {w w':World} {h:Hdl} {D:DSt} (H:DevAt w' h D (grow (Off Z) w w')) (hz: ∀x,Z x→x<w.heap.size):DevIn Z w' h D:=
  H.mono fun x _ hx=>by
    rcases hx with hx | hx
    · exact hx
    · exact fun hZ=>by have:=hz x hZ;omega
theorem DevIn.frm {w w':World} {h:Hdl} {D:DSt} {M:Nat→Prop} (H:DevIn Z w h D) (hf:Frm M w w') (hd:Dry w M) (ha: ∀x,M x→¬h.M x):DevIn Z w' h D:=
  DevAt.frm2 H hf (fun x hx hM=>⟨ha x hM,fun _=>hd x hx hM⟩)
theorem Write_in (w:World) (h:Hdl) (D:DSt) (H:DevIn Z w h D) (hz: ∀x,Z x→x<w.heap.size) (ho:D.ops<4611686018427387904) (hoff:D.off=false) (k:Int) (v:Value) (bs:Blk) (Rv:Nat→Prop)
    (h0:0≤k) (hk:k<D.n) (hbs:bs.length=512) (hv:BytesAt w v bs Rv):
    Calls Tryz.prog 227 #[.pointer (some ⟨h.b,0,none⟩),.int .i64 k,v] w fun e w'=>
      e= .returned (.int .i64 0)∧DevIn Z w' h (D.op.put k.toNat bs)∧Frm h.M w w':=
  (Write_ok w h D (Off Z) H ho hoff k v bs Rv h0 hk hbs hv).mono fun _ _ ⟨a,b,c⟩=>⟨a,b.toIn hz,c⟩
theorem Flush_in (w:World) (h:Hdl) (D:DSt) (H:DevIn Z w h D) (ho:D.ops<4611686018427387903) (hoff:D.off=false):
    Calls Tryz.prog 143 #[.pointer (some ⟨h.b,0,none⟩)] w fun e w'=>
      e= .returned (.int .i64 0)∧DevIn Z w' h D.op.flushed∧Frm h.M w w':=Flush_ok w h D (Off Z) H ho hoff
def MadeIn (Z:Nat→Prop) (w:World) (D:DSt) (v:Value) (w':World):Prop:=
  Frm NoB w w'∧∃h:Hdl,v= .pointer (some ⟨h.b,0,none⟩)∧DevIn Z w' h D∧(∀x,h.M x→w.heap.size≤x)
theorem New_in (w:World) (n:Int) (h1:1≤n) (h2:n≤65536):
    Calls Tryz.prog 36 #[.int .i64 n] w fun e w'=> ∃v,e= .returned (.tuple #[v,.int .i64 0])∧MadeIn Z w (DSt.new n.toNat) v w':=
  (New_any w n h1 h2).mono fun _ _ ⟨v,a,b,h,c,d,e⟩=>⟨v,a,b,h,c,DevAt.mono d (fun _ _ h=>h.elim),e⟩
theorem Read_in (w:World) (h:Hdl) (D:DSt) (H:DevIn Z w h D) (k:Int) (h0:0≤k) (hk:k<D.n) (ho:D.ops<4611686018427387904):
    Calls Tryz.prog 139 #[.pointer (some ⟨h.b,0,none⟩),.int .i64 k] w fun e w'=> ∃v,e= .returned (.tuple #[v,.int .i64 0])∧BytesAt w' v (D.last k.toNat) (Fresh w)∧Frm NoB w w':=
  (Read_any w h D (Off Z) H k h0 hk ho).mono fun _ _ ⟨b,a⟩=>⟨_,a,by rw [b];exact bytesObj_at (block_alloc_new _ _) (DSt.last_length H.wf _) 512 (Nat.le_refl _) _ (Nat.le_refl _),by rw [b];exact (Frm.refl _ _).alloc _⟩
end
section
open Go.ChangeMaps Go.MapKept Go.RowKit
theorem block_at (w:World) (bs:Blk) (hb:bs.length=512):BytesAt (w.alloc (bytesObj bs)) (.slice (some ⟨w.heap.size,0,none⟩) 512 512) bs (Fresh w):=bytesObj_at (block_alloc_new _ _) hb 512 (Nat.le_refl _) (Fresh w) (Nat.le_refl _)
theorem BytesAt.frm0 {w w':World} {v:Value} {bs:List UInt8} {R:Nat→Prop} (h:BytesAt w v bs R) (hf:Frm NoB w w'):BytesAt w' v bs R:=h.frmB hf (fun _ hx=>hx.elim)
structure Res where
  M:Nat→Prop
  inv:(Nat→Prop)→World→Prop
  lt: ∀Z w,inv Z w→∀x,M x→x<w.heap.size
  dry: ∀Z w,inv Z w→∀x,M x→∀c,¬IsC w x c
  keep: ∀Z w w' N,inv Z w→Frm N w w'→Dry w N→(∀x,M x→¬N x)→inv Z w'
  zone: ∀Z Z' w,inv Z w→(∀x,Z' x→x<w.heap.size→Z x)→(∀x,Z x→Z' x)→inv Z' w
structure Gnd where
  w:World
  Z:Nat→Prop
instance:Coe World Gnd:=⟨fun w=>⟨w,NoB⟩⟩
structure St (w0:Gnd) (w:World) (rs:List Res):Prop where
  base:Frm NoB w0.w w
  zin: ∀x,w0.Z x→x<w.heap.size
  inv: ∀r∈rs,r.inv w0.Z w
  new: ∀r∈rs,∀x,r.M x→w0.w.heap.size≤x
  apart:rs.Pairwise (fun a b=> ∀x,a.M x→¬b.M x)
theorem St.start (w:World):St w w []:=⟨Frm.refl _ _,fun _ h=>h.elim,fun _ h=>(by cases h),fun _ h=>(by cases h),List.Pairwise.nil⟩
theorem St.get {w0:Gnd} {w:World} {rs:List Res} (h:St w0 w rs) {i:Nat} {r:Res} (hr:rs[i]?=some r):r.inv w0.Z w:=h.inv r (List.mem_of_getElem? hr)
theorem St.frm0 {w0:Gnd} {w w':World} {rs:List Res} (h:St w0 w rs) (hf:Frm NoB w w'):St w0 w' rs:=
  ⟨h.base.trans hf (fun _ _ e=>e),fun x hx=>Nat.lt_of_lt_of_le (h.zin x hx) hf.size,fun r hr=>r.keep _ w w' NoB (h.inv r hr) hf (Dry.none w) (fun _ _ e=>e),h.new,h.apart⟩
theorem St.make {w0:Gnd} {w w':World} {rs:List Res} (h:St w0 w rs) (hf:Frm NoB w w') (r:Res) (hi:r.inv w0.Z w') (hn: ∀x,r.M x→w.heap.size≤x):St w0 w' (r::rs):=by
  have h1:=h.frm0 hf
  refine ⟨h1.base,h1.zin,fun a ha=>?_,fun a ha=>?_,List.pairwise_cons.2 ⟨fun b hb x hx hbx=>?_,h1.apart⟩⟩
  · rcases List.mem_cons.1 ha with rfl | ha
    · exact hi
    · exact h1.inv a ha
  · rcases List.mem_cons.1 ha with rfl | ha
    · exact fun x hx=>Nat.le_trans h.base.size (hn x hx)
    · exact h1.new a ha
  · have:=b.lt _ w (h.inv b hb) x hbx
    have:=hn x hx
    omega
theorem St.write {w0:Gnd} {w w':World} {rs:List Res} (h:St w0 w rs) (i:Nat) {r:Res} (hr:rs[i]?=some r) (hf:Frm r.M w w') (r':Res) (hi:r'.inv w0.Z w') (hM: ∀x,r'.M x→r.M x∨w.heap.size≤x):St w0 w' (rs.set i r'):=by
  have hmem:=List.mem_of_getElem? hr
  obtain ⟨hi1,hi2⟩:=List.getElem?_eq_some_iff.1 hr
  have hoth: ∀(j:Nat) (hj:j<rs.length),j≠i→∀x,rs[j].M x→¬r.M x:=fun j hj hne x hx hrx=>by
    have hp:=List.pairwise_iff_getElem.1 h.apart
    rcases Nat.lt_or_gt_of_ne hne with hlt | hlt
    · exact hp j i hj hi1 hlt x hx (hi2▸hrx)
    · exact hp i j hi1 hj hlt x (hi2▸hrx) hx
  have hbig: ∀(j:Nat) (hj:j<rs.length) x,rs[j].M x→x<w.heap.size:=fun j hj x hx=>rs[j].lt _ w (h.inv _ (List.getElem_mem hj)) x hx
  refine ⟨h.base.trans hf (fun x hx hM=>by have:=h.new r hmem x hM;omega),fun x hx=>Nat.lt_of_lt_of_le (h.zin x hx) hf.size,fun a ha=>?_,fun a ha x hx=>?_,?_⟩
  · obtain ⟨j,hj,rfl⟩:=List.getElem_of_mem ha
    rw [List.length_set] at hj
    rw [List.getElem_set]
    split
    · exact hi
    · rename_i hne
      exact rs[j].keep _ w w' r.M (h.inv _ (List.getElem_mem hj)) hf (fun x _ hx=>r.dry _ w (h.inv r hmem) x hx) (hoth j hj (Ne.symm hne))
  · obtain ⟨j,hj,rfl⟩:=List.getElem_of_mem ha
    rw [List.length_set] at hj
    rw [List.getElem_set] at hx
    split at hx
    · rcases hM x hx with h1 | h1
      · exact h.new r hmem x h1
      · exact Nat.le_trans h.base.size h1
    · exact h.new _ (List.getElem_mem hj) x hx
  · rw [List.pairwise_iff_getElem]
    intro j k hj hk hjk x hx hkx
    rw [List.length_set] at hj hk
    rw [List.getElem_set] at hx hkx
    split at hx
    · split at hkx
      · omega
      · rename_i e hne
        rcases hM x hx with h1 | h1
        · exact hoth k hk (Ne.symm hne) x hkx h1
        · have:=hbig k hk x hkx;omega
    · rename_i hne
      split at hkx
      · rcases hM x hkx with h1 | h1
        · exact hoth j hj (Ne.symm hne) x hx h1
        · have:=hbig j hj x hx;omega
      · exact List.pairwise_iff_getElem.1 h.apart j k hj hk hjk x hx hkx
theorem St.sub {w0:Gnd} {w:World} {rs rs':List Res} (h:St w0 w rs) (hs:rs'.Sublist rs):St w0 w rs':=
  ⟨h.base,h.zin,fun r hr=>h.inv r (hs.subset hr),fun r hr=>h.new r (hs.subset hr),h.apart.sublist hs⟩
theorem St.drop {w0:Gnd} {w:World} {rs:List Res} (h:St w0 w rs) (n:Nat):St w0 w (rs.drop n):=h.sub (List.drop_sublist n rs)
theorem St.pick {w0:Gnd} {w:World} {rs:List Res} (h:St w0 w rs) (is:List Nat) (rs':List Res) (hn:is.Nodup) (hr:is.map (rs[·]?)=rs'.map some):St w0 w rs':=by
  have hlen:is.length=rs'.length:=by have:=congrArg List.length hr;simpa using this
  have hget: ∀(j:Nat) (hj:j<rs'.length),rs[is[j]'(by omega)]?=some rs'[j]:=fun j hj=>by
    have:=congrArg (fun l=>l[j]?) hr
    simp only [List.getElem?_map] at this
    rw [List.getElem?_eq_getElem (by omega),List.getElem?_eq_getElem hj] at this
    simpa using this
  have hmem: ∀r∈rs',r∈rs:=fun r hr=>by
    obtain ⟨j,hj,rfl⟩:=List.getElem_of_mem hr
    exact List.mem_of_getElem? (hget j hj)
  refine ⟨h.base,h.zin,fun r hr=>h.inv r (hmem r hr),fun r hr=>h.new r (hmem r hr),?_⟩
  rw [List.pairwise_iff_getElem]
  intro j k hj hk hjk x hx hkx
  obtain ⟨a1,a2⟩:=List.getElem?_eq_some_iff.1 (hget j hj)
  obtain ⟨b1,b2⟩:=List.getElem?_eq_some_iff.1 (hget k hk)
  have hne:is[j]'(by omega)≠is[k]'(by omega):=List.pairwise_iff_getElem.1 hn j k (by omega) (by omega) hjk
  have hp:=List.pairwise_iff_getElem.1 h.apart
  rcases Nat.lt_or_gt_of_ne hne with hlt | hlt
  · exact hp _ _ a1 b1 hlt x (a2▸hx) (b2▸hkx)
  · exact hp _ _ b1 a1 hlt x (b2▸hkx) (a2▸hx)
def dev (h:Hdl) (D:DSt):Res where
  M:=h.M
  inv:=fun Z w=>DevIn Z w h D
  lt:=fun Z w H x hx=>by
    obtain ⟨_,⟨left,hb,_⟩,⟨nf,f,Mf,_⟩,⟨ng,g,Mg,_⟩,⟨nm,m,Mm,_⟩,_⟩:=H
    rcases hx with rfl | rfl | rfl | rfl
    · exact lt_of_block hb
    · exact Mf.lt
    · exact Mg.lt
    · exact Mm.lt
  dry:=fun Z w H x hx=>H.noBytes x hx
  keep:=fun Z w w' N H hf hd ha=>H.frm hf hd (fun x hn hx=>ha x hx hn)
  zone:=fun Z Z' w H hz _=>H.zone hz
def byt (v:Value) (bs:List UInt8):Res where
  M:=NoB
  inv:=fun Z w=>BytesAt w v bs AnyB
  lt:=fun _ _ _ _ h=>h.elim
  dry:=fun _ _ _ _ h=>h.elim
  keep:=fun Z w w' N H hf hd _=>H.frmZ hf hd
  zone:=fun _ _ _ H _ _=>H
theorem St.mkByt {w0:Gnd} {w w':World} {rs:List Res} (h:St w0 w rs) (hf:Frm NoB w w') {v:Value} {bs:List UInt8} {R:Nat→Prop} (hb:BytesAt w' v bs R):St w0 w' (byt v bs::rs):=
  h.make hf (byt v bs) hb.any (fun _ h=>h.elim)
def arr (b:Nat) (c:Array Value) (t:TypeId) (ht: ¬U8T t):Res where
  M:=Only b
  inv:=fun Z w=>w.heap[b]?=some (.cells c t (0,0))
  lt:=fun Z w H x hx=>by obtain rfl:x=b:=hx;exact lt_of_block H
  dry:=fun Z w H x hx c' e=>by
    obtain rfl:x=b:=hx
    exact notC_cells H ht _ e
  keep:=fun Z w w' N H hf _ ha=>(hf.block b (lt_of_block H) (ha b rfl)).trans H
  zone:=fun Z Z' w H _ _=>H
theorem St.newArr {w0:Gnd} {w:World} {rs:List Res} (h:St w0 w rs) (c:Array Value) (t:TypeId) (ht: ¬U8T t):St w0 (w.alloc (.cells c t (0,0))) (arr w.heap.size c t ht::rs):=
  h.make ((Frm.refl _ _).alloc _) (arr w.heap.size c t ht) (block_alloc_new _ _) (fun x hx=>by obtain rfl:x=w.heap.size:=hx;exact Nat.le_refl _)
theorem St.setArr {w0:Gnd} {w:World} {rs:List Res} (h:St w0 w rs) (i:Nat) {b:Nat} {c:Array Value} {t:TypeId} {ht: ¬U8T t} (hr:rs[i]?=some (arr b c t ht)) (j:Nat) (v:Value):
    St w0 (w.setCell ⟨b,j,none⟩ v) (rs.set i (arr b (c.setIfInBounds j v) t ht)):=
  h.write i hr ((Frm.refl (Only b) w).setOnly v) (arr b _ t ht) (block_setCell_same v (h.get hr)) (fun _ hx=> .inl hx)
theorem St.arrCell {w0:Gnd} {w:World} {rs:List Res} (h:St w0 w rs) {i:Nat} {b:Nat} {c:Array Value} {t:TypeId} {ht: ¬U8T t} (hr:rs[i]?=some (arr b c t ht)) (j:Nat):w.cell? ⟨b,j,none⟩=c[j]?:=
  cell_of_block (h.get hr)
theorem St.arrFree {w0:Gnd} {w:World} {rs:List Res} (h:St w0 w rs) {i:Nat} {b:Nat} {c:Array Value} {t:TypeId} {ht: ¬U8T t} (hr:rs[i]?=some (arr b c t ht)) (j:Nat):w.frozen? ⟨b,j,none⟩=false:=
  frozen_of_block (h.get hr)
theorem off_of_lim {D:DSt} (h:D.lim=none):D.off=false:=by unfold DSt.off;rw [h];rfl
theorem last_put_same (D:DSt) (k:Nat) (b:Blk):(D.put k b).last k=b:=by simp [DSt.last,DSt.put]
theorem last_put_other (D:DSt) {k j:Nat} (b:Blk) (h:j≠k):(D.put k b).last j=D.last j:=by simp [DSt.last,DSt.put,h]
theorem last_of_clean (D:DSt) (k:Nat) (h:D.pend k= []):D.last k=D.base k:=by unfold DSt.last;rw [h];rfl
end
section
open Go.ChangeMaps Go.MapKept Go.RowKit
variable {w0:Gnd} {w:World} {rs:List Res}
theorem S_New (h:St w0 w rs) (n:Int) (h1:1≤n) (h2:n≤65536):
    Calls Tryz.prog 36 #[.int .i64 n] w fun e w'=> ∃H:Hdl,e= .returned (.tuple #[.pointer (some ⟨H.b,0,none⟩),.int .i64 0])∧St w0 w' (dev H (DSt.new n.toNat)::rs):=
  (New_in w n h1 h2).mono fun _ _ ⟨v,a,hf,H,b,hd,hm⟩=>⟨H,by rw [a,b],h.make hf (dev H _) hd hm⟩
theorem S_Write (h:St w0 w rs) (i j:Nat) {H:Hdl} {D:DSt} {v:Value} {bs:Blk} (hr:rs[i]?=some (dev H D)) (hv:rs[j]?=some (byt v bs)) (k:Int) (ho:D.ops<4611686018427387904) (hoff:D.off=false) (h0:0≤k) (hk:k<D.n) (hbs:bs.length=512):
    Calls Tryz.prog 227 #[.pointer (some ⟨H.b,0,none⟩),.int .i64 k,v] w fun e w'=>e= .returned (.int .i64 0)∧St w0 w' (rs.set i (dev H (D.op.put k.toNat bs))):=
  (Write_in w H D (h.get hr) h.zin ho hoff k v bs AnyB h0 hk hbs (h.get hv)).mono fun _ _ ⟨a,hd,hf⟩=>⟨a,h.write i hr hf (dev H _) hd (fun _ h=> .inl h)⟩
theorem S_WriteOff (h:St w0 w rs) (i:Nat) {H:Hdl} {D:DSt} (hr:rs[i]?=some (dev H D)) (k:Int) (v:Value) (ho:D.ops<4611686018427387904) (hoff:D.off=true):
    Calls Tryz.prog 227 #[.pointer (some ⟨H.b,0,none⟩),.int .i64 k,v] w fun e w'=>e= .returned (.int .i64 9)∧St w0 w' (rs.set i (dev H D.op)):=
  (Write_off w H D (Off w0.Z) (h.get hr) ho hoff k v).mono fun _ _ ⟨a,hd,hf⟩=>⟨a,h.write i hr hf (dev H _) hd (fun _ h=> .inl h)⟩
theorem S_Flush (h:St w0 w rs) (i:Nat) {H:Hdl} {D:DSt} (hr:rs[i]?=some (dev H D)) (ho:D.ops<4611686018427387903) (hoff:D.off=false):
    Calls Tryz.prog 143 #[.pointer (some ⟨H.b,0,none⟩)] w fun e w'=>e= .returned (.int .i64 0)∧St w0 w' (rs.set i (dev H D.op.flushed)):=
  (Flush_in w H D (h.get hr) ho hoff).mono fun _ _ ⟨a,hd,hf⟩=>⟨a,h.write i hr hf (dev H _) hd (fun _ h=> .inl h)⟩
theorem S_FlushOff (h:St w0 w rs) (i:Nat) {H:Hdl} {D:DSt} (hr:rs[i]?=some (dev H D)) (ho:D.ops<4611686018427387904) (hoff:D.off=true):
    Calls Tryz.prog 143 #[.pointer (some ⟨H.b,0,none⟩)] w fun e w'=>e= .returned (.int .i64 9)∧St w0 w' (rs.set i (dev H D.op)):=
  (Flush_off w H D (Off w0.Z) (h.get hr) ho hoff).mono fun _ _ ⟨a,hd,hf⟩=>⟨a,h.write i hr hf (dev H _) hd (fun _ h=> .inl h)⟩
theorem S_Read (h:St w0 w rs) (i:Nat) {H:Hdl} {D:DSt} (hr:rs[i]?=some (dev H D)) (k:Int) (h0:0≤k) (hk:k<D.n) (ho:D.ops<4611686018427387904):
    Calls Tryz.prog 139 #[.pointer (some ⟨H.b,0,none⟩),.int .i64 k] w fun e w'=> ∃v,e= .returned (.tuple #[v,.int .i64 0])∧St w0 w' (byt v (D.last k.toNat)::rs):=
  (Read_in w H D (h.get hr) k h0 hk ho).mono fun _ _ ⟨v,a,hb,hf⟩=>⟨v,a,h.mkByt hf hb⟩
theorem S_ReadZ (h:St w0 w rs) (i:Nat) {H:Hdl} {D:DSt} (hr:rs[i]?=some (dev H D)) (k:Int) (h0:0≤k) (hk:k<D.n) (ho:D.ops<4611686018427387904):
    Calls Tryz.prog 139 #[.pointer (some ⟨H.b,0,none⟩),.int .i64 k] w fun e w'=> ∃v,e= .returned (.tuple #[v,.int .i64 0])∧St w0 w' (byt v (D.last k.toNat)::rs)∧BytesAt w' v (D.last k.toNat) (Off w0.Z):=
  (Read_in w H D (h.get hr) k h0 hk ho).mono fun _ _ ⟨v,a,hb,hf⟩=>⟨v,a,h.mkByt hf hb,hb.off h.zin⟩
theorem S_Blocks (h:St w0 w rs) (i:Nat) {H:Hdl} {D:DSt} (hr:rs[i]?=some (dev H D)):
    Calls Tryz.prog 66 #[.pointer (some ⟨H.b,0,none⟩)] w fun e w'=>w=w'∧e= .returned (.int .i64 D.n):=Blocks_any w H D (Off w0.Z) (h.get hr)
end
section
open Go.ChangeMaps Go.MapKept Go.RowKit
theorem u64_in {x:Int} (h0:0≤x) (h1:x<18446744073709551616):IntKind.u64.wrap x=x:=by
  simp [IntKind.wrap,IntKind.bits,IntKind.signed]
  omega
def leVal:List UInt8→Nat
  | []=>0
  | b::r=>b.toNat+256*leVal r
theorem leVal_lt: ∀l:List UInt8,leVal l<256 ^ l.length
  | []=>by simp [leVal]
  | b::r=>by
    have h1:=leVal_lt r
    have h2:=b.toNat_lt
    rw [List.length_cons,Nat.pow_succ]
    show b.toNat+256*leVal r<_
    omega
def leBytes:Nat→Nat→List UInt8
  | 0,_=> []
  | n+1,v=>UInt8.ofNat v::leBytes n (v/256)
theorem leBytes_length: ∀n v,(leBytes n v).length=n
  | 0,_=>rfl
  | n+1,v=>by rw [leBytes,List.length_cons,leBytes_length n]
theorem leVal_leBytes: ∀n v,v<256 ^ n→leVal (leBytes n v)=v
  | 0,v,h=>by simp at h;subst h;rfl
  | n+1,v,h=>by
    show (UInt8.ofNat v).toNat+256*leVal (leBytes n (v/256))=v
    rw [leVal_leBytes n (v/256) (by rw [Nat.pow_succ] at h;omega),UInt8.toNat_ofNat']
    omega
theorem leBytes_get: ∀(n v i:Nat),i<n→(leBytes n v)[i]?=some (UInt8.ofNat (v/256 ^ i))
  | 0,_,_,h=>by omega
  | n+1,v,0,_=>by simp [leBytes]
  | n+1,v,i+1,h=>by
    rw [leBytes,List.getElem?_cons_succ,leBytes_get n (v/256) i (by omega),Nat.div_div_eq_div_mul,Nat.pow_succ,Nat.mul_comm]
def putLE (bs:List UInt8) (p n v:Nat):List UInt8:=bs.take p++leBytes n v++bs.drop (p+n)
def getLE (bs:List UInt8) (p n:Nat):Nat:=leVal ((bs.drop p).take n)
theorem putLE_length (bs:List UInt8) (p n v:Nat) (h:p+n≤bs.length):(putLE bs p n v).length=bs.length:=by
  unfold putLE
  rw [List.length_append,List.length_append,List.length_take,leBytes_length,List.length_drop]
  omega
theorem getLE_putLE_same (bs:List UInt8) (p n v:Nat) (h:p+n≤bs.length) (hv:v<256 ^ n):getLE (putLE bs p n v) p n=v:=by
  unfold getLE putLE
  have h1:(bs.take p).length=p:=by rw [List.length_take];omega
  rw [List.append_assoc,List.drop_append,h1,Nat.sub_self,List.drop_zero,List.drop_of_length_le (by omega),List.nil_append,List.take_append,leBytes_length,Nat.sub_self,List.take_zero,List.append_nil,
    List.take_of_length_le (by rw [leBytes_length];omega)]
  exact leVal_leBytes n v hv
theorem putLE_get (bs:List UInt8) (p n v i:Nat) (h:p+n≤bs.length):(putLE bs p n v)[i]?=if p≤i∧i<p+n then some (UInt8.ofNat (v/256 ^ (i-p))) else bs[i]?:=by
  unfold putLE
  have h1:(bs.take p).length=p:=by rw [List.length_take];omega
  rw [List.append_assoc,List.getElem?_append,h1]
  split
  · rename_i hlt
    rw [if_neg (by omega),List.getElem?_take,if_pos hlt]
  · rw [List.getElem?_append,leBytes_length]
    split
    · rw [if_pos (by omega),leBytes_get _ _ _ (by omega)]
    · rw [if_neg (by omega),List.getElem?_drop]
      congr 1
      omega
theorem getLE_congr {cs bs:List UInt8} {p n:Nat} (h: ∀i,p≤i→i<p+n→cs[i]?=bs[i]?):getLE cs p n=getLE bs p n:=by
  unfold getLE
  congr 1
  apply List.ext_getElem?
  intro i
  rw [List.getElem?_take,List.getElem?_take,List.getElem?_drop,List.getElem?_drop]
  split
  · exact h _ (by omega) (by omega)
  · rfl
theorem getLE_putLE_other (bs:List UInt8) (p n v q m:Nat) (h:p+n≤bs.length) (hd:q+m≤p∨p+n≤q):getLE (putLE bs p n v) q m=getLE bs q m:=
  getLE_congr fun i h1 h2=>by rw [putLE_get _ _ _ _ _ h,if_neg (by omega)]
theorem or_byte (a b:Nat) (ha:a<72057594037927936) (hb:b<256):Go.bits .or .u64 ((a:Int)*256) (b:Int)=((a*256+b:Nat):Int):=by
  have h1:(BitVec.ofInt IntKind.u64.bits ((a:Int)*256)).toNat=a*256:=by
    rw [BitVec.toNat_ofInt]
    show ((a:Int)*256%18446744073709551616).toNat=a*256
    omega
  have h2:(BitVec.ofInt IntKind.u64.bits (b:Int)).toNat=b:=by
    rw [BitVec.toNat_ofInt]
    show ((b:Int)%18446744073709551616).toNat=b
    omega
  have h3:(BitVec.ofInt IntKind.u64.bits ((a:Int)*256) ||| BitVec.ofInt IntKind.u64.bits (b:Int)).toNat=a*256+b:=by
    rw [BitVec.toNat_or,h1,h2]
    have:=Nat.two_pow_add_eq_or_of_lt (i:=8) (b:=b) (by omega) a
    rw [Nat.mul_comm]
    exact this.symm
  show IntKind.u64.wrap ((BitVec.ofInt IntKind.u64.bits ((a:Int)*256) ||| BitVec.ofInt IntKind.u64.bits (b:Int)).toNat:Int)=_
  rw [h3]
  exact u64_in (by omega) (by omega)
theorem pow_le (i:Nat) (h:i≤7):256 ^ i≤72057594037927936:=by
  rcases (by omega:i=0∨i=1∨i=2∨i=3∨i=4∨i=5∨i=6∨i=7) with rfl | rfl | rfl | rfl | rfl | rfl | rfl | rfl<;>decide
set_option maxRecDepth 100000 in
theorem bitsMay_any (w:World) (a:Option Addr) (len cap:Nat) (p size:Int) (h1:1≤size) (h2:size≤8) (h3:0≤p) (h4:p+size≤len) (h5:len<4611686018427387904):
    Calls Tryz.prog 229 #[.slice a len cap,.int .i64 p,.int .i64 size] w fun e w'=>w=w'∧e= .returned (.bool true):=by
  have h6:p≤(len:Int)-size:=by omega
  go_enter Tryz.func229,Tryz.ntmps229
  go_wp2
  go_ret
  exact ⟨rfl,rfl⟩
def tailLE (bs:List UInt8) (p n i:Nat):Nat:=getLE bs (p+(n-i)) i
theorem tailLE_succ (bs:List UInt8) (p n i:Nat) (hi:i<n) (h:p+n≤bs.length) (y:UInt8) (hy:bs[p+(n-1-i)]?=some y):tailLE bs p n (i+1)=tailLE bs p n i*256+y.toNat:=by
  unfold tailLE getLE
  have e1:p+(n-(i+1))=p+(n-1-i):=by omega
  obtain ⟨h1,h2⟩:=List.getElem?_eq_some_iff.1 hy
  rw [e1,List.drop_eq_getElem_cons h1,h2,List.take_succ_cons,show p+(n-1-i)+1=p+(n-i) from by omega]
  show y.toNat+256*_=_
  omega
theorem tailLE_lt (bs:List UInt8) (p n i:Nat) (hi:i≤n) (h:p+n≤bs.length):tailLE bs p n i<256 ^ i:=by
  unfold tailLE getLE
  have h1:=leVal_lt ((bs.drop (p+(n-i))).take i)
  have h2:((bs.drop (p+(n-i))).take i).length=i:=by rw [List.length_take,List.length_drop];omega
  rwa [h2] at h1
theorem getLE_lt (bs:List UInt8) (p n:Nat) (h:p+n≤bs.length):getLE bs p n<256 ^ n:=by
  have:=tailLE_lt bs p n n (Nat.le_refl _) h
  unfold tailLE at this
  rwa [Nat.sub_self] at this
set_option maxRecDepth 100000 in
theorem bitsGet_any (w:World) (v:Value) (bs:List UInt8) (p size:Nat) (hv:SliceOf w v bs) (h1:1≤size) (h2:size≤8) (h4:p+size≤bs.length) (h5:bs.length<4611686018427387904):
    Calls Tryz.prog 147 #[v,.int .i64 p,.int .i64 size,.bool false] w fun e w'=>w=w'∧e= .returned (.tuple #[.int .u64 (getLE bs p size),.bool true]):=by
  obtain ⟨a,cap,rfl,hcell⟩:=hv
  have HC:=Lib.hid hcell
  clear hcell
  go_enter Tryz.func147,Tryz.ntmps147
  go_wp2_with fail
  refine (bitsMay_any _ _ _ _ _ _ (by omega) (by omega) (by omega) (by omega) (by omega)).mono ?_
  rintro e w2 ⟨rfl,rfl⟩
  go_wp2_with fail
  go_loopw [8,10,11,18] (fun tv _ _ ti wr=>wr=w∧∃i:Nat,i≤size∧ti= .int .i64 i∧tv= .int .u64 (tailLE bs p size i)) (fun _ _ _ ti _=>size-(intOf ti).toNat)
  case atStart=>exact ⟨rfl,0,Nat.zero_le _,rfl,rfl⟩
  case round=>
    obtain ⟨rfl,i,hi,rfl,rfl⟩:=hrel
    by_cases hlt:i<size
    · have hi0:(0:Int)≤(i:Int):=Int.natCast_nonneg _
      have hi1:(i:Int)<(size:Int):=by omega
      obtain ⟨y,hy⟩: ∃y,bs[p+(size-1-i)]?=some y:=⟨_,List.getElem?_eq_getElem (by omega)⟩
      obtain ⟨blk,off,rfl,hb,hc0⟩:=HC.out (p+(size-1-i)) y hy
      have hc:wr.cell? ⟨blk,off+(p+(size-1-i)),none⟩=some (.int .u8 y.toNat):=hc0
      have HS:=Lib.hid (tailLE_succ bs p size i hlt h4 y hy)
      have hx1:=Nat.lt_of_lt_of_le (tailLE_lt bs p size i hi h4) (pow_le i (by omega))
      clear hy hc0
      generalize tailLE bs p size i=x at*
      have hyl:=y.toNat_lt
      have e1:((p:Int)+((size:Int)-1-(i:Int)))=((p+(size-1-i):Nat):Int):=by omega
      have hw:IntKind.u64.wrap ((x:Int)*256)=(x:Int)*256:=u64_in (by omega) (by omega)
      have hwy:IntKind.u64.wrap (y.toNat:Int)=(y.toNat:Int):=u64_in (by omega) (by omega)
      have hor:Go.bits .or .u64 ((x:Int)*256) (y.toNat:Int)=((tailLE bs p size (i+1):Nat):Int):=by rw [HS.out];exact or_byte x y.toNat hx1 (by omega)
      go_wp2
      exact ⟨⟨trivial,i+1,hlt,by go_num,rfl⟩,by simp [intOf];omega⟩
    · obtain rfl:i=size:=by omega
      have hT:tailLE bs p i i=getLE bs p i:=by unfold tailLE;rw [Nat.sub_self];rfl
      rw [hT]
      go_wp2
      go_ret2
      exact ⟨rfl,rfl⟩
theorem BytesAt.put {w:World} {blk off cap:Nat} {bs:List UInt8} {n:Nat} {R:Nat→Prop} (h:BytesAt w (.slice (some ⟨blk,off,none⟩) n cap) bs R) (j:Nat) (hj:j<bs.length) (y:UInt8):
    BytesAt (w.setCell ⟨blk,off+j,none⟩ (B8 y)) (.slice (some ⟨blk,off,none⟩) n cap) (bs.set j y) R:=by
  obtain ⟨blk',off',cap',c,e,h2,h3,h4,h5⟩:=h
  injection e with e1 e2 e3
  injection e1 with e1
  injection e1 with e1 e4
  subst e1 e2 e3 e4
  have hc:off+j<c.size:=by
    rcases Nat.lt_or_ge (off+j) c.size with h | h
    · exact h
    · have:=h4 j hj
      rw [Array.getElem?_eq_none h] at this
      cases this
  refine ⟨blk,off,cap,c.setIfInBounds (off+j) (B8 y),by rw [List.length_set],by rw [List.length_set];exact h2,h3.set _,fun i hi=>?_,h5⟩
  rw [List.length_set] at hi
  rw [List.getD_eq_getElem?_getD]
  by_cases e:i=j
  · subst e
    rw [Array.getElem?_setIfInBounds_self_of_lt hc,List.getElem?_set_self hi]
    rfl
  · rw [Array.getElem?_setIfInBounds_ne (by omega),List.getElem?_set_ne (Ne.symm e),←List.getD_eq_getElem?_getD]
    exact h4 i hi
theorem putLE_succ (bs:List UInt8) (p v i:Nat) (h:p+i<bs.length):putLE bs p (i+1) v=(putLE bs p i v).set (p+i) (UInt8.ofNat (v/256 ^ i)):=by
  apply List.ext_getElem?
  intro k
  rw [putLE_get _ _ _ _ _ (by omega),List.getElem?_set,putLE_length _ _ _ _ (by omega),putLE_get _ _ _ _ _ (by omega)]
  by_cases e:p+i=k
  · subst e
    rw [if_pos (by omega),if_pos rfl,if_pos h,show p+i-p=i from by omega]
  · rw [if_neg e]
    by_cases hk:p≤k∧k<p+i
    · rw [if_pos hk,if_pos (by omega)]
    · rw [if_neg hk,if_neg (by omega)]
theorem putLE_zero (bs:List UInt8) (p v:Nat):putLE bs p 0 v=bs:=by
  unfold putLE
  rw [leBytes,List.append_nil,Nat.add_zero,List.take_append_drop]
theorem two_pow8 (i:Nat):(2:Int) ^ (8*i)=((256 ^ i:Nat):Int):=by
  rw [show (256:Nat)=2 ^ 8 from rfl,←Nat.pow_mul]
  norm_cast
theorem shr_nat (n i:Nat) (s:Int) (hs:8*(i:Int)=s):(n:Int)/2 ^ s.toNat=((n/256 ^ i:Nat):Int):=by
  rw [←hs,show (8*(i:Int)).toNat=8*i from by omega,two_pow8]
  exact (Int.natCast_ediv n (256 ^ i)).symm
theorem byte_nat (q:Nat):(q:Int)%256=((UInt8.ofNat q).toNat:Int):=by
  rw [UInt8.toNat_ofNat']
  omega
set_option maxRecDepth 100000 in
theorem bitsPut_any (w:World) (v:Value) (bs:List UInt8) (p size n:Nat) (R:Nat→Prop) (hv:BytesAt w v bs R) (h1:1≤size) (h2:size≤8) (h4:p+size≤bs.length) (h5:bs.length≤140737488355328) (hn:n<18446744073709551616):
    Calls Tryz.prog 178 #[v,.int .i64 p,.int .i64 size,.bool false,.int .u64 n] w fun e w'=>Frm NoB w w'∧∃v',e= .returned (.tuple #[v',.bool true])∧BytesAt w' v' (putLE bs p size n) (Fresh w):=by
  have HV:=Lib.hid hv
  have HN:=Lib.hid hn
  obtain ⟨a,cap,rfl,hcell⟩:=hv.sliceOf
  clear hcell hv hn
  go_enter Tryz.func178,Tryz.ntmps178
  go_wp2_with fail
  refine (bitsMay_any _ _ _ _ _ _ (by omega) (by omega) (by omega) (by omega) (by omega)).mono ?_
  rintro e w2 ⟨rfl,rfl⟩
  go_wp2_with fail
  refine (Clone_any w _ bs R HV.out h5).mono ?_
  rintro e w1 ⟨hf,v1,rfl,hb1⟩
  obtain ⟨blk,off,cap1,rfl,hcap1,_,hfr⟩:=hb1.cells
  have HF:=Lib.hid hf
  have HB:=Lib.hid hb1
  have HFR:Hid (w.heap.size≤blk):=Lib.hid hfr
  clear hf hb1 hfr
  go_wp2_with fail
  go_loopw [13,14,23] (fun _ _ ti wr=> ∃i:Nat,i≤size∧ti= .int .i64 i∧Frm NoB w wr∧BytesAt wr (.slice (some ⟨blk,off,none⟩) bs.length cap1) (putLE bs p i n) (Fresh w)) (fun _ _ ti _=>size-(intOf ti).toNat)
  case atStart=>exact ⟨0,Nat.zero_le _,rfl,HF.out,by rw [putLE_zero];exact HB.out⟩
  case round=>
    clear HF HB
    obtain ⟨i,hi,rfl,hf,hb⟩:=hrel
    have HF:=Lib.hid hf
    have HB:=Lib.hid hb
    clear hf hb
    by_cases hlt:i<size
    · have hi0:(0:Int)≤(i:Int):=Int.natCast_nonneg _
      have hi1:(i:Int)<(size:Int):=by omega
      obtain ⟨k,hk⟩: ∃k:Nat,p+i=k:=⟨_,rfl⟩
      have e1:((p:Int)+(i:Int))=(k:Int):=by omega
      have hk1:(k:Int)<(bs.length:Int):=by omega
      have hk2:(k:Int)<140737488355328:=by omega
      have hk0:(0:Int)≤(k:Int):=Int.natCast_nonneg _
      have HK:=Lib.hid hk
      obtain ⟨s,hs⟩: ∃s:Int,8*(i:Int)=s:=⟨_,rfl⟩
      have hs0:0≤s:=by omega
      have hs1:s≤56:=by omega
      have hws:IntKind.i64.wrap (8*(i:Int))=s:=by rw [hs];exact IntWalk.i64_in (by omega) (by omega)
      have hsn: ¬s<0:=by omega
      have hsh:=shr_nat n i s hs
      clear hs
      have hb8:=byte_nat (n/256 ^ i)
      have HY:=Lib.hid (putLE_succ bs p n i (by omega))
      generalize n/256 ^ i=q at*
      generalize UInt8.ofNat q=y at*
      have hcell: ∃u,wr.cell? ⟨blk,off+k,none⟩=some u:=by
        obtain ⟨a',cap',e,hcl⟩:=HB.out.sliceOf
        injection e with e1 e2 e3
        subst e1
        obtain ⟨b',o',e',_,hc⟩:=hcl (p+i) _ (List.getElem?_eq_getElem (by rw [putLE_length _ _ _ _ (by omega)];omega))
        injection e' with e'
        injection e' with e1 e2
        subst e1 e2
        exact ⟨_,by rw [←hk];exact hc⟩
      obtain ⟨u,hcell⟩:=hcell
      have hfree:wr.frozen? ⟨blk,off+k,none⟩=false:=by
        obtain ⟨b',o',c',cc,e,_,h3,_⟩:=HB.out
        injection e with e1 e2 e3
        injection e1 with e1
        injection e1 with e1 e2
        subst e1 e2
        exact h3.frozen
      clear hk
      go_wp2
      have HB2:=HB.out.put (p+i) (by rw [putLE_length _ _ _ _ (by omega)];omega) y
      rw [←HY.out,HK.out] at HB2
      exact ⟨⟨i+1,hlt,by go_num,HF.out.setCell (.inr HFR.out) _,HB2⟩,by simp [intOf];omega⟩
    · obtain rfl:i=size:=by omega
      go_wp2
      go_ret2
      exact ⟨HF.out,_,rfl,HB.out⟩
set_option maxRecDepth 100000 in
theorem slot_any (w:World) (n:Nat) (hn:n<18446744073709551616):
    Calls Tryz.prog 138 #[.int .u64 n] w fun e w'=>w=w'∧e= .returned (.int .i64 ((n%4:Nat):Int)):=by
  have hn0:(0:Int)≤(n:Int):=Int.natCast_nonneg _
  obtain ⟨r,hr⟩: ∃r:Int,(n:Int)%4=r:=⟨_,rfl⟩
  have hr0:0≤r:=by omega
  have hr1:r<4:=by omega
  have hrn:((n%4:Nat):Int)=r:=by omega
  have HR:=Lib.hid hrn
  clear hrn hn
  go_enter Tryz.func138,Tryz.ntmps138
  go_wp2
  go_ret
  exact ⟨rfl,by rw [HR.out];rfl⟩
set_option maxRecDepth 100000 in
theorem at_any (w:World) (s b:Int) (h0:0≤s) (h1:s≤1000) (h2:0≤b) (h3:b≤1000):
    Calls Tryz.prog 140 #[.agg #[.int .i64 s,.int .i64 b]] w fun e w'=>Frm NoB w w'∧e= .returned (.int .i64 (1+s*61+b)):=by
  go_enter Tryz.func140,Tryz.ntmps140
  go_wp2
  go_ret
  exact ⟨(Frm.refl _ _).alloc _,rfl⟩
set_option maxRecDepth 100000 in
theorem getN_any (w:World) (v:Value) (bs:List UInt8) (k:Nat) (hv:SliceOf w v bs) (hk:k≤63) (hl:bs.length=512):
    Calls Tryz.prog 225 #[v,.int .i64 k] w fun e w'=>w=w'∧e= .returned (.int .u64 (getLE bs (8*k) 8)):=by
  have hk0:(0:Int)≤(k:Int):=Int.natCast_nonneg _
  have hk1:(k:Int)≤63:=by omega
  have HC:=Lib.hid (bitsGet_any w v bs (8*k) 8 hv (by omega) (by omega) (by omega) (by omega))
  obtain ⟨k8,hk8⟩: ∃k8:Nat,8*k=k8:=⟨_,rfl⟩
  rw [hk8] at HC ⊢
  have e1:8*(k:Int)=(k8:Int):=by omega
  clear hl hk8
  go_enter Tryz.func225,Tryz.ntmps225
  go_wp2_with fail
  refine HC.out.mono ?_
  rintro e w2 ⟨rfl,rfl⟩
  go_wp2
  go_ret
  exact ⟨rfl,rfl⟩
def EntersF (P:Program) (f:FuncId):Prop:= ∀(args:Array Value) (w:World),(callFunc f args).run P w= .ok (.enter f args) w
theorem entersF_of {P:Program} {f:FuncId} {fn:Func} {c:Code} (hf:P.funcs[f]?=some fn) (hname:(fn.name== "runtime.NumGoroutine")=false) (hb:fn.body=some c):EntersF P f:=by
  intro args w
  have h1:fn.name≠ "runtime.NumGoroutine":=by simpa using hname
  simp [callFunc,hf,h1,hb,mark]
theorem upon_callF {P:Program} {o:Oper} {a:Act} {next:Act→World→Prop} {Q:Exit→Act→World→Prop} {w:World} {f:FuncId} {args:Array Value} {R:Ending→World→Prop} (hE:EntersF P f) (h:Calls P f args w R)
    (hR: ∀e w',R e w'→∃v,e= .returned v∧next (a.put o.dst v) w'):o.upon P a next Q ((callFunc f args).run P w):=by
  rw [hE args w,Oper.upon_enter]
  refine h.mono ?_
  intro e w' hr
  obtain ⟨v,rfl,hn⟩:=hR e w' hr
  exact hn
set_option maxRecDepth 100000 in
theorem tries_any (w:World) (blk off len cap:Nat) (T:Nat→World→Prop) (Stop:Int→World→Prop) (g:Nat→FuncId) (fst cp:Nat→Array Value)
    (hT:T 0 w) (hc: ∀i W,i<len→T i W→W.cell? ⟨blk,off+i,none⟩=some (.func (.func (g i)) (fst i) (cp i))) (he: ∀i,i<len→EntersF Tryz.prog (g i)) (hlen:len≤1000000)
    (hs: ∀i W,i<len→T i W→Calls Tryz.prog (g i) (fst i++cp i) W fun e w'=> ∃x:Int,e= .returned (.int .i64 x)∧(x=0→T (i+1) w')∧(x≠0→Stop x w')):
    Calls Tryz.prog 141 #[.slice (some ⟨blk,off,none⟩) len cap] w fun e w'=>(e= .returned (.int .i64 0)∧T len w')∨∃x:Int,x≠0∧e= .returned (.int .i64 x)∧Stop x w':=by
  have HC:=Lib.hid hc
  have HS:=Lib.hid hs
  have HT:=Lib.hid hT
  have HE:=Lib.hid he
  clear hc hs hT he
  go_enter Tryz.func141,Tryz.ntmps141
  go_wp2_with fail
  go_loopw [4,5,8] (fun _ _ t wr=> ∃i:Nat,i≤len∧t= .int .i64 i∧T i wr) (fun _ _ t _=>len-(intOf t).toNat)
  case atStart=>exact ⟨0,Nat.zero_le _,rfl,HT.out⟩
  case round=>
    clear HT
    obtain ⟨i,hi,rfl,hst⟩:=hrel
    have HST:=Lib.hid hst
    clear hst
    by_cases hlt:i<len
    · have hi0:(0:Int)≤(i:Int):=Int.natCast_nonneg _
      have hi1:(i:Int)<(len:Int):=by omega
      have hcell:=HC.out i wr hlt HST.out
      have HCL:=Lib.hid (HS.out i wr hlt HST.out)
      have HEN:=Lib.hid (HE.out i hlt)
      generalize g i=gi at*
      generalize fst i=fi at*
      generalize cp i=ci at*
      go_wp2_with fail
      refine upon_callF HEN.out HCL.out ?_
      rintro e w2 ⟨x,rfl,h0,h1⟩
      refine ⟨_,rfl,?_⟩
      by_cases hx:x=0
      · subst hx
        have H2:=Lib.hid (h0 rfl)
        clear h0 h1
        go_wp2
        exact ⟨⟨i+1,hlt,by go_num,H2.out⟩,by simp [intOf];omega⟩
      · have H2:=Lib.hid (h1 hx)
        clear h0 h1
        go_wp2
        go_ret
        exact .inr ⟨x,hx,rfl,H2.out⟩
    · obtain rfl:i=len:=by omega
      go_wp2
      go_ret
      exact .inl ⟨rfl,HST.out⟩
def U64 (n:Nat):Value:= .int .u64 (n:Int)
def textBlk (s:List UInt8):Blk:=s++List.replicate (512-s.length) 0
theorem textBlk_length (s:List UInt8) (h:s.length≤512):(textBlk s).length=512:=by
  unfold textBlk
  rw [List.length_append,List.length_replicate]
  omega
def laidFrom:Blk→Nat→List Nat→Blk
  | b,_,[]=>b
  | b,i,n::r=>laidFrom (putLE b (8*(i+1)) 8 n) (i+1) r
theorem laidFrom_snoc: ∀(l:List Nat) (b:Blk) (i n:Nat),laidFrom b i (l++ [n])=putLE (laidFrom b i l) (8*(i+l.length+1)) 8 n
  | [],b,i,n=>rfl
  | m::r,b,i,n=>by
    have:=laidFrom_snoc r (putLE b (8*(i+1)) 8 m) (i+1) n
    rw [show i+(m::r).length=i+1+r.length from by simp;omega]
    exact this
theorem laidFrom_length: ∀(l:List Nat) (b:Blk) (i:Nat),b.length=512→i+l.length≤62→(laidFrom b i l).length=512
  | [],b,i,h,_=>h
  | m::r,b,i,h,hl=>by
    simp at hl
    exact laidFrom_length r _ _ ((putLE_length _ _ _ _ (by omega)).trans h) (by omega)
def laidB (s:List UInt8) (ns:List Nat):Blk:=laidFrom (textBlk s) 0 ns
theorem laidB_take (s:List UInt8) (ns:List Nat) (i n:Nat) (h:ns[i]?=some n):laidB s (ns.take (i+1))=putLE (laidB s (ns.take i)) (8*(i+1)) 8 n:=by
  obtain ⟨h1,h2⟩:=List.getElem?_eq_some_iff.1 h
  unfold laidB
  rw [List.take_succ_eq_append_getElem h1,h2,laidFrom_snoc,List.length_take,Nat.min_eq_left (by omega),Nat.zero_add]
theorem text_cells (s:ByteArray) (hs:s.size≤512):(zc.toList.take 0++Lib.byteCells s.data.toList++zc.toList.drop (0+s.size)).toArray=((textBlk s.data.toList).map B8).toArray:=by
  have hl:s.data.toList.length=s.size:=by rw [Array.length_toList];rfl
  unfold textBlk
  rw [zc_toList,List.take_zero,List.nil_append,Nat.zero_add,List.drop_replicate,List.map_append,List.map_replicate,hl]
  rfl
set_option maxRecDepth 100000 in
theorem laid_any (w:World) (s:ByteArray) (v:Value) (ns:List Nat) (hv:Elems w v (ns.map U64)) (hs:s.size≤8) (hn:ns.length≤62) (hu: ∀n∈ns,n<18446744073709551616):
    Calls Tryz.prog 245 #[.string s,v] w fun e w'=>Frm NoB w w'∧∃v',e= .returned v'∧BytesAt w' v' (laidB s.data.toList ns) (Fresh w):=by
  obtain ⟨a,cap,rfl,ha⟩:=hv
  have HA:=Lib.hid ha
  have HU:=Lib.hid hu
  rw [List.length_map]
  clear ha hu
  have hmk:=run_make512
  have hcp:=Lib.run_copy_row_string (P:=Tryz.prog) (w.alloc (.cells zc 5 (0,0))) 76 9 3 5 w.heap.size 0 512 512 s zc 5 Tryz.underlying76 (by kernel_rfl) (block_alloc_new _ _) (by omega) (by rw [zc_size];omega)
  rw [text_cells s (by omega),setRow_alloc] at hcp
  have hsl:s.data.toList.length≤8:=by
    have hl:s.data.toList.length=s.size:=by rw [Array.length_toList];rfl
    omega
  have HSL:=Lib.hid hsl
  have HTL:=Lib.hid (textBlk_length s.data.toList (by omega))
  go_enter Tryz.func245,Tryz.ntmps245
  go_wp2_with fail
  clear hmk hcp
  have HB0:Hid (BytesAt (w.alloc (.cells ((textBlk s.data.toList).map B8).toArray 5 (0,0))) (.slice (some ⟨w.heap.size,0,none⟩) 512 512) (textBlk s.data.toList) (Fresh w)):=Lib.hid (block_at w (textBlk s.data.toList) HTL.out)
  go_loopw [5,6,7,14] (fun tb _ _ ti wr=> ∃i:Nat,i≤ns.length∧ti= .int .i64 i∧Frm NoB w wr∧BytesAt wr tb (laidB s.data.toList (ns.take i)) (Fresh w)) (fun _ _ _ ti _=>ns.length-(intOf ti).toNat)
  case atStart=>exact ⟨0,Nat.zero_le _,rfl,(Frm.refl _ _).alloc _,HB0.out⟩
  case round=>
    clear HB0
    obtain ⟨i,hi,rfl,hf,hb⟩:=hrel
    have HF:=Lib.hid hf
    have HB:=Lib.hid hb
    clear hf hb
    by_cases hlt:i<ns.length
    · obtain ⟨x,hx⟩: ∃x,ns[i]?=some x:=⟨_,List.getElem?_eq_getElem hlt⟩
      obtain ⟨blk,off,rfl,hb,hcell⟩:=HA.out i (U64 x) (by rw [List.getElem?_map,hx];rfl)
      have hcell':wr.cell? ⟨blk,off+i,none⟩=some (.int .u64 x):=by
        rw [←show U64 x= .int .u64 x from rfl,←hcell];exact HF.out.cell hb (fun e=>e)
      have hlen:(laidB s.data.toList (ns.take i)).length=512:=laidFrom_length _ _ _ HTL.out (by rw [List.length_take];omega)
      have hT:=laidB_take s.data.toList ns i x hx
      have HT:=Lib.hid hT
      have HP:=Lib.hid (bitsPut_any wr _ _ (8*(i+1)) 8 x (Fresh w) HB.out (by omega) (by omega) (by omega) (by omega) (HU.out x (List.mem_of_getElem? hx)))
      obtain ⟨k,hk⟩: ∃k:Nat,8*(i+1)=k:=⟨_,rfl⟩
      have hi0:(0:Int)≤(i:Int):=Int.natCast_nonneg _
      have hi1:(i:Int)<(ns.length:Int):=by omega
      have hi2:(ns.length:Int)≤62:=by omega
      have e1:8*((i:Int)+1)=(k:Int):=by omega
      rw [hk] at HP HT
      clear hx hcell hlen hT hk hb
      go_wp2_with fail
      refine HP.out.mono ?_
      rintro e w2 ⟨hf2,v2,rfl,hb2⟩
      have HF2:=Lib.hid (HF.out.trans hf2 (fun _ _ e=>e))
      have HB2:=Lib.hid (hb2.mono (R':=(Fresh w)) (fun x hx hr=>Nat.le_trans HF.out.size hr))
      rw [←HT.out] at HB2
      clear hf2 hb2
      go_wp2
      first | exact ⟨⟨i+1,hlt,by go_num,HF2.out,HB2.out⟩,by simp [intOf];omega⟩ | (go_roundw;case rel=>first | exact ⟨i+1,hlt,by go_num,HF2.out,HB2.out⟩ | ((repeat apply Exists.intro);exact ⟨⟨i+1,hlt,by go_num,HF2.out,HB2.out⟩,rfl⟩);case measure=>simp [intOf];omega)
    · obtain rfl:i=ns.length:=by omega
      have HB3:=HB.out
      rw [List.take_length] at HB3
      have HB4:=Lib.hid HB3
      clear HB3
      go_wp2
      go_ret
      exact ⟨HF.out,_,rfl,HB4.out⟩
def magicL:List UInt8:= [66,79,76,76,65,82,68,74]
def isMagic (b:Blk):Bool:=b.take 8==magicL
set_option maxRecDepth 100000 in
theorem head_string {w:World} {blk off cap n:Nat} {bs:Blk} {R:Nat→Prop} (h:BytesAt w (.slice (some ⟨blk,off,none⟩) n cap) bs R) (hl:8≤bs.length) (c2:Nat):
    (convert 76 9 (.slice (some ⟨blk,off,none⟩) 8 c2)).run Tryz.prog w= .ok (.string ⟨(bs.take 8).toArray⟩) w:=by
  have hlen:(bs.take 8).length=8:=by rw [List.length_take];omega
  obtain ⟨blk',off',cap',e,_,hc,_⟩:=h.cells
  injection e with e1 e2 e3
  injection e1 with e1
  injection e1 with e1 e4
  subst e1 e4
  have:=run_convert_bytes_back (P:=Tryz.prog) w 76 9 5 ⟨blk,off,none⟩ c2 (bs.take 8) Tryz.underlying76 (by kernel_rfl) (by kernel_rfl) (fun j hj=>by
    refine hc j _ ?_
    rw [List.getElem?_map,List.getElem_take,List.getElem?_eq_getElem (by omega)]
    rfl)
  rw [hlen] at this
  exact this
set_option maxRecDepth 100000 in
theorem S_first {w0:Gnd} {w:World} {rs:List Res} (h:St w0 w rs) (i:Nat) {H:Hdl} {D:DSt} (hr:rs[i]?=some (dev H D)) (hn:1≤D.n) (ho:D.ops<4611686018427387904):
    Calls Tryz.prog 136 #[.pointer (some ⟨H.b,0,none⟩)] w fun e w'=>e= .returned (.tuple #[.int .u64 (getLE (D.last 0) 8 8),.bool (isMagic (D.last 0))])∧St w0 w' rs:=by
  have HL:=Lib.hid (DSt.last_length (h.get hr).wf 0)
  have H0:=Lib.hid (S_Read h i hr 0 (by omega) (by omega) ho)
  clear h hr ho
  go_enter Tryz.func136,Tryz.ntmps136
  go_wp2_with fail
  refine H0.out.mono ?_
  clear hn
  rintro e w1 ⟨v,rfl,h⟩
  have H1:=Lib.hid (show St w0 w1 (byt v (D.last 0)::rs) from h)
  clear h H0
  obtain ⟨blk,off,cap,rfl,hcap,_,_⟩:=(H1.out.get (i:=0) rfl).cells
  have hcap8:8≤cap:=by have:=HL.out;omega
  have HG:Hid (∀k,Calls Tryz.prog 225 #[.slice (some ⟨blk,off,none⟩) (D.last 0).length cap,.int .i64 1] (w1.drewN k) fun e w'=>e= .returned (.int .u64 (getLE (D.last 0) 8 8))∧w'=w1.drewN k):=Lib.hid fun k=>
    (getN_any (w1.drewN k) _ _ 1 (BytesAt.frm0 (H1.out.get (i:=0) rfl) ((Frm.refl NoB w1).drewN k)).sliceOf (by omega) HL.out).mono fun _ _ ⟨a,b⟩=>⟨b,a.symm⟩
  have hst: ∀k c2,(convert 76 9 (.slice (some ⟨blk,off,none⟩) 8 c2)).run Tryz.prog (w1.drewN k)= .ok (.string ⟨((D.last 0).take 8).toArray⟩) (w1.drewN k):=fun k c2=>
    head_string (BytesAt.frm0 (H1.out.get (i:=0) rfl) ((Frm.refl NoB w1).drewN k)) (by rw [HL.out];omega) c2
  have hl8:8≤(D.last 0).length:=by rw [HL.out];omega
  generalize (D.last 0).length=n512 at*
  go_wp2_with fail
  go_quiet ((go_at_call 225;exact Calls.quiet_of_same (HG.out _)))
  go_wp2
  go_ret2
  exact ⟨rfl,(H1.out.frm0 ((Frm.refl NoB w1).drewN _)).drop 1⟩
theorem neDp: ¬U8T (23:TypeId):=by decide
theorem S_Zero {w0:Gnd} {w:World} {rs:List Res} (h:St w0 w rs):St w0 (w.alloc (.cells zc 5 (0,0))) (byt (.slice (some ⟨w.heap.size,0,none⟩) 512 512) zeros::rs):=by
  have h1:=h.mkByt ((Frm.refl NoB w).alloc (bytesObj zeros)) (block_at w zeros zeros_length)
  rw [show bytesObj zeros= .cells zc 5 (0,0) from by unfold bytesObj;rw [zc_eq]] at h1
  exact h1
set_option maxRecDepth 100000 in
theorem S_fmt1 {w0:Gnd} {w:World} {rs:List Res} (h:St w0 w rs) (a i j:Nat) {H:Hdl} {D:DSt} {bd bi k:Nat} {ht: ¬U8T (23:TypeId)} {ht': ¬U8T (3:TypeId)} (hr:rs[a]?=some (dev H D)) (hd:rs[i]?=some (arr bd #[.pointer (some ⟨H.b,0,none⟩)] 23 ht))
    (hi:rs[j]?=some (arr bi #[.int .i64 k] 3 ht')) (hk:k≤3) (hn:246≤D.n) (ho:D.ops<4611686018427387904) (hoff:D.off=false) (hia:i≠a) (hja:j≠a):
    Calls Tryz.prog 243 #[.pointer (some ⟨bd,0,none⟩),.pointer (some ⟨bi,0,none⟩)] w fun e w'=>e= .returned (.int .i64 0)∧St w0 w' (rs.set a (dev H (D.op.put (1+61*k) zeros))):=by
  have H0:=Lib.hid h
  have c1:w.cell? ⟨bd,0,none⟩=some (.pointer (some ⟨H.b,0,none⟩)):=(h.arrCell hd 0).trans rfl
  have c2:w.cell? ⟨bi,0,none⟩=some (.int .i64 k):=(h.arrCell hi 0).trans rfl
  have KA:Hid (∀y,Frm NoB w y→y.cell? ⟨bd,0,none⟩=some (.pointer (some ⟨H.b,0,none⟩))∧y.cell? ⟨bi,0,none⟩=some (.int .i64 k)):=Lib.hid fun y hy=>
    ⟨((h.frm0 hy).arrCell hd 0).trans rfl,((h.frm0 hy).arrCell hi 0).trans rfl⟩
  have KB:Hid (∀y v X,St w0 y ((v::rs).set (a+1) X)→y.cell? ⟨bd,0,none⟩=some (.pointer (some ⟨H.b,0,none⟩))∧y.cell? ⟨bi,0,none⟩=some (.int .i64 k)):=Lib.hid fun y v X hy=>
    ⟨(hy.arrCell (i:=i+1) (by rw [List.getElem?_set_ne (by omega),List.getElem?_cons_succ];exact hd) 0).trans rfl,(hy.arrCell (i:=j+1) (by rw [List.getElem?_set_ne (by omega),List.getElem?_cons_succ];exact hi) 0).trans rfl⟩
  have hk0:(0:Int)≤(k:Int):=Int.natCast_nonneg _
  have hk1:(k:Int)≤3:=by omega
  have hmk:=run_make512
  clear h
  go_enter Tryz.func243,Tryz.ntmps243
  go_wp2_with fail
  clear c1 c2
  go_region_held3 (fun y=>y.cell? ⟨bd,0,none⟩=some (.pointer (some ⟨H.b,0,none⟩))∧y.cell? ⟨bi,0,none⟩=some (.int .i64 k))
    (first | exact hS5 | (refine KA.out _ ?_;first | assumption | exact (Frm.refl NoB w).drew | exact ((Frm.refl NoB w).alloc _).drew | exact (Frm.refl NoB w).alloc _ | exact Frm.alloc (by assumption) _ | exact ⟨rfl,rfl,rfl,Nat.le_refl _,fun _ _ _=>rfl⟩))
    (first
      | (go_at_call 140;refine (at_any w.drew (k:Int) 0 hk0 (by omega) (by omega) (by omega)).mono ?_;rintro e w3 ⟨hf3,rfl⟩;have hf3':Frm NoB w w3:=((Frm.refl NoB w).drew).trans hf3 (fun _ _ e=>e))
      | (go_at_call 140;refine (at_any (w.alloc (.cells zc 5 (0,0))).drew (k:Int) 0 hk0 (by omega) (by omega) (by omega)).mono ?_;rintro e w3 ⟨hf3,rfl⟩;have hf3':Frm NoB w w3:=(((Frm.refl NoB w).alloc _).drew).trans hf3 (fun _ _ e=>e);have hB:=(S_Zero H0.out).frm0 (((Frm.refl NoB _).drew).trans hf3 (fun _ _ e=>e)))
      | (go_at_call 227;refine (S_Write hB (a+1) 0 hr rfl (1+(k:Int)*61) ho hoff (by omega) (by omega) zeros_length).mono ?_;rintro e w5 ⟨rfl,h5⟩;have hS5:=KB.out _ _ _ h5)
      | (go_at_call 227;refine (S_Write (S_Zero (H0.out.frm0 hf3')) (a+1) 0 hr rfl (1+(k:Int)*61) ho hoff (by omega) (by omega) zeros_length).mono ?_;rintro e w5 ⟨rfl,h5⟩;have hS5:=KB.out _ _ _ h5))
  all_goals
   have e:((1+(k:Int)*61)).toNat=1+61*k:=by omega
   rw [e] at h5
   have H5:=Lib.hid (h5.drop 1)
   clear h5 hS5
   go_wp2
   go_ret
   exact ⟨rfl,H5.out⟩
theorem neU64: ¬U8T (101:TypeId):=by decide
theorem elems_oneU (w:World) (n:Nat):Elems (w.alloc (.cells #[.int .u64 (n:Int)] 101 (0,0))) (.slice (some ⟨w.heap.size,0,none⟩) 1 1) ([n].map U64):=
  ⟨_,_,rfl,fun i x hx=>by
    obtain ⟨h1,h2⟩:=List.getElem?_eq_some_iff.1 hx
    obtain rfl:i=0:=by simpa using h1
    exact ⟨_,_,rfl,lt_of_block (block_alloc_new _ _),by rw [cell_of_block (block_alloc_new _ _),←h2];rfl⟩⟩
theorem S_laid1 {w0:Gnd} {w:World} {rs:List Res} (h:St w0 w rs) (n:Nat) (hn:n<18446744073709551616):
    Calls Tryz.prog 245 #[.string { data:= #[66,79,76,76,65,82,68,74] },.slice (some ⟨w.heap.size,0,none⟩) 1 1] (w.alloc (.cells #[.int .u64 (n:Int)] 101 (0,0))) fun e w'=> ∃v,e= .returned v∧St w0 w' (byt v (laidB magicL [n])::rs):=
  (laid_any _ { data:= #[66,79,76,76,65,82,68,74] } _ [n] (elems_oneU w n) (by decide) (by simp) (fun x hx=>by simp at hx;omega)).mono fun _ _ ⟨hf,v,e,hb⟩=>
    ⟨v,e,h.mkByt (((Frm.refl NoB w).alloc _).trans hf (fun _ _ e=>e)) (hb.fresh ((Frm.refl NoB w).alloc _).size)⟩
set_option maxRecDepth 100000 in
theorem S_fmt2 {w0:Gnd} {w:World} {rs:List Res} (h:St w0 w rs) (a i j:Nat) {H:Hdl} {D:DSt} {bd bg g:Nat} {ht: ¬U8T (23:TypeId)} {ht': ¬U8T (101:TypeId)} (hr:rs[a]?=some (dev H D)) (hd:rs[i]?=some (arr bd #[.pointer (some ⟨H.b,0,none⟩)] 23 ht))
    (hi:rs[j]?=some (arr bg #[.int .u64 g] 101 ht')) (hg:g<18446744073709551615) (hn:246≤D.n) (ho:D.ops<4611686018427387904) (hoff:D.off=false) (hia:i≠a) (hja:j≠a):
    Calls Tryz.prog 244 #[.pointer (some ⟨bd,0,none⟩),.pointer (some ⟨bg,0,none⟩)] w fun e w'=>e= .returned (.int .i64 0)∧St w0 w' (rs.set a (dev H (D.op.put 0 (laidB magicL [g+1])))):=by
  have H0:=Lib.hid h
  have KA:Hid (∀y,Frm NoB w y→y.cell? ⟨bd,0,none⟩=some (.pointer (some ⟨H.b,0,none⟩))∧y.cell? ⟨bg,0,none⟩=some (.int .u64 g)):=Lib.hid fun y hy=>
    ⟨((h.frm0 hy).arrCell hd 0).trans rfl,((h.frm0 hy).arrCell hi 0).trans rfl⟩
  have c1:=(KA.out w (Frm.refl _ _)).1
  have c2:=(KA.out w (Frm.refl _ _)).2
  have KB:Hid (∀y v X,St w0 y ((v::rs).set (a+1) X)→y.cell? ⟨bd,0,none⟩=some (.pointer (some ⟨H.b,0,none⟩))∧y.cell? ⟨bg,0,none⟩=some (.int .u64 g)):=Lib.hid fun y v X hy=>
    ⟨(hy.arrCell (i:=i+1) (by rw [List.getElem?_set_ne (by omega),List.getElem?_cons_succ];exact hd) 0).trans rfl,(hy.arrCell (i:=j+1) (by rw [List.getElem?_set_ne (by omega),List.getElem?_cons_succ];exact hi) 0).trans rfl⟩
  have KC:Hid (∀y v,St w0 y (v::rs)→y.cell? ⟨bd,0,none⟩=some (.pointer (some ⟨H.b,0,none⟩))∧y.cell? ⟨bg,0,none⟩=some (.int .u64 g)):=Lib.hid fun y v hy=>
    ⟨(hy.arrCell (i:=i+1) hd 0).trans rfl,(hy.arrCell (i:=j+1) hi 0).trans rfl⟩
  have HGG:=Lib.hid hg
  have hg0:(0:Int)≤(g:Int):=Int.natCast_nonneg _
  have hgw:IntKind.u64.wrap ((g:Int)+1)=(g:Int)+1:=u64_in (by omega) (by omega)
  clear h hg
  go_enter Tryz.func244,Tryz.ntmps244
  go_wp2_with fail
  clear c1 c2
  go_region_held3 (fun y=>y.cell? ⟨bd,0,none⟩=some (.pointer (some ⟨H.b,0,none⟩))∧y.cell? ⟨bg,0,none⟩=some (.int .u64 g))
    (first | exact hS5 | exact hS4 | (refine KA.out _ ?_;first | assumption | exact (Frm.refl NoB w).drew | exact ((Frm.refl NoB w).drew).alloc _ | exact (Frm.refl NoB w).alloc _ | exact ⟨rfl,rfl,rfl,Nat.le_refl _,fun _ _ _=>rfl⟩))
    (first
      | (go_at_call 245;refine (S_laid1 (H0.out.frm0 ((Frm.refl NoB w).drew)) (g+1) (by have:=HGG.out;omega)).mono ?_;rintro e w3 ⟨v3,rfl,h3⟩;have hS4:=KC.out _ _ h3)
      | (go_at_call 227;refine (S_Write h3 (a+1) 0 hr rfl 0 ho hoff (by omega) (by omega) (laidFrom_length _ _ _ (textBlk_length _ (by decide)) (by simp))).mono ?_;rintro e w5 ⟨rfl,h5⟩;have hS5:=KB.out _ _ _ h5))
  all_goals
   have H5:=Lib.hid (h5.drop 1)
   clear h5 hS5
   go_wp2
   go_ret
   exact ⟨rfl,H5.out⟩
theorem infoI64:(Tryz.prog.info? 3).map (fun i=>(i.zero,i.size,i.bytes))=some (some (.int .i64 0),1,8):=by kernel_rfl
theorem neI8: ¬U8T (3:TypeId):=by decide
theorem ownsRow_of_block {w w':World} {base:Nat} {e:TypeId} {s:Nat} {v:Value} {n:Nat} {xs:List Value} (h:w.ownsRow base e s v n xs) (hb: ∀g,v.ownBlock=some g→w'.heap[g]?=w.heap[g]?):w'.ownsRow base e s v n xs:=by
  refine ⟨h.1,?_⟩
  rcases h.2 with hn | ⟨g,cap,cur,rfl,h1,h2,h3⟩
  · exact .inl hn
  · exact .inr ⟨g,cap,cur,rfl,h1,(hb g rfl).trans h2,h3⟩
theorem elems_of_owns {w:World} {base:Nat} {v:Value} {l:List Int} (h:w.ownsRow base 3 1 v l.length (l.map IntK)):Elems w v (l.map IntK):=by
  rcases h.2 with ⟨rfl,hl⟩ | ⟨g,cap,cur,rfl,_,h2,_,_,_,ht⟩
  · obtain rfl:=List.eq_nil_of_length_eq_zero hl
    exact ⟨none,0,rfl,fun i x hx=>by simp at hx⟩
  · refine ⟨some ⟨g,0,none⟩,cap,by rw [List.length_map],fun i x hx=>⟨g,0,rfl,lt_of_block h2,?_⟩⟩
    rw [cell_of_block h2,Nat.zero_add]
    have h3:(cur.toList.take (l.length*1))[i]?=some x:=by rw [ht];exact hx
    rw [List.getElem?_take] at h3
    split at h3
    · rw [←Array.getElem?_toList];exact h3
    · cases h3
theorem infoFn:(Tryz.prog.info? 100).map (fun i=>(i.zero,i.size,i.bytes))=some (some .nilFunc,1,8):=by kernel_rfl
theorem neFn: ¬U8T (100:TypeId):=by decide
def fnRow (v:Value) (xs:List Value):Res where
  M:=fun x=>v.ownBlock=some x
  inv:=fun Z w=>w.ownsRow 0 100 1 v xs.length xs
  lt:=fun Z w H x hx=>(H.lt x hx).2
  dry:=fun Z w H x hx c' e=>by
    rcases H.2 with ⟨rfl,_⟩ | ⟨g,cap,cur,rfl,_,h2,_⟩
    · cases hx
    · obtain rfl:g=x:=by simpa [Value.ownBlock] using hx
      exact notC_cells h2 neFn _ e
  keep:=fun Z w w' N H hf hd ha=>ownsRow_of_block H (fun g hg=>hf.block g (H.lt g hg).2 (ha g hg))
  zone:=fun Z Z' w H _ _=>H
theorem St.fnNil {w0:Gnd} {w:World} {rs:List Res} (h:St w0 w rs):St w0 w (fnRow (.slice none 0 0) []::rs):=
  h.make (Frm.refl _ _) (fnRow _ _) (World.ownsRow_nil _ _ _ _) (fun _ hx=>by cases hx)
theorem St.fnAppend {w0:Gnd} {w:World} {rs:List Res} (h:St w0 w rs) (i:Nat) {v:Value} {xs:List Value} (hr:rs[i]?=some (fnRow v xs)) (o:Obj) {v':Value} {w':World} {news:List Value}
    (ho:w'.ownsRow 0 100 1 v' (xs.length+news.length) (xs++news)) (hg:(w.alloc o).grownBy w' v.ownBlock) (hat:v'.ownBlock=v.ownBlock∨v'.ownBlock=some (w.alloc o).heap.size):
    St w0 w' (rs.set i (fnRow v' (xs++news))):=by
  refine h.write i hr (((Frm.refl (fnRow v xs).M w).alloc o).trans (Frm.ofGrown hg) (fun y _ e=>e)) (fnRow v' (xs++news)) (by show w'.ownsRow _ _ _ _ (xs++news).length _;rw [List.length_append];exact ho) (fun x hx=>?_)
  rcases hat with e | e
  · exact .inl (show v.ownBlock=some x from e▸(show v'.ownBlock=some x from hx))
  · have hx:v'.ownBlock=some x:=hx
    rw [e] at hx
    have e':(w.alloc o).heap.size=x:=by injection hx
    have:=((Frm.refl NoB w).alloc o).size
    exact .inr (by omega)
theorem St.perm {w0:Gnd} {w:World} {rs rs':List Res} (h:St w0 w rs) (hp:rs.Perm rs'):St w0 w rs':=
  ⟨h.base,h.zin,fun r hr=>h.inv r (hp.mem_iff.2 hr),fun r hr=>h.new r (hp.mem_iff.2 hr),(hp.pairwise_iff (fun h x ha hb=>h x hb ha)).1 h.apart⟩
def capR:List Nat→List Res
  | []=> []
  | b::r=>arr b #[.int .i64 (r.length:Int)] 3 neI8::capR r
theorem St.capMore {w0:Gnd} {w:World} {a:Res} {bl:List Nat} {rs:List Res} (h:St w0 w (a::(capR bl++rs))) {z:Int} (hz:z=bl.length):St w0 (w.alloc (.cells #[.int .i64 z] 3 (0,0))) (a::(capR (w.heap.size::bl)++rs)):=by
  subst hz
  exact (h.newArr #[.int .i64 (bl.length:Int)] 3 neI8).perm (List.Perm.swap _ _ _)
def fmtFns (bd:Nat):List Nat→List Value
  | []=> []
  | b::r=>fmtFns bd r++ [.func (.func 243) #[] #[.pointer (some ⟨bd,0,none⟩),.pointer (some ⟨b,0,none⟩)]]
theorem fmtFns_length (bd:Nat): ∀l,(fmtFns bd l).length=l.length
  | []=>rfl
  | b::r=>by rw [fmtFns,List.length_append,fmtFns_length bd r];rfl
def fmtStep (g i:Nat) (E:DSt):DSt:=if i<4 then E.op.put (1+61*i) zeros else if i=5 then E.op.put 0 (laidB magicL [g+1]) else E.op.flushed
def fmtD (D:DSt) (g:Nat):Nat→DSt
  | 0=>D
  | i+1=>fmtStep g i (fmtD D g i)
theorem fmtD_ok (D:DSt) (g:Nat) (hl:D.lim=none): ∀i,(fmtD D g i).n=D.n∧(fmtD D g i).ops=D.ops+i∧(fmtD D g i).lim=none
  | 0=>⟨rfl,rfl,hl⟩
  | i+1=>by
    obtain ⟨h1,h2,h3⟩:=fmtD_ok D g hl i
    have h0:(fmtD D g i).lim.map (· -1)=none:=by rw [h3];rfl
    have h4:(fmtD D g i).ops+1=D.ops+(i+1):=by omega
    unfold fmtD fmtStep
    split
    · exact ⟨h1,h4,h0⟩
    · split
      · exact ⟨h1,h4,h0⟩
      · exact ⟨h1,h4,h0⟩
theorem entFmt1:EntersF Tryz.prog 243:=entersF_of Tryz.func243 (by kernel_rfl) rfl
theorem entFmt2:EntersF Tryz.prog 244:=entersF_of Tryz.func244 (by kernel_rfl) rfl
theorem entFlush:EntersF Tryz.prog 143:=entersF_of Tryz.func143 (by kernel_rfl) rfl
end
end Go.Proofs.YtlemndledcmhiaaGreatDoor
