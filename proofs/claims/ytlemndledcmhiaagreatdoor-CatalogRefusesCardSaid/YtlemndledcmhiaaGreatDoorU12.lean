/-
  The catalog, from the device up, part 12.
-/
import Derived.Test.YtlemndledcmhiaaGreatDoorU11
import Derived.Defers
namespace Go.Proofs.YtlemndledcmhiaaGreatDoor
set_option linter.unusedVariables false
set_option linter.unusedSimpArgs false
section
open Go.ChangeMaps Go.MapKept Go.RowKit
variable {w0:Gnd} {w:World} {rs:List Res} {X:Sys} {F:FH} {A:Path→Option Nd} {ι:Path→Nat}
theorem leadR_of (A:Path→Option Nd) (ι:Path→Nat) (ns:Path): ∃(i:Nat) (k s e:Int),leadR A ι ns= .tuple #[.int .i64 i,.agg #[.int .i64 k,.int .i64 s],.int .i64 e]∧statR A ns= .tuple #[.agg #[.int .i64 k,.int .i64 s],.int .i64 e]:=by
  cases hx:A ns with
  | none=>exact ⟨0,0,0,4,by unfold leadR;rw [hx];rfl,by unfold statR;rw [hx]⟩
  | some x=>exact ⟨ι ns,x.kind,x.size,0,by unfold leadR;rw [hx],by unfold statR;rw [hx]⟩
set_option maxHeartbeats 1000000 in
set_option maxRecDepth 100000 in
theorem f_StatP (h:Fs w0 w F X A ι rs) (ns:Path) (h0:ns≠ []) (hns: ∀x∈ns,NameOk x) (h8:ns.length≤8) (hd: ∀k,k<ns.length→A (ns.take k)≠none→∃m,A (ns.take k)=some (.dir m)):
    Calls Tryz.prog 35 #[.pointer (some ⟨F.fb,0,none⟩),.string (pathB ns)] w fun e w'=>e= .returned (statR A ns)∧Fs w0 w' F X A ι rs:=by
  have KL:Hid (∀y rs',Fs w0 y F X A ι rs'→Calls Tryz.prog 87 #[.pointer (some ⟨F.fb,0,none⟩),.string (pathB ns)] y fun e w'=>e= .returned (leadR A ι ns)∧Fs w0 w' F X A ι rs'):=Lib.hid fun y rs' hy=>f_leadsTo hy ns h0 hns h8 hd
  have HH:=Lib.hid (h.newArr #[.int .i64 0,.int .i64 0] 82 neStt)
  obtain ⟨i,k,s,er,hlr,hsr⟩:=leadR_of A ι ns
  rw [hsr]
  rw [hlr] at KL
  have KL:=Lib.hid (KL.out _ _ HH.out)
  clear h h0 hns h8 hd hlr hsr
  generalize pathB ns=path at*
  go_enter Tryz.func35,Tryz.ntmps35
  go_upto_region 1 with (refine allocRow rfl _ _ zeroStt rfl ?_)
  obtain ⟨y0,hy0⟩: ∃y0,w.alloc (.cells #[.int .i64 0,.int .i64 0] 82 (0,0))=y0:=⟨_,rfl⟩
  rw [hy0] at KL ⊢
  clear HH hy0
  generalize w.heap.size=b5 at*
  go_wp2_with fail
  refine KL.out.mono ?_
  clear KL
  rintro e w1 ⟨rfl,h1⟩
  have H1:=Lib.hid (h1.newArr #[.int .i64 k,.int .i64 s] 82 neStt)
  clear h1
  go_upto_region 2 with (refine allocRow rfl _ _ zeroStt rfl ?_)
  obtain ⟨y1,hy1,h1⟩:=H1.out.name
  rw [hy1]
  generalize w1.heap.size=g3 at*
  have HB:=Lib.hid (h1.block (i:=1) rfl)
  have HB2:=Lib.hid (h1.block (i:=0) rfl)
  have H5:=Lib.hid (h1.setRow 1 (c':= #[.int .i64 k,.int .i64 s]) rfl)
  clear hy1 H1 h1
  go_wp2_with (first | (refine loadStt rfl _ rfl g3 rfl k s HB2.out ?_) | (refine storeStt rfl _ _ rfl b5 k s rfl rfl _ rfl HB.out ?_))
  obtain ⟨y6,hy6,h6⟩:=H5.out.name
  rw [hy6]
  have H6:=Lib.hid h6
  have hld:=run_loadVar_row (P:=Tryz.prog) y6 b5 82 82 #[.int .i64 k,.int .i64 s] (0,0) _ (h6.block (i:=1) rfl) Tryz.underlying82 rfl (infoStt _ _)
  exact bodyPost_ret (v:= .tuple #[.agg #[.int .i64 k,.int .i64 s],.int .i64 er]) (results_ct Tryz.results35 _ _ ⟨b5,0,none⟩ rfl _ hld) rfl ⟨rfl,H6.out.drop 2⟩
theorem Fs.mkByt (h:Fs w0 w F X A ι rs) {w':World} (hf:Frm NoB w w') {v:Value} {bs:List UInt8} {R:Nat→Prop} (hb:BytesAt w' v bs R):Fs w0 w' F X A ι (byt v bs::rs):=by
  obtain ⟨⟨n,l,ha,hl⟩,hr⟩:=h
  exact ⟨⟨n,l,(ha.mkByt hf hb).perm ((List.Perm.swap _ _ _).trans ((List.Perm.swap _ _ _).cons _)),hl⟩,hr⟩
theorem Fs.byt (h:Fs w0 w F X A ι rs) {i:Nat} {v:Value} {bs:List UInt8} (hr:rs[i]?=some (byt v bs)):BytesAt w v bs AnyB:=by
  obtain ⟨⟨n,l,ha,hl⟩,hp⟩:=h
  exact ha.byt (i:=i+2) hr
def GotB (w0:Gnd) (w:World) (F:FH) (X:Sys) (A:Path→Option Nd) (ι:Path→Nat) (rs:List Res) (v:Value) (b:Blk):Prop:=(v= .slice none 0 0∧b= []∧Fs w0 w F X A ι rs)∨Fs w0 w F X A ι (Go.Proofs.YtlemndledcmhiaaGreatDoor.byt v b::rs)
theorem f_SRead (h:Fs w0 w F X A ι rs) {ns:Path} {b:Blk} (hp:A ns=some (.file b)) (n:Nat) (hn:b.length≤n) (hn2:n≤1000000):
    Calls Tryz.prog 122 #[.pointer (some ⟨X.sb,0,none⟩),.int .i64 (ι ns),.int .i64 0,.int .i64 n] w fun e w'=> ∃v,e= .returned (.tuple #[v,.int .i64 0])∧GotB w0 w' F X A ι rs v b:=by
  obtain ⟨⟨m,l,ha,hl⟩,hr⟩:=h
  obtain ⟨h1,h2,h3⟩:=hr.live ns _ hp
  have hb:=hr.file ns b hp
  have h3:X.nd (ι ns) 1=b.length:=h3
  have:=i_Read ha hr.ok (ι ns) h1 0 n b.length (by omega) hn2 (by rw [h3];split<;>omega)
  rw [hb,List.drop_zero,Nat.sub_zero,List.take_of_length_le (Nat.le_refl _)] at this
  refine this.mono ?_
  rintro e w' ⟨v,he,hv⟩
  refine ⟨v,he,?_⟩
  rcases hv with ⟨q1,q2,q3⟩ | q
  · exact .inl ⟨q1,q2,⟨m,l,q3,hl⟩,hr⟩
  · exact .inr ⟨⟨m,l,q.perm ((List.Perm.swap _ _ _).trans ((List.Perm.swap _ _ _).cons _)),hl⟩,hr⟩
set_option maxHeartbeats 1000000 in
set_option maxRecDepth 100000 in
theorem f_ReadP (h:Fs w0 w F X A ι rs) (ns:Path) (h0:ns≠ []) (hns: ∀x∈ns,NameOk x) (h8:ns.length≤8) {b:Blk} (hp:A ns=some (.file b)) (n:Nat) (hn:b.length≤n) (hn2:n≤1000000):
    Calls Tryz.prog 54 #[.pointer (some ⟨F.fb,0,none⟩),.string (pathB ns),.int .i64 0,.int .i64 n] w fun e w'=> ∃v,e= .returned (.tuple #[v,.int .i64 0])∧GotB w0 w' F X A ι rs v b:=by
  have hpre:=h.2.pre (p:=ns) (by rw [hp];exact fun x=>by cases x)
  have HL:=Lib.hid (f_fileAt h ns h0 hns h8 (fun k hk _=>hpre (ns.length-k) k (by omega) (by omega)) (fun m e=>by rw [hp] at e;cases e))
  have hlr:leadR A ι ns= .tuple #[.int .i64 (ι ns),.agg #[.int .i64 1,.int .i64 b.length],.int .i64 0]:=by unfold leadR;rw [hp];rfl
  rw [hlr] at HL
  have KR:Hid (∀y rs',Fs w0 y F X A ι rs'→Calls Tryz.prog 122 #[.pointer (some ⟨X.sb,0,none⟩),.int .i64 (ι ns),.int .i64 0,.int .i64 n] y fun e w'=> ∃v,e= .returned (.tuple #[v,.int .i64 0])∧GotB w0 w' F X A ι rs' v b):=Lib.hid fun y rs' hy=>f_SRead hy hp n hn hn2
  clear h h0 hns h8 hp hn hn2 hpre hlr
  generalize pathB ns=path at*
  generalize ι ns=d at*
  go_enter Tryz.func54,Tryz.ntmps54
  go_wp2_with fail
  refine HL.out.mono ?_
  clear HL
  rintro e w1 ⟨rfl,h1⟩
  have H1:=Lib.hid (h1.newArr #[.int .i64 1,.int .i64 b.length] 82 neStt)
  clear h1
  go_upto_region 2 with (refine allocRow rfl _ _ zeroStt rfl ?_)
  obtain ⟨y1,hy1,h1⟩:=H1.out.name
  rw [hy1]
  have c2:y1.cell? ⟨F.fb,2,none⟩=some (.pointer (some ⟨X.sb,0,none⟩)):=(h1.cells 2).trans rfl
  have HR:=Lib.hid (KR.out _ _ h1)
  clear hy1 H1 h1 KR
  go_wp2_with fail
  refine HR.out.mono ?_
  clear HR
  rintro e w2 ⟨v,rfl,hv⟩
  have HV:Hid (GotB w0 w2 F X A ι rs v b):=Lib.hid (by
    rcases hv with ⟨q1,q2,q3⟩ | q
    · exact .inl ⟨q1,q2,q3.drop 1⟩
    · exact .inr (q.sub (List.Sublist.cons_cons _ (List.Sublist.cons _ (List.Sublist.refl _)))))
  clear hv
  go_wp2
  go_ret2
  exact ⟨v,rfl,HV.out⟩
end
section
open Go.ChangeMaps Go.MapKept Go.RowKit
def FsW (w0:Gnd) (w:World) (F:FH) (X:Sys) (A:Path→Option Nd) (ι:Path→Nat) (rs:List Res):Prop:=
  (∃n l,At w0 w X (fsS F X::fsL F n l::rs))∧Rep X A ι
theorem Fs.weak {w0:Gnd} {w:World} {F:FH} {X:Sys} {A:Path→Option Nd} {ι:Path→Nat} {rs:List Res} (h:Fs w0 w F X A ι rs):FsW w0 w F X A ι rs:=by
  obtain ⟨⟨n,l,ha,_⟩,hr⟩:=h
  exact ⟨⟨n,l,ha⟩,hr⟩
def slotK (b:Blk):Nat:=(slF b (b.length/64)).getD (b.length/64)
theorem slotK_eq {b:Blk} (h:b.length%64=0):((slF b (b.length/64)).map (64* ·)).getD b.length=64*slotK b:=by
  unfold slotK
  cases slF b (b.length/64) with
  | none=>show b.length=64*(b.length/64);omega
  | some k=>rfl
theorem slotK_le {b:Blk} (h:b.length%64=0):64*slotK b≤b.length:=by
  unfold slotK
  cases hx:slF b (b.length/64) with
  | none=>show 64*(b.length/64)≤_;omega
  | some k=>have:=(slF_some hx).1;show 64*k≤_;omega
theorem slotK_free {b:Blk} (h:slotK b<b.length/64):slU b (slotK b)=false:=by
  unfold slotK at h ⊢
  cases hx:slF b (b.length/64) with
  | none=>rw [hx] at h;exact absurd h (Nat.lt_irrefl _)
  | some k=>exact (slF_some hx).2
theorem dat_mono {a b:Nat} (h:a≤b):dat a≤dat b:=by unfold dat;omega
theorem fi_live {X W:Sys} (hP:W.P=X.P) (hl: ∀j,W.live j↔X.live j):W.fi=X.fi:=by
  unfold Sys.fi
  rw [hP]
  congr 1
  apply popc_congr
  intro k hk
  have h1:=hl k
  unfold Sys.live at h1
  rw [hP] at h1
  have h2:bitAt (W.v X.P.im) k=true↔bitAt (X.v X.P.im) k=true:=⟨fun e=>(h1.1 ⟨hk,e⟩).2,fun e=>(h1.2 ⟨hk,e⟩).2⟩
  cases ha:bitAt (W.v X.P.im) k<;>cases hb:bitAt (X.v X.P.im) k<;>rw [ha,hb] at h2<;>simp at h2<;>rfl
structure Goes (X X':Sys) (C C':List Nat):Prop where
  wr:X'=X.wr X'.l
  cov:Cov X' C'
  sub: ∀c∈C,c∈C'
  held: ∀j,X.live j→HeldC X C j→HeldC X' C' j
  live: ∀j,X.live j→X'.live j
theorem Goes.trans {X Y Z:Sys} {C D E:List Nat} (h:Goes X Y C D) (g:Goes Y Z D E):Goes X Z C E:=
  ⟨by rw [g.wr,h.wr];rfl,g.cov,fun c hc=>g.sub c (h.sub c hc),fun j hj hh=>g.held j (h.live j hj) (h.held j hj hh),fun j hj=>g.live j (h.live j hj)⟩
theorem Goes.refl {X:Sys} {C:List Nat} (h:Cov X C):Goes X X C C:=⟨rfl,h,fun _ h=>h,fun _ _ h=>h,fun _ h=>h⟩
structure Mk (X X':Sys) (A:Path→Option Nd) (ι:Path→Nat) (A':Path→Option Nd) (ι':Path→Nat) (C C':List Nat) (p:Path) (s:ByteArray) (x:Nd) (n:Nat):Prop where
  tree: ∃S i,A'=addT A p s x S∧ι'=addI ι p s i∧(S=n∨S=n+64)∧(n=0→S=64)∧HeldC X' C' i∧X'.fb+(dat S-dat n)=X.fb∧C'.length≤C.length+1+(dat S-dat n)
  goes:Goes X X' C C'
  fi:X'.fi+1=X.fi
end
section
open Go.ChangeMaps Go.MapKept Go.RowKit
variable {w0:Gnd} {w:World} {rs:List Res} {X:Sys} {F:FH} {A:Path→Option Nd} {ι:Path→Nat}
theorem Mk.of {W:Sys} (hr:Rep X A ι) (hX:SysOk X) {p:Path} {n:Nat} (hp:A p=some (.dir n)) {s:ByteArray} (hs:NmS s) (hno:A (p++ [s])=none) {i kind:Nat} {x:Nd} (hx:(x= .dir 0∧kind=2)∨(x= .file []∧kind=1)) (hz:firstZ (X.v X.P.im) X.P.ni=some i)
    (hw:Wrote (X.made i kind) W (ι p) (64*slotK (X.bytes (ι p))) (nameB i s)) {C N:List Nat} (hcv:Cov W (((X.P.tb+i/8)::C)++N)) (hh:HeldC X C (ι p)) (hblk: ∀k,k<dat (max n (64*slotK (X.bytes (ι p))+64))→W.nd (ι p) (2+k)∈((X.P.tb+i/8)::C)++N) (hN:N.length=dat (max n (64*slotK (X.bytes (ι p))+64))-dat n):
    ∃A' ι' C',Rep W A' ι'∧Mk X W A ι A' ι' C C' p s x n∧∀l,LdOk A ι l→LdOk A' ι' l:=by
  obtain ⟨hm1,hm2,hm3,hm4,hm5,hm6,hm7,hm8⟩:=hr.ok.made hX hz (kind:=kind) (by rcases hx with ⟨_,e⟩ | ⟨_,e⟩<;>omega)
  obtain ⟨hl1,hl2,hl3⟩:=hr.live p _ hp
  have hl3:X.nd (ι p) 1=n:=hl3
  have hne:ι p≠i:=fun e=>hm3 (e▸hl1)
  obtain ⟨hb1,hb2⟩:=hm4 (ι p) hl1
  have hd:=hr.dir p n hp
  have hbl:=bytes_len X (ι p)
  have hi:i<4294967296:=by have:=(firstZ_some hz).1;have:=hX.pl.ni.2;omega
  have hnl:=nameB_length i s hs.2
  have ha:64*slotK (X.bytes (ι p))≤X.nd (ι p) 1:=by rw [←hbl];exact slotK_le hd.whole
  have hov:=hw.over (by rw [hb2 1 (by omega)];exact ha)
  rw [hb1] at hov
  have hS:W.nd (ι p) 1=max n (64*slotK (X.bytes (ι p))+64):=by rw [hw.size,hb2 1 (by omega),hl3,hnl]
  have hil:(X.made i kind).live i:=(hm2 i).2 (.inr rfl)
  obtain ⟨ho1,ho2⟩:=hw.oth i hil hne.symm
  have hPW:W.P=X.P:=hw.wr.P
  have hrep:=hr.add hp hs hno (i:=i) (x:=x) (by rcases hx with ⟨e,_⟩ | ⟨e,_⟩<;>simp [e]) hw.ok hm3 (fun j=>(hw.live j).trans (hm2 j)) (fun j hj hne=>by
      have h1:=hw.oth j ((hm2 j).2 (.inl hj)) hne
      have h2:=hm4 j hj
      exact ⟨h1.1.trans h2.1,fun m hm=>(h1.2 m hm).trans (h2.2 m hm)⟩) (by rw [hw.kind,hb2 0 (by omega)];exact hl2) hS (by rw [ho2 0 (by omega),hm5];rcases hx with ⟨e1,e2⟩ | ⟨e1,e2⟩<;>rw [e1,e2]<;>rfl) (by rw [ho2 1 (by omega),hm6]) hov (nameB_slot i s hs.2 hi) (slotK_le hd.whole) slotK_free
  have hsm:max n (64*slotK (X.bytes (ι p))+64)=n∨max n (64*slotK (X.bytes (ι p))+64)=n+64:=by
    have hw6:=hd.whole
    rw [hbl,hl3] at hw6
    rw [hl3] at ha
    omega
  have hs5:=hr.ok.size (ι p) hl1
  refine ⟨_,_,((X.P.tb+i/8)::C)++N,hrep,⟨⟨_,i,rfl,rfl,hsm,fun h0=>?_,?_,?_,?_⟩,⟨?_,hcv,fun c hc=>List.mem_append_left _ (List.mem_cons_of_mem _ hc),fun j hj hhj=>?_,fun j hj=>(hw.live j).2 ((hm2 j).2 (.inl hj))⟩,?_⟩,fun l hl d s' i' hi'=>?_⟩
  · rw [h0] at hl3 hsm ⊢
    rw [hl3] at ha
    omega
  · refine ⟨by rw [hPW];exact List.mem_append_left _ (List.mem_cons_self ..),fun k hk=>?_⟩
    rw [ho2 1 (by omega),hm6] at hk
    exact absurd hk (by unfold dat;omega)
  · have hf:=hw.free
    rw [hS,hb2 1 (by omega),hl3,hm7] at hf
    exact hf
  · rw [List.length_append,List.length_cons,hN]
    omega
  · have:=hw.wr.eq
    rw [this];rfl
  · by_cases e:j=ι p
    · subst e
      refine ⟨by rw [hPW];exact List.mem_append_left _ (List.mem_cons_of_mem _ hh.1),fun k hk=>?_⟩
      rw [hS] at hk
      exact hblk k hk
    · refine (hhj.same hPW (hr.ok.size j hj) fun m hm=>?_).mono fun c hc=>List.mem_append_left _ (List.mem_cons_of_mem _ hc)
      exact ((hw.oth j ((hm2 j).2 (.inl hj)) e).2 m hm).trans ((hm4 j hj).2 m hm)
  · rw [fi_live (W:=W) (X:=X.made i kind) hw.wr.P hw.live]
    exact made_fi hX hz
  · obtain ⟨q,q1,q2,q3⟩:=hl d s' i' hi'
    have e1:q++ [s']≠p++ [s]:=fun e=>q1 (by rw [e];exact hno)
    have e2:q≠p++ [s]:=fun e=>by
      obtain ⟨_,m,hm⟩:=hr.up q s' q1
      rw [e,hno] at hm;cases hm
    refine ⟨q,?_,?_,?_⟩
    · unfold addT
      rw [if_neg e1]
      split
      · exact fun x=>by cases x
      · exact q1
    · unfold addI;rw [if_neg e2];exact q2
    · unfold addI;rw [if_neg e1];exact q3
end
section
open Go.ChangeMaps Go.MapKept Go.RowKit
theorem neFSp: ¬U8T (24:TypeId):=by decide
end
section
open Go.ChangeMaps Go.MapKept Go.RowKit
variable {w0:Gnd} {w:World} {rs:List Res} {X:Sys} {F:FH} {A:Path→Option Nd} {ι:Path→Nat}
set_option maxHeartbeats 2000000 in
set_option maxRecDepth 100000 in
theorem b_make (h:Fs w0 w F X A ι rs) (hop:X.op=true) {p:Path} {n:Nat} (hp:A p=some (.dir n)) (s:ByteArray) (hns: ∀x∈p++ [s],NameOk x) (h8:p.length≤7) (hno:A (p++ [s])=none) {kind:Nat} {x:Nd} (hx:(x= .dir 0∧kind=2)∨(x= .file []∧kind=1)) (h5:n+64≤5120) (hfi:0<X.fi) (hfb:dat (n+64)-dat n≤X.fb) {C:List Nat} (hC:Cov X C) (him:X.P.im∈C) (hbm:X.P.bm∈C) (hh:HeldC X C (ι p)) (h60:C.length+1+(dat (n+64)-dat n)≤60)
    {i1 i2 i3 bp bf bk:Nat} (b1:rs[i1]?=some (arr bp #[.string (pathB (p++ [s]))] 9 neStr)) (b2:rs[i2]?=some (arr bf #[.pointer (some ⟨F.fb,0,none⟩)] 24 neFSp)) (b3:rs[i3]?=some (arr bk #[.int .i64 kind] 3 neI8)):
    Calls Tryz.prog 116 #[.pointer (some ⟨bp,0,none⟩),.pointer (some ⟨bf,0,none⟩),.pointer (some ⟨bk,0,none⟩)] w fun e w'=>e= .returned (.int .i64 0)∧∃X' A' ι' C',Fs w0 w' F X' A' ι' rs∧Mk X X' A ι A' ι' C C' p s x n:=by
  have hs:NameOk s:=hns s (by simp)
  have hneq:((pathB (p++ [s])).toList== [47])=false:=by
    rw [Go.Lib.toList_data,pathB_snoc]
    have h1:1≤s.data.size:=hs.size.1
    simp only [beq_eq_false_iff_ne,ne_eq]
    intro e
    have hl:((pathB p).data.toList++47::s.data.toList).length=1:=by rw [e];rfl
    rw [List.length_append,List.length_cons,Array.length_toList (xs:=s.data)] at hl
    omega
  have HP:=Lib.hid (f_parent h hp s hns h8)
  have KF:Hid (∀y,Fs w0 y F X A ι rs→Calls Tryz.prog 118 #[.pointer (some ⟨F.fb,0,none⟩),.int .i64 (ι p),.string s] y fun e w'=>e= .returned (.tuple #[.int .i64 0,.int .i64 4])∧Fs w0 w' F X A ι rs):=Lib.hid fun y hy=>by
    have:=f_find hy hp s hs
    rw [show lookT A ι (p++ [s])=none by unfold lookT;rw [hno];rfl] at this
    exact this
  obtain ⟨i,hz⟩:=fi_room hfi
  have hi1:=firstZ_some hz
  have KM:Hid (∀y rs',At w0 y X rs'→Calls Tryz.prog 119 #[.pointer (some ⟨X.sb,0,none⟩),.int .i64 kind] y fun e w'=>e= .returned (.tuple #[.int .i64 i,.int .i64 0])∧At w0 w' (X.made i kind) rs'):=Lib.hid fun y rs' hy=>
    i_Make hy hop kind (by rcases hx with ⟨_,e⟩ | ⟨_,e⟩<;>simp [e]) hz (C:=(X.P.tb+i/8)::C) (hC.mono fun c hc=>List.mem_cons_of_mem _ hc) (List.mem_cons_of_mem _ him) (List.mem_cons_self ..) (by rw [List.length_cons];omega)
  have hok:=h.2
  obtain ⟨b,hb⟩: ∃b,X.bytes (ι p)=b:=⟨_,rfl⟩
  obtain ⟨fr,hfr⟩: ∃fr,64*slotK b=fr:=⟨_,rfl⟩
  have KA:Hid (∀y rs',At w0 y X rs'→True):=Lib.hid fun _ _ _=>trivial
  have HSX:SysOk X:=by
    obtain ⟨⟨_,_,ha,_⟩,_⟩:=h
    exact ha.ok
  have hm:=hok.ok.made HSX hz (kind:=kind) (by rcases hx with ⟨_,e⟩ | ⟨_,e⟩<;>omega)
  obtain ⟨hm1,hm2,hm3,hm4,hm5,hm6,hm7,hm8⟩:=hm
  obtain ⟨hl1,hl2,hl3⟩:=hok.live p _ hp
  have hl3:X.nd (ι p) 1=n:=hl3
  obtain ⟨hb1,hb2⟩:=hm4 (ι p) hl1
  have hd:=hok.dir p n hp
  have hbl:=bytes_len X (ι p)
  rw [hb] at hb1 hd hbl
  have hle:=slotK_le hd.whole
  have hpre:entI b (keyB s)=none:=by
    have:=hok.look hp hs.nm
    rw [hb] at this
    rw [this]
    unfold lookT
    rw [hno];rfl
  have hS5:max n (fr+64)≤n+64:=by omega
  have KD:Hid (∀y rs',At w0 y (X.made i kind) rs'→Calls Tryz.prog 120 #[.pointer (some ⟨X.sb,0,none⟩),.int .i64 (ι p),.string s,.int .i64 i] y fun e w'=>e= .returned (.int .i64 0)∧∃W N,At w0 w' W rs'∧Wrote (X.made i kind) W (ι p) fr (nameB i s)∧N.length=dat (max n (fr+64))-dat n∧Cov W (((X.P.tb+i/8)::C)++N)∧∀k,k<dat (max n (fr+64))→W.nd (ι p) (2+k)∈((X.P.tb+i/8)::C)++N):=Lib.hid fun y rs' hy=>by
    have hdm:=dat_mono hS5
    have e1:(X.made i kind).nd (ι p) 1=n:=(hb2 1 (by omega)).trans hl3
    have:=d_Add hy (by exact hop) hm1 (ι p) ((hm2 _).2 (.inl hl1)) ((hb2 0 (by omega)).trans hl2) b hb1 hd.whole s hs hpre i (by have:=hi1.1;have:=HSX.pl.ni.2;omega) fr (by rw [slotK_eq hd.whole,hfr]) (by rw [e1];omega) (max n (fr+64)) (by rw [e1]) (by omega) (by rw [e1,hm7];omega) (C:=(X.P.tb+i/8)::C)
      ((hC.mono fun c hc=>List.mem_cons_of_mem _ hc).wr hm8 (by rintro t (e | e)<;>rw [e];exact List.mem_cons_of_mem _ him;exact List.mem_cons_self ..)) (List.mem_cons_of_mem _ hbm) (List.mem_cons_of_mem _ hh.1) (fun k hk=>by
        rw [e1] at hk
        have hd10:dat n≤10:=dat_le (by omega)
        rw [hb2 (2+k) (by omega)]
        exact List.mem_cons_of_mem _ (hh.2 k (by rw [hl3];exact hk))) (by rw [e1,List.length_cons];omega)
    rw [e1] at this
    exact this
  have HFIN:Hid (∀W N,Wrote (X.made i kind) W (ι p) fr (nameB i s)→N.length=dat (max n (fr+64))-dat n→Cov W (((X.P.tb+i/8)::C)++N)→(∀k,k<dat (max n (fr+64))→W.nd (ι p) (2+k)∈((X.P.tb+i/8)::C)++N)→∃A' ι' C',Rep W A' ι'∧Mk X W A ι A' ι' C C' p s x n∧∀l,LdOk A ι l→LdOk A' ι' l):=Lib.hid fun W N q1 q2 q3 q4=>by
    rw [←hfr,←hb] at q1 q2 q4
    exact Mk.of hok HSX hp hs.nm hno hx hz q1 q3 hh q4 q2
  have HB:=Lib.hid (And.intro b1 (And.intro b2 b3))
  have KC:Hid (∀y m l,At w0 y X (fsS F X::fsL F m l::rs)→y.cell? ⟨bf,0,none⟩=some (.pointer (some ⟨F.fb,0,none⟩))∧y.cell? ⟨bk,0,none⟩=some (.int .i64 kind)∧y.cell? ⟨F.fb,2,none⟩=some (.pointer (some ⟨X.sb,0,none⟩))):=Lib.hid fun y m l hy=>
    ⟨(hy.arrCell (i:=i2+2) b2 0).trans rfl,(hy.arrCell (i:=i3+2) b3 0).trans rfl,(hy.arrCell (i:=0) rfl 2).trans rfl⟩
  have KC2:Hid (∀y m l W,Wr X W (fun _=>True)→At w0 y W (fsS F X::fsL F m l::rs)→y.cell? ⟨bf,0,none⟩=some (.pointer (some ⟨F.fb,0,none⟩))∧y.cell? ⟨bk,0,none⟩=some (.int .i64 kind)∧y.cell? ⟨F.fb,2,none⟩=some (.pointer (some ⟨X.sb,0,none⟩))):=Lib.hid fun y m l W _ hy=>
    ⟨(hy.arrCell (i:=i2+2) b2 0).trans rfl,(hy.arrCell (i:=i3+2) b3 0).trans rfl,(hy.arrCell (i:=0) rfl 2).trans rfl⟩
  have HH:=Lib.hid h
  have HMW:=Lib.hid (hm8.mono (U:=fun _=>True) fun _ _=>trivial)
  have c1:w.cell? ⟨bp,0,none⟩=some (.string (pathB (p++ [s]))):=(h.arrCell b1 0).trans rfl
  have c2:w.cell? ⟨bf,0,none⟩=some (.pointer (some ⟨F.fb,0,none⟩)):=(h.arrCell b2 0).trans rfl
  clear h hop hp hns h8 hno hx h5 hfi hfb hC him hbm hh h60 b1 b2 b3 hs hok HSX hm1 hm2 hm3 hm4 hm5 hm6 hm7 hm8 hl1 hl2 hl3 hb1 hb2 hd hbl hle hpre hS5 hb hfr hz hi1 KA
  generalize pathB (p++ [s])=path at*
  obtain ⟨d,hd⟩: ∃d,ι p=d:=⟨_,rfl⟩
  rw [hd] at HP KF KD HFIN
  clear hd
  go_enter Tryz.func116,Tryz.ntmps116
  go_wp2_with fail
  refine HP.out.mono ?_
  clear HP HH
  rintro e w1 ⟨rfl,h1⟩
  have H1:=Lib.hid (KF.out w1 h1)
  have c2:w1.cell? ⟨bf,0,none⟩=some (.pointer (some ⟨F.fb,0,none⟩)):=(h1.arrCell HB.out.2.1 0).trans rfl
  clear h1 KF c1
  go_wp2_with fail
  refine H1.out.mono ?_
  clear H1
  rintro e w2 ⟨rfl,⟨⟨m,l,h2,hl2⟩,hr2⟩⟩
  have H2:=Lib.hid h2
  have H2d:=Lib.hid (h2.frm (Frm.refl NoB w2).drew)
  have HLD:=Lib.hid hl2
  clear h2 hl2 hr2
  go_upto_region 11 with fail
  go_region_held3 (fun y=>y.cell? ⟨bf,0,none⟩=some (.pointer (some ⟨F.fb,0,none⟩))∧y.cell? ⟨bk,0,none⟩=some (.int .i64 kind)∧y.cell? ⟨F.fb,2,none⟩=some (.pointer (some ⟨X.sb,0,none⟩)))
    (first | exact KC.out _ _ _ H2.out | exact KC.out _ _ _ H2d.out | exact KC2.out _ _ _ _ HMW.out h4)
    (first
      | (go_at_call 119;(with_reducible refine (KM.out _ _ H2d.out).mono ?_);rintro e w4 ⟨rfl,h4⟩))
  have H4:=Lib.hid h4
  have c2:w4.cell? ⟨bf,0,none⟩=some (.pointer (some ⟨F.fb,0,none⟩)):=(KC2.out _ _ _ _ HMW.out h4).1
  have c3:w4.cell? ⟨F.fb,2,none⟩=some (.pointer (some ⟨X.sb,0,none⟩)):=(KC2.out _ _ _ _ HMW.out h4).2.2
  clear h4 H2 H2d KM KC KC2 HMW
  go_wp2_with fail
  refine (KD.out _ _ H4.out).mono ?_
  clear KD H4 c2 c3
  rintro e w5 ⟨rfl,W,N,h5,q1,q2,q3,q4⟩
  obtain ⟨A',ι',C',r1,r2,r3⟩:=HFIN.out W N q1 q2 q3 q4
  have HF:Hid (Fs w0 w5 F W A' ι' rs):=Lib.hid ⟨⟨m,l,by
    have e1:fsS F W=fsS F X:=by rw [r2.goes.wr];rfl
    rw [e1];exact h5,r3 l HLD.out⟩,r1⟩
  have HM:=Lib.hid r2
  clear h5 q1 q2 q3 q4 r1 r2 r3 HFIN
  go_wp2
  go_ret
  exact ⟨rfl,W,A',ι',C',HF.out,HM.out⟩
set_option maxRecDepth 100000 in
theorem x_Over (h:At w0 w X rs):Calls Tryz.prog 206 #[.pointer (some ⟨X.cb,0,none⟩)] w fun e w'=>w=w'∧e= .returned (.bool X.ov):=by
  have c2:w.cell? ⟨X.cb,2,none⟩=some (.bool X.ov):=(h.open.arrCell (i:=0) rfl 2).trans rfl
  clear h
  go_enter Tryz.func206,Tryz.ntmps206
  go_wp2_with fail
  go_ret
  exact ⟨rfl,rfl⟩
set_option maxRecDepth 100000 in
theorem x_Mark (h:At w0 w X rs):Calls Tryz.prog 163 #[.pointer (some ⟨X.cb,0,none⟩)] w fun e w'=> ∃mb,e= .returned (.map (some mb))∧Frm NoB w w':=by
  have c3:w.cell? ⟨X.cb,3,none⟩=some (.map (some X.wb)):=(h.open.arrCell (i:=0) rfl 3).trans rfl
  obtain ⟨Fm,⟨es,clock,hb,_⟩,_⟩:=h.open.get (i:=1) (r:=wrt X.wb X.l) rfl
  have hc:=AnyW.maps_Clone Tryz.cloneC X.wb es clock w hb
  change Calls Tryz.prog 241 _ _ _ at hc
  have HC:=Lib.hid hc
  clear h hb hc
  go_enter Tryz.func163,Tryz.ntmps163
  go_wp2_with fail
  refine HC.out.mono ?_
  rintro e w2 ⟨rfl,rfl⟩
  have HF:=Lib.hid ((Frm.refl NoB w).alloc (.map es clock))
  go_wp2
  go_ret
  exact ⟨_,rfl,HF.out⟩
theorem FsW.cells (h:FsW w0 w F X A ι rs) (j:Nat):w.cell? ⟨F.fb,j,none⟩=(fsC F X)[j]?:=by
  obtain ⟨⟨n,l,ha⟩,_⟩:=h
  exact ha.arrCell (i:=0) rfl j
theorem FsW.free (h:FsW w0 w F X A ι rs) (j:Nat):w.frozen? ⟨F.fb,j,none⟩=false:=by
  obtain ⟨⟨n,l,ha⟩,_⟩:=h
  exact ha.arrFree (i:=0) rfl j
theorem f_gone (h:FsW w0 w F X A ι rs):Calls Tryz.prog 162 #[.pointer (some ⟨F.fb,0,none⟩)] w fun e w'=>w=w'∧e= .returned (.bool F.dead):=by
  have c0:w.cell? ⟨F.fb,0,none⟩=some (.pointer (some ⟨X.cb,0,none⟩)):=(h.cells 0).trans rfl
  have c5:w.cell? ⟨F.fb,5,none⟩=some (.bool F.dead):=(h.cells 5).trans rfl
  clear h
  go_enter Tryz.func162,Tryz.ntmps162
  go_wp2_with fail
  go_ret
  exact ⟨rfl,rfl⟩
theorem LdOk.none (A:Path→Option Nd) (ι:Path→Nat):LdOk A ι (fun _=>none):=fun d s i h=>by cases h
theorem f_forget1 (h:FsW w0 w F X A ι rs): ∃o,(Builtin.clear_ #[106] 0 #[.map (some F.lb)]).run Tryz.prog w= .ok (.tuple #[]) (setBlock w F.lb o)∧Fs w0 (setBlock w F.lb o) F X A ι rs:=by
  obtain ⟨⟨n,l,ha⟩,hr⟩:=h
  obtain ⟨o,q,h2⟩:=ha.mapClear 1 rfl Tryz.underlying106 0
  exact ⟨o,q,⟨0,fun _=>none,h2,LdOk.none A ι⟩,hr⟩
theorem f_forget (h:FsW w0 w F X A ι rs):Calls Tryz.prog 165 #[.pointer (some ⟨F.fb,0,none⟩)] w fun e w'=>e= .returned (.tuple #[])∧Fs w0 w' F X A ι rs:=by
  have c6:w.cell? ⟨F.fb,6,none⟩=some (.map (some F.lb)):=(h.cells 6).trans rfl
  obtain ⟨o,q,h2⟩:=f_forget1 h
  have H2:=Lib.hid h2
  clear h h2
  go_enter Tryz.func165,Tryz.ntmps165
  go_wp2_with fail
  go_end0
  exact ⟨rfl,H2.out⟩
theorem f_forgetD (h:FsW w0 w F X A ι rs) (u:FrameMode):CallsD Tryz.prog 165 #[.pointer (some ⟨F.fb,0,none⟩)] u w fun e u' w'=>u'=u∧(e= .returned (.tuple #[])∧Fs w0 w' F X A ι rs):=by
  have c6:w.cell? ⟨F.fb,6,none⟩=some (.map (some F.lb)):=(h.cells 6).trans rfl
  obtain ⟨o,q,h2⟩:=f_forget1 h
  have H2:=Lib.hid h2
  clear h h2
  go_enter_d Tryz.func165,Tryz.ntmps165
  go_wp2_with fail
  go_end0
  exact ⟨rfl,H2.out⟩
end
section
open Go.ChangeMaps Go.MapKept Go.RowKit
theorem live_congr {X Y:Sys} (hP:Y.P=X.P) (hv:Y.v=X.v) (i:Nat):Y.live i↔X.live i:=by unfold Sys.live;rw [hP,hv]
theorem nd_congr {X Y:Sys} (hP:Y.P=X.P) (hv:Y.v=X.v) (i:Nat):Y.nd i=X.nd i:=by unfold Sys.nd;rw [hP,hv]
theorem byt_congr {X Y:Sys} (hP:Y.P=X.P) (hv:Y.v=X.v) (i:Nat):Y.bytes i=X.bytes i:=by unfold Sys.bytes;rw [nd_congr hP hv,hv]
theorem FsOk.congr {X Y:Sys} (h:FsOk X) (hP:Y.P=X.P) (hv:Y.v=X.v):FsOk Y:=by
  refine ⟨fun i hi=>?_,fun i k hi hk=>?_,fun i j k m hi hj hk hm e=>?_⟩
  · rw [nd_congr hP hv];exact h.size i ((live_congr hP hv i).1 hi)
  · rw [nd_congr hP hv] at hk ⊢
    rw [hP,hv]
    exact h.blk i k ((live_congr hP hv i).1 hi) hk
  · rw [nd_congr hP hv] at hk e
    rw [nd_congr hP hv j] at hm e
    exact h.inj i j k m ((live_congr hP hv i).1 hi) ((live_congr hP hv j).1 hj) hk hm e
theorem Rep.congr {X Y:Sys} {A:Path→Option Nd} {ι:Path→Nat} (h:Rep X A ι) (hP:Y.P=X.P) (hv:Y.v=X.v):Rep Y A ι:=by
  refine ⟨h.ok.congr hP hv,h.root,h.zero,fun p x hp=>?_,fun p n hp=>?_,fun p n hp a ha=>?_,fun p s hp=>?_,fun p b hp=>?_,h.inj,h.up⟩
  · rw [live_congr hP hv,nd_congr hP hv];exact h.live p x hp
  · rw [byt_congr hP hv];exact h.dir p n hp
  · rw [byt_congr hP hv] at ha;exact h.name p n hp a ha
  · rw [byt_congr hP hv];exact h.leads p s hp
  · rw [byt_congr hP hv];exact h.file p b hp
end
section
open Go.ChangeMaps Go.MapKept Go.RowKit
variable {w0:Gnd} {w:World} {rs:List Res} {X:Sys} {F:FH} {A:Path→Option Nd} {ι:Path→Nat}
structure Comm (X Y:Sys):Prop where
  same:Same X Y
  op:Y.op=false
  l:Y.l= []
  v:Y.v=X.v
  m:Y.m=X.m+1
set_option maxRecDepth 100000 in
theorem f_end (h:FsW w0 w F X A ι rs) (hop:X.op=true) (hlim:X.D.lim=none) (hm:X.m<1000000):
    Calls Tryz.prog 205 #[.pointer (some ⟨F.fb,0,none⟩)] w fun e w'=>e= .returned (.int .i64 0)∧∃Y,Fs w0 w' F Y A ι rs∧Comm X Y:=by
  have HF:=Lib.hid (f_forget h)
  have KC:Hid (∀y,Fs w0 y F X A ι rs→Calls Tryz.prog 96 #[.pointer (some ⟨X.cb,0,none⟩)] y fun e w'=>e= .returned (.int .i64 0)∧∃Y,Fs w0 w' F Y A ι rs∧Comm X Y):=Lib.hid fun y hy=>by
    obtain ⟨⟨n,l,ha,hl⟩,hr⟩:=hy
    refine (x_Commit ha hop hlim hm).mono ?_
    rintro e w' ⟨he,Y,hs,hY,q1,q2,q3,q4⟩
    have e1:fsS F Y=fsS F X:=by unfold fsS fsC;rw [hs.cb,hs.ab,hs.sb]
    exact ⟨he,Y,⟨⟨n,l,by rw [e1];exact hY,hl⟩,hr.congr hs.P q3⟩,hs,q1,q2,q3,q4⟩
  clear h hop hlim hm
  go_enter Tryz.func205,Tryz.ntmps205
  go_wp2_with fail
  refine HF.out.mono ?_
  rintro e w1 ⟨rfl,h1⟩
  have c0:w1.cell? ⟨F.fb,0,none⟩=some (.pointer (some ⟨X.cb,0,none⟩)):=(h1.cells 0).trans rfl
  have HC:=Lib.hid (KC.out w1 h1)
  clear h1 HF KC
  go_wp2_with fail
  refine HC.out.mono ?_
  rintro e w2 ⟨rfl,hp⟩
  have HP:=Lib.hid hp
  clear hp HC
  go_wp2
  go_ret
  exact ⟨rfl,HP.out⟩
theorem Fs.begun (h:FsW w0 w F X A ι rs) (b:Bool):FsW w0 (w.setCell ⟨F.fb,3,none⟩ (.bool b)) { F with begun:=b } X A ι rs:=by
  obtain ⟨⟨n,l,ha⟩,hr⟩:=h
  exact ⟨⟨n,l,ha.setArr 0 rfl 3 (.bool b)⟩,hr⟩
def Sys.open' (X:Sys):Sys:= { X with op:=true,ov:=false }
theorem k_Begin (h:Fs w0 w F X A ι rs) (hop:X.op=false):
    Calls Tryz.prog 90 #[.pointer (some ⟨X.cb,0,none⟩)] w fun e w'=>e= .returned (.int .i64 0)∧Fs w0 w' F X.open' A ι rs:=by
  obtain ⟨⟨n,l,ha,hl⟩,hr⟩:=h
  refine (x_Begin ha hop).mono ?_
  rintro e w' ⟨he,h1⟩
  exact ⟨he,⟨n,l,h1,hl⟩,hr.congr rfl rfl⟩
set_option maxRecDepth 100000 in
theorem f_Begin (h:Fs w0 w F X A ι rs) (hb:F.begun=false) (hd:F.dead=false) (hop:X.op=false):
    Calls Tryz.prog 166 #[.pointer (some ⟨F.fb,0,none⟩)] w fun e w'=>e= .returned (.int .i64 0)∧Fs w0 w' { F with begun:=true,over:=false } X.open' A ι rs:=by
  have HG:=Lib.hid (f_gone h.weak)
  rw [hd] at HG
  have c3:w.cell? ⟨F.fb,3,none⟩=some (.bool false):=(h.cells 3).trans (by show some (Value.bool F.begun)=_;rw [hb])
  have HH:=Lib.hid h
  obtain ⟨ov,hov⟩: ∃ov,F.over=ov:=⟨_,rfl⟩
  have c4:(w.setCell ⟨F.fb,3,none⟩ (.bool true)).cell? ⟨F.fb,4,none⟩=some (.bool ov):=((Fs.begun h.weak true).cells 4).trans (by rw [←hov];rfl)
  have f3:w.frozen? ⟨F.fb,3,none⟩=false:=h.weak.free 3
  have f4:(w.setCell ⟨F.fb,3,none⟩ (.bool true)).frozen? ⟨F.fb,4,none⟩=false:=(Fs.begun h.weak true).free 4
  have h2:Fs w0 ((w.setCell ⟨F.fb,3,none⟩ (.bool true)).setCell ⟨F.fb,4,none⟩ (.bool false)) { F with begun:=true,over:=false } X A ι rs:=by
    obtain ⟨⟨n,l,ha,hl⟩,hr⟩:=h
    exact ⟨⟨n,l,(ha.setArr 0 rfl 3 (.bool true)).setArr 0 rfl 4 (.bool false),hl⟩,hr⟩
  have HB:=Lib.hid (k_Begin h2 hop)
  have c0:((w.setCell ⟨F.fb,3,none⟩ (.bool true)).setCell ⟨F.fb,4,none⟩ (.bool false)).cell? ⟨F.fb,0,none⟩=some (.pointer (some ⟨X.cb,0,none⟩)):=(h2.cells 0).trans rfl
  clear h hb hd hop h2 hov
  go_enter Tryz.func166,Tryz.ntmps166
  go_wp2_with fail
  refine HG.out.mono ?_
  rintro e w1 ⟨rfl,rfl⟩
  go_wp2_with fail
  refine HB.out.mono ?_
  rintro e w2 ⟨rfl,h2⟩
  have H2:=Lib.hid h2
  clear h2 HB
  go_wp2
  go_ret
  exact ⟨rfl,H2.out⟩
set_option maxRecDepth 100000 in
theorem f_Commit (h:Fs w0 w F X A ι rs) (hb:F.begun=true) (hov:F.over=false) (hop:X.op=true) (hlim:X.D.lim=none) (hm:X.m<1000000):
    Calls Tryz.prog 168 #[.pointer (some ⟨F.fb,0,none⟩)] w fun e w'=>e= .returned (.int .i64 0)∧∃Y,Fs w0 w' { F with begun:=false } Y A ι rs∧Comm X Y:=by
  have c0:w.cell? ⟨F.fb,0,none⟩=some (.pointer (some ⟨X.cb,0,none⟩)):=(h.cells 0).trans rfl
  have c3:w.cell? ⟨F.fb,3,none⟩=some (.bool true):=(h.cells 3).trans (by show some (Value.bool F.begun)=_;rw [hb])
  have f3:w.frozen? ⟨F.fb,3,none⟩=false:=h.weak.free 3
  have h1:=Fs.begun h.weak false
  have c4:(w.setCell ⟨F.fb,3,none⟩ (.bool false)).cell? ⟨F.fb,4,none⟩=some (.bool false):=(h1.cells 4).trans (by show some (Value.bool F.over)=_;rw [hov])
  have HE:=Lib.hid (f_end h1 hop hlim hm)
  clear h hb hov hop hlim hm h1
  go_enter Tryz.func168,Tryz.ntmps168
  go_wp2_with fail
  refine HE.out.mono ?_
  rintro e w2 ⟨rfl,hp⟩
  have HP:=Lib.hid hp
  clear hp HE
  go_wp2
  go_ret
  exact ⟨rfl,HP.out⟩
set_option maxHeartbeats 1000000 in
set_option maxRecDepth 100000 in
theorem f_change_in (h:Fs w0 w F X A ι rs) (hb:F.begun=true) (ho:F.over=false) (hd:F.dead=false) (hov:X.ov=false) (fn:FuncId) (caps:Array Value) (hE:EntersF Tryz.prog fn) {K:Sys→(Path→Option Nd)→(Path→Nat)→Prop}
    (HD: ∀y,Fs w0 y F X A ι rs→Calls Tryz.prog fn caps y fun e w'=>e= .returned (.int .i64 0)∧∃X' A' ι',FsW w0 w' F X' A' ι' rs∧X'=X.wr X'.l∧K X' A' ι'):
    Calls Tryz.prog 115 #[.pointer (some ⟨F.fb,0,none⟩),.func (.func fn) #[] caps] w fun e w'=>e= .returned (.int .i64 0)∧∃X' A' ι',Fs w0 w' F X' A' ι' rs∧X'=X.wr X'.l∧K X' A' ι':=by
  have HG:=Lib.hid (f_gone h.weak)
  rw [hd] at HG
  have HF:=Lib.hid (f_forget h.weak)
  have HDD:=Lib.hid HD
  have HEN:=Lib.hid hE
  have KM:Hid (∀y,Fs w0 y F X A ι rs→Calls Tryz.prog 163 #[.pointer (some ⟨X.cb,0,none⟩)] y fun e w'=> ∃mb,e= .returned (.map (some mb))∧Frm NoB y w'):=Lib.hid fun y hy=>by
    obtain ⟨⟨n,l,ha,hl⟩,hr⟩:=hy
    exact x_Mark ha
  have KO:Hid (∀y X' A' ι',FsW w0 y F X' A' ι' rs→X'=X.wr X'.l→Calls Tryz.prog 206 #[.pointer (some ⟨X.cb,0,none⟩)] y fun e w'=>y=w'∧e= .returned (.bool false)):=Lib.hid fun y X' A' ι' hy he=>by
    obtain ⟨⟨n,l,ha⟩,hr⟩:=hy
    have:=x_Over ha
    rw [he] at this
    rw [←hov]
    exact this
  have HBO:=Lib.hid (And.intro hb ho)
  clear h hb ho hd hov HD hE
  go_enter_defers Tryz.func115,Tryz.ntmps115
  go_wp2_with fail
  refine HG.out.mono ?_
  rintro e w1 ⟨rfl,rfl⟩
  go_wp2_with fail
  refine HF.out.mono ?_
  rintro e w2 ⟨rfl,h2⟩
  have c3:w2.cell? ⟨F.fb,3,none⟩=some (.bool true):=(h2.cells 3).trans (by show some (Value.bool F.begun)=_;rw [HBO.out.1])
  have c4:w2.cell? ⟨F.fb,4,none⟩=some (.bool false):=(h2.cells 4).trans (by show some (Value.bool F.over)=_;rw [HBO.out.2])
  have c0:w2.cell? ⟨F.fb,0,none⟩=some (.pointer (some ⟨X.cb,0,none⟩)):=(h2.cells 0).trans rfl
  have H2:=Lib.hid h2
  have HM:=Lib.hid (KM.out w2 h2)
  clear h2 KM HF HG
  go_wp2_with fail
  refine HM.out.mono ?_
  clear HM
  rintro e w3 ⟨mb,rfl,hf3⟩
  have HCL:=Lib.hid (HDD.out w3 (H2.out.frm hf3))
  clear hf3 HDD H2 c3 c4 c0
  go_wp2_with fail
  refine upon_callF HEN.out HCL.out ?_
  rintro e w4 ⟨rfl,X',A',ι',h4,he,hk⟩
  refine ⟨_,rfl,?_⟩
  have c0:w4.cell? ⟨F.fb,0,none⟩=some (.pointer (some ⟨X.cb,0,none⟩)):=(h4.cells 0).trans (by rw [he];rfl)
  have HO:=Lib.hid (KO.out w4 X' A' ι' h4 he)
  have H4:=Lib.hid h4
  have HK:=Lib.hid (And.intro he hk)
  clear h4 he hk KO HCL
  go_wp2_with fail
  refine HO.out.mono ?_
  clear HO c0
  rintro e w5 ⟨rfl,rfl⟩
  go_wp2_with fail
  refine leaves_cons (f:=165) (args:= #[.pointer (some ⟨F.fb,0,none⟩)]) (by simp) (by simp [go_sem]) ?_
  refine (f_forgetD H4.out .returning).mono ?_
  rintro e u' w6 ⟨rfl,rfl,h6⟩
  exact ⟨_,results_tmp rfl _ _ _,rfl,X',A',ι',h6,HK.out.1,HK.out.2⟩
set_option maxHeartbeats 1000000 in
set_option maxRecDepth 100000 in
theorem f_Together_in (h:Fs w0 w F X A ι rs) (hb:F.begun=true) (ho:F.over=false) (hd:F.dead=false) (fn:FuncId) (caps:Array Value) (hE:EntersF Tryz.prog fn) {R:World→Prop}
    (HD: ∀y,Fs w0 y F X A ι rs→Calls Tryz.prog fn caps y fun e w'=>e= .returned (.int .i64 0)∧R w'):
    Calls Tryz.prog 80 #[.pointer (some ⟨F.fb,0,none⟩),.func (.func fn) #[] caps] w fun e w'=>e= .returned (.int .i64 0)∧R w':=by
  have HG:=Lib.hid (f_gone h.weak)
  rw [hd] at HG
  have HDD:=Lib.hid HD
  have HEN:=Lib.hid hE
  have c3:w.cell? ⟨F.fb,3,none⟩=some (.bool true):=(h.cells 3).trans (by show some (Value.bool F.begun)=_;rw [hb])
  have c0:w.cell? ⟨F.fb,0,none⟩=some (.pointer (some ⟨X.cb,0,none⟩)):=(h.cells 0).trans rfl
  have HM:Hid (Calls Tryz.prog 163 #[.pointer (some ⟨X.cb,0,none⟩)] w fun e w'=> ∃mb,e= .returned (.map (some mb))∧Frm NoB w w'):=Lib.hid (by
    obtain ⟨⟨n,l,ha,hl⟩,hr⟩:=h
    exact x_Mark ha)
  have HH:=Lib.hid h
  clear h hb ho hd HD hE
  go_enter Tryz.func80,Tryz.ntmps80
  go_wp2_with fail
  refine HG.out.mono ?_
  rintro e w1 ⟨rfl,rfl⟩
  go_wp2_with fail
  refine HM.out.mono ?_
  clear HM
  rintro e w3 ⟨mb,rfl,hf3⟩
  have HCL:=Lib.hid (HDD.out w3 (HH.out.frm hf3))
  clear hf3 HDD HH c3 c0
  go_wp2_with fail
  refine upon_callF HEN.out HCL.out ?_
  rintro e w4 ⟨rfl,hr⟩
  refine ⟨_,rfl,?_⟩
  have HR:=Lib.hid hr
  clear hr HCL
  go_wp2
  go_ret
  exact ⟨rfl,HR.out⟩
set_option maxHeartbeats 1000000 in
set_option maxRecDepth 100000 in
theorem f_Together_out (h:Fs w0 w F X A ι rs) (hb:F.begun=false) (hd:F.dead=false) (hop:X.op=false) (hlim:X.D.lim=none) (hm:X.m<1000000) (fn:FuncId) (caps:Array Value) (hE:EntersF Tryz.prog fn) {K:Sys→(Path→Option Nd)→(Path→Nat)→Prop}
    (HD: ∀y,Fs w0 y { F with begun:=true,over:=false } X.open' A ι rs→Calls Tryz.prog fn caps y fun e w'=>e= .returned (.int .i64 0)∧∃X' A' ι',Fs w0 w' { F with begun:=true,over:=false } X' A' ι' rs∧X'=X.open'.wr X'.l∧K X' A' ι'):
    Calls Tryz.prog 80 #[.pointer (some ⟨F.fb,0,none⟩),.func (.func fn) #[] caps] w fun e w'=>e= .returned (.int .i64 0)∧∃X' A' ι' Y,Fs w0 w' { F with begun:=false,over:=false } Y A' ι' rs∧Comm X' Y∧X'=X.open'.wr X'.l∧K X' A' ι':=by
  have HG:=Lib.hid (f_gone h.weak)
  rw [hd] at HG
  have HDD:=Lib.hid HD
  have HEN:=Lib.hid hE
  have c3:w.cell? ⟨F.fb,3,none⟩=some (.bool false):=(h.cells 3).trans (by show some (Value.bool F.begun)=_;rw [hb])
  have HB:=Lib.hid (f_Begin h hb hd hop)
  have KE:Hid (∀y X' A' ι',Fs w0 y { F with begun:=true,over:=false } X' A' ι' rs→X'=X.open'.wr X'.l→Calls Tryz.prog 168 #[.pointer (some ⟨F.fb,0,none⟩)] y fun e w'=>e= .returned (.int .i64 0)∧∃Y,Fs w0 w' { F with begun:=false,over:=false } Y A' ι' rs∧Comm X' Y):=Lib.hid fun y X' A' ι' hy he=>f_Commit hy rfl rfl (by rw [he];rfl) (by rw [he];exact hlim) (by rw [he];exact hm)
  clear h hb hd hop hlim hm HD hE
  go_enter Tryz.func80,Tryz.ntmps80
  go_wp2_with fail
  refine HG.out.mono ?_
  rintro e w1 ⟨rfl,rfl⟩
  go_wp2_with fail
  refine HB.out.mono ?_
  clear HB
  rintro e w3 ⟨rfl,h3⟩
  have HCL:=Lib.hid (HDD.out w3 h3)
  clear h3 HDD c3
  go_wp2_with fail
  refine upon_callF HEN.out HCL.out ?_
  rintro e w4 ⟨rfl,X',A',ι',h4,he,hk⟩
  refine ⟨_,rfl,?_⟩
  have HE:=Lib.hid (KE.out w4 X' A' ι' h4 he)
  have HK:=Lib.hid (And.intro he hk)
  clear h4 he hk KE HCL
  go_wp2_with fail
  refine HE.out.mono ?_
  clear HE
  rintro e w5 ⟨rfl,Y,h5,hc⟩
  have H5:=Lib.hid h5
  have HCC:=Lib.hid hc
  clear h5 hc
  go_wp2
  go_ret
  exact ⟨rfl,X',A',ι',Y,H5.out,HCC.out,HK.out.1,HK.out.2⟩
end
section
open Go.ChangeMaps Go.MapKept Go.RowKit
theorem entMake:EntersF Tryz.prog 116:=entersF_of Tryz.func116 (by kernel_rfl) rfl
end
section
open Go.ChangeMaps Go.MapKept Go.RowKit
variable {w0:Gnd} {w:World} {rs:List Res} {X:Sys} {F:FH} {A:Path→Option Nd} {ι:Path→Nat}
structure MayMake (X:Sys) (A:Path→Option Nd) (ι:Path→Nat) (C:List Nat) (p:Path) (s:ByteArray) (n:Nat):Prop where
  dir:A p=some (.dir n)
  names: ∀x∈p++ [s],NameOk x
  deep:p.length≤7
  no:A (p++ [s])=none
  size:n+64≤5120
  fi:0<X.fi
  fb:dat (n+64)-dat n≤X.fb
  cov:Cov X C
  im:X.P.im∈C
  bm:X.P.bm∈C
  held:HeldC X C (ι p)
  room:C.length+1+(dat (n+64)-dat n)≤60
set_option maxHeartbeats 1000000 in
set_option maxRecDepth 100000 in
theorem f_make_in (h:Fs w0 w F X A ι rs) (hb:F.begun=true) (ho:F.over=false) (hd:F.dead=false) (hop:X.op=true) (hov:X.ov=false) {p:Path} {n:Nat} {s:ByteArray} {C:List Nat} (hm:MayMake X A ι C p s n) {kind:Nat} {x:Nd} (hx:(x= .dir 0∧kind=2)∨(x= .file []∧kind=1)):
    Calls Tryz.prog 53 #[.pointer (some ⟨F.fb,0,none⟩),.string (pathB (p++ [s])),.int .i64 kind] w fun e w'=>e= .returned (.int .i64 0)∧∃X' A' ι' C',Fs w0 w' F X' A' ι' rs∧Mk X X' A ι A' ι' C C' p s x n:=by
  have h1:=((h.newArr #[.pointer (some ⟨F.fb,0,none⟩)] 24 neFSp).newArr #[.string (pathB (p++ [s]))] 9 neStr).newArr #[.int .i64 kind] 3 neI8
  have HC:=Lib.hid (f_change_in h1 hb ho hd hov 116 #[.pointer (some ⟨_,0,none⟩),.pointer (some ⟨_,0,none⟩),.pointer (some ⟨_,0,none⟩)] entMake (K:=fun X' A' ι'=> ∃C',Mk X X' A ι A' ι' C C' p s x n) (fun y hy=>
    (b_make hy hop hm.dir s hm.names hm.deep hm.no hx hm.size hm.fi hm.fb hm.cov hm.im hm.bm hm.held hm.room (i1:=1) (i2:=2) (i3:=0) rfl rfl rfl).mono fun e w' ⟨he,X',A',ι',C',q1,q2⟩=>⟨he,X',A',ι',q1.weak,q2.goes.wr,C',q2⟩))
  have c0:=(h1.arrCell (i:=2) rfl 0).trans (show (#[Value.pointer (some ⟨F.fb,0,none⟩)]:Array Value)[0]?=some (.pointer (some ⟨F.fb,0,none⟩)) from rfl)
  simp only [size_alloc] at HC c0
  clear h hb ho hd hop hov hm hx h1
  generalize pathB (p++ [s])=path at*
  go_enter Tryz.func53,Tryz.ntmps53
  go_wp2_with fail
  refine HC.out.mono ?_
  rintro e w2 ⟨rfl,X',A',ι',h2,q1,C',q2⟩
  have H2:=Lib.hid (h2.drop 3)
  have HQ:=Lib.hid q2
  clear h2 q1 q2
  go_wp2
  go_ret
  exact ⟨rfl,X',A',ι',C',H2.out,HQ.out⟩
theorem f_Mkdir_in (h:Fs w0 w F X A ι rs) (hb:F.begun=true) (ho:F.over=false) (hd:F.dead=false) (hop:X.op=true) (hov:X.ov=false) {p:Path} {n:Nat} {s:ByteArray} {C:List Nat} (hm:MayMake X A ι C p s n):
    Calls Tryz.prog 20 #[.pointer (some ⟨F.fb,0,none⟩),.string (pathB (p++ [s]))] w fun e w'=>e= .returned (.int .i64 0)∧∃X' A' ι' C',Fs w0 w' F X' A' ι' rs∧Mk X X' A ι A' ι' C C' p s (.dir 0) n:=by
  have HC:=Lib.hid (f_make_in h hb ho hd hop hov hm (kind:=2) (x:= .dir 0) (.inl ⟨rfl,rfl⟩))
  clear h hb ho hd hop hov hm
  generalize pathB (p++ [s])=path at*
  go_enter Tryz.func20,Tryz.ntmps20
  go_wp2_with fail
  refine HC.out.mono ?_
  rintro e w2 ⟨rfl,h2⟩
  have H2:=Lib.hid h2
  clear h2
  go_wp2
  go_ret
  exact ⟨rfl,H2.out⟩
theorem f_Create_in (h:Fs w0 w F X A ι rs) (hb:F.begun=true) (ho:F.over=false) (hd:F.dead=false) (hop:X.op=true) (hov:X.ov=false) {p:Path} {n:Nat} {s:ByteArray} {C:List Nat} (hm:MayMake X A ι C p s n):
    Calls Tryz.prog 98 #[.pointer (some ⟨F.fb,0,none⟩),.string (pathB (p++ [s]))] w fun e w'=>e= .returned (.int .i64 0)∧∃X' A' ι' C',Fs w0 w' F X' A' ι' rs∧Mk X X' A ι A' ι' C C' p s (.file []) n:=by
  have HC:=Lib.hid (f_make_in h hb ho hd hop hov hm (kind:=1) (x:= .file []) (.inr ⟨rfl,rfl⟩))
  clear h hb ho hd hop hov hm
  generalize pathB (p++ [s])=path at*
  go_enter Tryz.func98,Tryz.ntmps98
  go_wp2_with fail
  refine HC.out.mono ?_
  rintro e w2 ⟨rfl,h2⟩
  have H2:=Lib.hid h2
  clear h2
  go_wp2
  go_ret
  exact ⟨rfl,H2.out⟩
end
section
open Go.ChangeMaps Go.MapKept Go.RowKit
def overB (b:Blk) (a:Nat) (x:Blk):Blk:=b.take a++x++b.drop (a+x.length)
theorem overB_len (b:Blk) (a:Nat) (x:Blk) (h:a≤b.length):(overB b a x).length=max b.length (a+x.length):=by
  unfold overB
  rw [List.length_append,List.length_append,List.length_take,List.length_drop]
  omega
theorem Over.eq {b c:Blk} {a:Nat} {x:Blk} (h:Over b c a x) (ha:a≤b.length):c=overB b a x:=by
  apply List.ext_getElem?
  intro p
  by_cases hp:p<c.length
  · rw [h.byte p hp]
    unfold overB
    by_cases h1:p<a
    · rw [if_neg (by omega),List.append_assoc,List.getElem?_append_left (by rw [List.length_take];omega),List.getElem?_take,if_pos h1]
    · by_cases h2:p<a+x.length
      · rw [if_pos ⟨by omega,h2⟩,List.getElem?_append_left (by rw [List.length_append,List.length_take];omega),List.getElem?_append_right (by rw [List.length_take];omega),List.length_take,Nat.min_eq_left (by omega)]
      · rw [if_neg (by omega),List.getElem?_append_right (by rw [List.length_append,List.length_take];omega),List.length_append,List.length_take,Nat.min_eq_left (by omega),List.getElem?_drop]
        congr 1
        omega
  · rw [List.getElem?_eq_none (by omega),List.getElem?_eq_none (by rw [overB_len b a x ha];have:=h.len;omega)]
structure Ed (X X':Sys) (A A':Path→Option Nd) (C C':List Nat) (ns:Path) (b c:Blk):Prop where
  tree:A'=setT A ns (some (.file c))
  goes:Goes X X' C C'
  fi:X'.fi=X.fi
  fb:X'.fb+dat c.length=X.fb+dat b.length
  len:C'.length≤C.length+(dat c.length-dat b.length)
end
section
open Go.ChangeMaps Go.MapKept Go.RowKit
variable {X:Sys} {A:Path→Option Nd} {ι:Path→Nat}
theorem LdOk.set {l:Lds} (h:LdOk A ι l) {ns:Path} {x y:Nd} (hp:A ns=some x):LdOk (setT A ns (some y)) ι l:=fun d s i hi=>by
  obtain ⟨q,q1,q2,q3⟩:=h d s i hi
  refine ⟨q,?_,q2,q3⟩
  unfold setT
  split
  · exact fun x=>by cases x
  · exact q1
theorem Ed.write {W:Sys} (hr:Rep X A ι) {ns:Path} {b x:Blk} (hp:A ns=some (.file b)) {a:Nat} (ha:a≤b.length) (hw:Wrote X W (ι ns) a x) {C N:List Nat} (hN:N.length=dat (max b.length (a+x.length))-dat b.length) (hcv:Cov W (C++N)) (hh:HeldC X C (ι ns)) (hblk: ∀k,k<dat (max b.length (a+x.length))→W.nd (ι ns) (2+k)∈C++N):
    Rep W (setT A ns (some (.file (overB b a x)))) ι∧Ed X W A (setT A ns (some (.file (overB b a x)))) C (C++N) ns b (overB b a x):=by
  obtain ⟨hl1,hl2,hl3⟩:=hr.live ns _ hp
  have hl3:X.nd (ι ns) 1=b.length:=hl3
  have hb:=hr.file ns b hp
  have hov:=hw.over (by rw [hl3];exact ha)
  rw [hb] at hov
  have hc:=hov.eq ha
  have hlen:=overB_len b a x ha
  have hS:W.nd (ι ns) 1=max b.length (a+x.length):=by rw [hw.size,hl3]
  have hPW:=hw.wr.P
  refine ⟨hr.edit hp hw.ok hw.live hw.oth hw.kind (by rw [hS,hlen]) hc,rfl,⟨hw.wr.eq,hcv,fun c hc=>List.mem_append_left _ hc,fun j hj hhj=>?_,fun j hj=>(hw.live j).2 hj⟩,fi_live hPW hw.live,?_,?_⟩
  · by_cases e:j=ι ns
    · subst e
      exact ⟨by rw [hPW];exact List.mem_append_left _ hh.1,fun k hk=>hblk k (by rw [hS] at hk;exact hk)⟩
    · exact (hhj.same hPW (hr.ok.size j hj) (hw.oth j hj e).2).mono fun c hc=>List.mem_append_left _ hc
  · have hf:=hw.free
    rw [hS,hl3] at hf
    rw [hlen]
    have:=dat_mono (Nat.le_max_left b.length (a+x.length))
    omega
  · rw [List.length_append,hN,hlen]
    omega
theorem Ed.cut {W:Sys} (hr:Rep X A ι) (hX:SysOk X) {ns:Path} {b:Blk} (hp:A ns=some (.file b)) {S:Nat} (hS:S≤b.length) (hw:Shrunk X W (ι ns) S) {C:List Nat} (hC:Cov X C) (hbm:X.P.bm∈C) (hh:HeldC X C (ι ns)):
    Rep W (setT A ns (some (.file (b.take S)))) ι∧Ed X W A (setT A ns (some (.file (b.take S)))) C C ns b (b.take S):=by
  obtain ⟨hl1,hl2,hl3⟩:=hr.live ns _ hp
  have hl3:X.nd (ι ns) 1=b.length:=hl3
  have hb:=hr.file ns b hp
  have hPW:=hw.wr.P
  have hlen:(b.take S).length=S:=by rw [List.length_take];omega
  have hc:W.bytes (ι ns)=b.take S:=by
    apply List.ext_getElem?
    intro p
    by_cases h:p<S
    · rw [bytes_get W _ p (by rw [hw.size];exact h),List.getElem?_take,if_pos h,←hb,bytes_get X _ p (by rw [hl3];omega),hw.byte p h]
    · rw [List.getElem?_eq_none (by rw [bytes_len,hw.size];omega),List.getElem?_eq_none (by rw [hlen];omega)]
  refine ⟨hr.edit hp hw.ok hw.live hw.oth hw.kind (by rw [hw.size,hlen]) hc,rfl,⟨hw.wr.eq,hC.wr hw.wr (by rintro t (e | e)<;>rw [e];exact hbm;exact hh.1),fun c hc=>hc,fun j hj hhj=>?_,fun j hj=>(hw.live j).2 hj⟩,fi_live hPW hw.live,?_,?_⟩
  · by_cases e:j=ι ns
    · subst e
      refine ⟨by rw [hPW];exact hh.1,fun k hk=>?_⟩
      rw [hw.size] at hk
      rw [hw.blk k hk]
      exact hh.2 k (by rw [hl3];have:=dat_mono hS;omega)
    · exact hhj.same hPW (hr.ok.size j hj) (hw.oth j hj e).2
  · have hf:=hw.free
    rw [hl3] at hf
    rw [hlen]
    have:=dat_mono hS
    omega
  · omega
end
section
open Go.ChangeMaps Go.MapKept Go.RowKit
theorem neSlb: ¬U8T (76:TypeId):=by decide
theorem neFnE: ¬U8T (278:TypeId):=by decide
theorem entEdit:EntersF Tryz.prog 252:=entersF_of Tryz.func252 (by kernel_rfl) rfl
theorem entWrite1:EntersF Tryz.prog 259:=entersF_of Tryz.func259 (by kernel_rfl) rfl
theorem entAppend1:EntersF Tryz.prog 189:=entersF_of Tryz.func189 (by kernel_rfl) rfl
theorem entTrunc1:EntersF Tryz.prog 235:=entersF_of Tryz.func235 (by kernel_rfl) rfl
end
section
open Go.ChangeMaps Go.MapKept Go.RowKit
variable {w0:Gnd} {w:World} {rs:List Res} {X:Sys} {F:FH} {A:Path→Option Nd} {ι:Path→Nat}
structure MayEdit (X:Sys) (A:Path→Option Nd) (ι:Path→Nat) (C:List Nat) (ns:Path) (b:Blk) (a:Nat) (x:Blk):Prop where
  file:A ns=some (.file b)
  at':a≤b.length
  size:max b.length (a+x.length)≤5120
  fb:dat (max b.length (a+x.length))-dat b.length≤X.fb
  cov:Cov X C
  bm:X.P.bm∈C
  held:HeldC X C (ι ns)
  room:C.length+(dat (max b.length (a+x.length))-dat b.length)≤60
theorem k_Write (h:Fs w0 w F X A ι rs) (hop:X.op=true) {ns:Path} {b x:Blk} {a:Nat} {C:List Nat} (hm:MayEdit X A ι C ns b a x) {ai bb bo vc:Nat} (hv:rs[ai]?=some (byt (.slice (some ⟨bb,bo,none⟩) x.length vc) x)):
    Calls Tryz.prog 190 #[.pointer (some ⟨X.sb,0,none⟩),.int .i64 (ι ns),.int .i64 a,.slice (some ⟨bb,bo,none⟩) x.length vc] w fun e w'=>e= .returned (.int .i64 0)∧∃W A' C',Fs w0 w' F W A' ι rs∧Ed X W A A' C C' ns b (overB b a x):=by
  obtain ⟨⟨n,l,ha,hl⟩,hr⟩:=h
  obtain ⟨hl1,hl2,hl3⟩:=hr.live ns _ hm.file
  have hl3:X.nd (ι ns) 1=b.length:=hl3
  have:=i_Write ha hop hr.ok (ι ns) hl1 a (by rw [hl3];exact hm.at') (ai+2) (b:=x) (bb:=bb) (bo:=bo) (vc:=vc) hv (max b.length (a+x.length)) (by rw [hl3]) hm.size (by rw [hl3];exact hm.fb) hm.cov hm.bm hm.held.1 hm.held.2 (by rw [hl3];exact hm.room)
  refine this.mono ?_
  rintro e w' ⟨he,W,N,h1,h2,h3,h4,h5⟩
  rw [hl3] at h3
  obtain ⟨r1,r2⟩:=Ed.write hr hm.file hm.at' h2 h3 h4 hm.held h5
  have e1:fsS F W=fsS F X:=by rw [r2.goes.wr];rfl
  exact ⟨he,W,_,_,⟨⟨n,l,by rw [e1];exact h1,hl.set hm.file⟩,r1⟩,r2⟩
theorem k_Truncate (h:Fs w0 w F X A ι rs) (hop:X.op=true) {ns:Path} {b:Blk} (hp:A ns=some (.file b)) {S:Nat} (hS:S≤b.length) {C:List Nat} (hC:Cov X C) (hbm:X.P.bm∈C) (hh:HeldC X C (ι ns)) (h60:C.length≤60):
    Calls Tryz.prog 236 #[.pointer (some ⟨X.sb,0,none⟩),.int .i64 (ι ns),.int .i64 S] w fun e w'=>e= .returned (.int .i64 0)∧∃W A' C',Fs w0 w' F W A' ι rs∧Ed X W A A' C C' ns b (b.take S):=by
  obtain ⟨⟨n,l,ha,hl⟩,hr⟩:=h
  obtain ⟨hl1,hl2,hl3⟩:=hr.live ns _ hp
  have hl3:X.nd (ι ns) 1=b.length:=hl3
  refine (i_Truncate ha hop hr.ok (ι ns) hl1 S (by rw [hl3];exact hS) hC hbm hh.1 h60).mono ?_
  rintro e w' ⟨he,W,h1,h2⟩
  obtain ⟨r1,r2⟩:=Ed.cut hr ha.ok hp hS h2 hC hbm hh
  have e1:fsS F W=fsS F X:=by rw [r2.goes.wr];rfl
  exact ⟨he,W,_,_,⟨⟨n,l,by rw [e1];exact h1,hl.set hp⟩,r1⟩,r2⟩
set_option maxHeartbeats 1000000 in
set_option maxRecDepth 100000 in
theorem b_edit (h:Fs w0 w F X A ι rs) {ns:Path} (h0:ns≠ []) (hns: ∀x∈ns,NameOk x) (h8:ns.length≤8) {b:Blk} (hp:A ns=some (.file b)) (fn:FuncId) (caps:Array Value) (hE:EntersF Tryz.prog fn) {R:World→Prop}
    {i1 i2 i3 bf bp bd:Nat} (b1:rs[i1]?=some (arr bf #[.pointer (some ⟨F.fb,0,none⟩)] 24 neFSp)) (b2:rs[i2]?=some (arr bp #[.string (pathB ns)] 9 neStr)) (b3:rs[i3]?=some (arr bd #[.func (.func fn) #[] caps] 278 neFnE))
    (HD: ∀y g,Fs w0 y F X A ι (arr g #[.int .i64 1,.int .i64 b.length] 82 neStt::rs)→Calls Tryz.prog fn (#[.int .i64 (ι ns),.agg #[.int .i64 1,.int .i64 b.length]]++caps) y fun e w'=>e= .returned (.int .i64 0)∧R w'):
    Calls Tryz.prog 252 #[.pointer (some ⟨bf,0,none⟩),.pointer (some ⟨bp,0,none⟩),.pointer (some ⟨bd,0,none⟩)] w fun e w'=>e= .returned (.int .i64 0)∧R w':=by
  have hpre:=h.2.pre (p:=ns) (by rw [hp];exact fun x=>by cases x)
  have HL:=Lib.hid (f_fileAt h ns h0 hns h8 (fun k hk _=>hpre (ns.length-k) k (by omega) (by omega)) (fun m e=>by rw [hp] at e;cases e))
  have hlr:leadR A ι ns= .tuple #[.int .i64 (ι ns),.agg #[.int .i64 1,.int .i64 b.length],.int .i64 0]:=by unfold leadR;rw [hp];rfl
  rw [hlr] at HL
  have c1:w.cell? ⟨bf,0,none⟩=some (.pointer (some ⟨F.fb,0,none⟩)):=(h.arrCell b1 0).trans rfl
  have c2:w.cell? ⟨bp,0,none⟩=some (.string (pathB ns)):=(h.arrCell b2 0).trans rfl
  have KC:Hid (∀y r,Fs w0 y F X A ι (r::rs)→y.cell? ⟨bd,0,none⟩=some (.func (.func fn) #[] caps)):=Lib.hid fun y r hy=>(hy.arrCell (i:=i3+1) b3 0).trans rfl
  have HDD:=Lib.hid HD
  have HEN:=Lib.hid hE
  clear h h0 hns h8 hp hE b1 b2 b3 HD hpre hlr
  generalize pathB ns=path at*
  generalize ι ns=d at*
  obtain ⟨n,hn⟩: ∃n,b.length=n:=⟨_,rfl⟩
  rw [hn] at HL HDD
  clear hn
  go_enter Tryz.func252,Tryz.ntmps252
  go_wp2_with fail
  refine HL.out.mono ?_
  clear HL c1 c2
  rintro e w1 ⟨rfl,h1⟩
  have H1:=Lib.hid (h1.newArr #[.int .i64 1,.int .i64 n] 82 neStt)
  clear h1
  go_upto_region 2 with (refine allocRow rfl _ _ zeroStt rfl ?_)
  obtain ⟨y1,hy1,h1⟩:=H1.out.name
  rw [hy1]
  generalize w1.heap.size=g at*
  have cd:=KC.out _ _ h1
  have HB:=Lib.hid (h1.block (i:=0) rfl)
  have HCL:=Lib.hid (HDD.out y1 g h1)
  clear hy1 H1 h1 HDD KC
  go_wp2_with (refine loadStt rfl _ rfl g rfl 1 n HB.out ?_)
  refine upon_callF HEN.out HCL.out ?_
  rintro e w4 ⟨rfl,hr⟩
  refine ⟨_,rfl,?_⟩
  have HR:=Lib.hid hr
  clear hr HCL
  go_wp2
  go_ret
  exact ⟨rfl,HR.out⟩
set_option maxHeartbeats 1000000 in
set_option maxRecDepth 100000 in
theorem b_Write {R:World→Prop} {d a:Nat} {st:Value} {v:Value} (h:Fs w0 w F X A ι rs) {i1 i2 i3 bf ba bb:Nat} (b1:rs[i1]?=some (arr bf #[.pointer (some ⟨F.fb,0,none⟩)] 24 neFSp)) (b2:rs[i2]?=some (arr ba #[.int .i64 a] 3 neI8)) (b3:rs[i3]?=some (arr bb #[v] 76 neSlb)) {k s:Nat} (hst:st= .agg #[.int .i64 k,.int .i64 s])
    (KW: ∀y rs',Fs w0 y F X A ι (rs'++rs)→Calls Tryz.prog 190 #[.pointer (some ⟨X.sb,0,none⟩),.int .i64 d,.int .i64 a,v] y fun e w'=>e= .returned (.int .i64 0)∧∃W A',Fs w0 w' F W A' ι (rs'++rs)∧W=X.wr W.l∧(Fs w0 w' F W A' ι (rs'++rs)→R w')):
    Calls Tryz.prog 259 #[.int .i64 d,st,.pointer (some ⟨bf,0,none⟩),.pointer (some ⟨ba,0,none⟩),.pointer (some ⟨bb,0,none⟩)] w fun e w'=>e= .returned (.int .i64 0)∧R w':=by
  subst hst
  have h1:=h.newArr #[.int .i64 k,.int .i64 s] 82 neStt
  have KC:Hid (∀y W A' rs',Fs w0 y F W A' ι (rs'++rs)→W=X.wr W.l→y.cell? ⟨bf,0,none⟩=some (.pointer (some ⟨F.fb,0,none⟩))∧y.cell? ⟨ba,0,none⟩=some (.int .i64 a)∧y.cell? ⟨bb,0,none⟩=some v∧y.cell? ⟨F.fb,2,none⟩=some (.pointer (some ⟨X.sb,0,none⟩))):=Lib.hid fun y W A' rs' hy hW=>by
    have hsub:=hy.sub (List.sublist_append_right rs' rs)
    exact ⟨(hsub.arrCell b1 0).trans rfl,(hsub.arrCell b2 0).trans rfl,(hsub.arrCell b3 0).trans rfl,(hy.cells 2).trans (by rw [hW];rfl)⟩
  have H1:=Lib.hid h1
  have HKW:=Lib.hid KW
  clear h b1 b2 b3 KW h1
  go_enter Tryz.func259,Tryz.ntmps259
  go_upto_region 1 with (refine allocRow rfl _ _ zeroStt rfl ?_)
  obtain ⟨y1,hy1,h2⟩:=H1.out.name
  rw [hy1]
  have h2d:=h2.frm (Frm.refl NoB y1).drew
  have HW:=Lib.hid (HKW.out y1.drew [_] h2d)
  have H2:=Lib.hid h2
  have H2d:=Lib.hid h2d
  clear hy1 H1 h2 h2d HKW
  go_region_held3 (fun y=>y.cell? ⟨bf,0,none⟩=some (.pointer (some ⟨F.fb,0,none⟩))∧y.cell? ⟨ba,0,none⟩=some (.int .i64 a)∧y.cell? ⟨bb,0,none⟩=some v∧y.cell? ⟨F.fb,2,none⟩=some (.pointer (some ⟨X.sb,0,none⟩)))
    (first | exact KC.out _ _ _ [_] H2.out rfl | exact KC.out _ _ _ [_] H2d.out rfl | exact KC.out _ _ _ [_] h4 hW4)
    (first
      | (go_at_call 190;(with_reducible refine HW.out.mono ?_);rintro e w4 ⟨rfl,W4,A4,h4,hW4,hR4⟩))
  have HR:=Lib.hid (hR4 h4)
  clear h4 hW4 hR4 HW H2 H2d KC
  go_wp2
  go_ret
  exact ⟨rfl,HR.out⟩
set_option maxHeartbeats 1000000 in
set_option maxRecDepth 100000 in
theorem b_Append {R:World→Prop} {d:Nat} {v:Value} (h:Fs w0 w F X A ι rs) {i1 i3 bf bb:Nat} (b1:rs[i1]?=some (arr bf #[.pointer (some ⟨F.fb,0,none⟩)] 24 neFSp)) (b3:rs[i3]?=some (arr bb #[v] 76 neSlb)) {k s:Nat}
    (KW: ∀y rs',Fs w0 y F X A ι (rs'++rs)→Calls Tryz.prog 190 #[.pointer (some ⟨X.sb,0,none⟩),.int .i64 d,.int .i64 s,v] y fun e w'=>e= .returned (.int .i64 0)∧∃W A',Fs w0 w' F W A' ι (rs'++rs)∧W=X.wr W.l∧(Fs w0 w' F W A' ι (rs'++rs)→R w')):
    Calls Tryz.prog 189 #[.int .i64 d,.agg #[.int .i64 k,.int .i64 s],.pointer (some ⟨bf,0,none⟩),.pointer (some ⟨bb,0,none⟩)] w fun e w'=>e= .returned (.int .i64 0)∧R w':=by
  have h1:=h.newArr #[.int .i64 k,.int .i64 s] 82 neStt
  have KC:Hid (∀y W A' g,Fs w0 y F W A' ι (arr g #[.int .i64 k,.int .i64 s] 82 neStt::rs)→W=X.wr W.l→y.cell? ⟨bf,0,none⟩=some (.pointer (some ⟨F.fb,0,none⟩))∧y.cell? ⟨g,1,none⟩=some (.int .i64 s)∧y.cell? ⟨bb,0,none⟩=some v∧y.cell? ⟨F.fb,2,none⟩=some (.pointer (some ⟨X.sb,0,none⟩))):=Lib.hid fun y W A' g hy hW=>by
    have hsub:=hy.drop 1
    exact ⟨(hsub.arrCell b1 0).trans rfl,(hy.arrCell (i:=0) rfl 1).trans rfl,(hsub.arrCell b3 0).trans rfl,(hy.cells 2).trans (by rw [hW];rfl)⟩
  have H1:=Lib.hid h1
  have HKW:=Lib.hid KW
  clear h b1 b3 KW h1
  go_enter Tryz.func189,Tryz.ntmps189
  go_upto_region 1 with (refine allocRow rfl _ _ zeroStt rfl ?_)
  obtain ⟨y1,hy1,h2⟩:=H1.out.name
  rw [hy1]
  generalize w.heap.size=g at*
  have h2d:=h2.frm (Frm.refl NoB y1).drew
  have HW:=Lib.hid (HKW.out y1.drew [_] h2d)
  have H2:=Lib.hid h2
  have H2d:=Lib.hid h2d
  clear hy1 H1 h2 h2d HKW
  go_region_held3 (fun y=>y.cell? ⟨bf,0,none⟩=some (.pointer (some ⟨F.fb,0,none⟩))∧y.cell? ⟨g,1,none⟩=some (.int .i64 s)∧y.cell? ⟨bb,0,none⟩=some v∧y.cell? ⟨F.fb,2,none⟩=some (.pointer (some ⟨X.sb,0,none⟩)))
    (first | exact KC.out _ _ _ _ H2.out rfl | exact KC.out _ _ _ _ H2d.out rfl | exact KC.out _ _ _ _ h4 hW4)
    (first
      | (go_at_call 190;(with_reducible refine HW.out.mono ?_);rintro e w4 ⟨rfl,W4,A4,h4,hW4,hR4⟩))
  have HR:=Lib.hid (hR4 h4)
  clear h4 hW4 hR4 HW H2 H2d KC
  go_wp2
  go_ret
  exact ⟨rfl,HR.out⟩
set_option maxHeartbeats 1000000 in
set_option maxRecDepth 100000 in
theorem b_Truncate {R:World→Prop} {d S:Nat} (h:Fs w0 w F X A ι rs) {i1 i2 bf ba:Nat} (b1:rs[i1]?=some (arr bf #[.pointer (some ⟨F.fb,0,none⟩)] 24 neFSp)) (b2:rs[i2]?=some (arr ba #[.int .i64 S] 3 neI8)) {k s:Nat}
    (KW: ∀y rs',Fs w0 y F X A ι (rs'++rs)→Calls Tryz.prog 236 #[.pointer (some ⟨X.sb,0,none⟩),.int .i64 d,.int .i64 S] y fun e w'=>e= .returned (.int .i64 0)∧∃W A',Fs w0 w' F W A' ι (rs'++rs)∧W=X.wr W.l∧(Fs w0 w' F W A' ι (rs'++rs)→R w')):
    Calls Tryz.prog 235 #[.int .i64 d,.agg #[.int .i64 k,.int .i64 s],.pointer (some ⟨bf,0,none⟩),.pointer (some ⟨ba,0,none⟩)] w fun e w'=>e= .returned (.int .i64 0)∧R w':=by
  have h1:=h.newArr #[.int .i64 k,.int .i64 s] 82 neStt
  have KC:Hid (∀y W A' g,Fs w0 y F W A' ι (arr g #[.int .i64 k,.int .i64 s] 82 neStt::rs)→W=X.wr W.l→y.cell? ⟨bf,0,none⟩=some (.pointer (some ⟨F.fb,0,none⟩))∧y.cell? ⟨ba,0,none⟩=some (.int .i64 S)∧y.cell? ⟨F.fb,2,none⟩=some (.pointer (some ⟨X.sb,0,none⟩))):=Lib.hid fun y W A' g hy hW=>by
    have hsub:=hy.drop 1
    exact ⟨(hsub.arrCell b1 0).trans rfl,(hsub.arrCell b2 0).trans rfl,(hy.cells 2).trans (by rw [hW];rfl)⟩
  have H1:=Lib.hid h1
  have HKW:=Lib.hid KW
  clear h b1 b2 KW h1
  go_enter Tryz.func235,Tryz.ntmps235
  go_upto_region 1 with (refine allocRow rfl _ _ zeroStt rfl ?_)
  obtain ⟨y1,hy1,h2⟩:=H1.out.name
  rw [hy1]
  generalize w.heap.size=g at*
  have h2d:=h2.frm (Frm.refl NoB y1).drew
  have HW:=Lib.hid (HKW.out y1.drew [_] h2d)
  have H2:=Lib.hid h2
  have H2d:=Lib.hid h2d
  clear hy1 H1 h2 h2d HKW
  go_region_held3 (fun y=>y.cell? ⟨bf,0,none⟩=some (.pointer (some ⟨F.fb,0,none⟩))∧y.cell? ⟨ba,0,none⟩=some (.int .i64 S)∧y.cell? ⟨F.fb,2,none⟩=some (.pointer (some ⟨X.sb,0,none⟩)))
    (first | exact KC.out _ _ _ _ H2.out rfl | exact KC.out _ _ _ _ H2d.out rfl | exact KC.out _ _ _ _ h4 hW4)
    (first
      | (go_at_call 236;(with_reducible refine HW.out.mono ?_);rintro e w4 ⟨rfl,W4,A4,h4,hW4,hR4⟩))
  have HR:=Lib.hid (hR4 h4)
  clear h4 hW4 hR4 HW H2 H2d KC
  go_wp2
  go_ret
  exact ⟨rfl,HR.out⟩
set_option maxHeartbeats 1000000 in
set_option maxRecDepth 100000 in
theorem f_edit_in (h:Fs w0 w F X A ι rs) (hb:F.begun=true) (ho:F.over=false) (hd:F.dead=false) (hov:X.ov=false) {ns:Path} (h0:ns≠ []) (hns: ∀x∈ns,NameOk x) (h8:ns.length≤8) {b:Blk} (hp:A ns=some (.file b)) (fn:FuncId) (caps:Array Value) (hE:EntersF Tryz.prog fn) {K:Sys→(Path→Option Nd)→Prop}
    (HD: ∀y rs',Fs w0 y F X A ι (rs'++rs)→Calls Tryz.prog fn (#[.int .i64 (ι ns),.agg #[.int .i64 1,.int .i64 b.length]]++caps) y fun e w'=>e= .returned (.int .i64 0)∧∃W A',Fs w0 w' F W A' ι (rs'++rs)∧W=X.wr W.l∧K W A'):
    Calls Tryz.prog 188 #[.pointer (some ⟨F.fb,0,none⟩),.string (pathB ns),.func (.func fn) #[] caps] w fun e w'=>e= .returned (.int .i64 0)∧∃W A',Fs w0 w' F W A' ι rs∧W=X.wr W.l∧K W A':=by
  have h1:=((h.newArr #[.pointer (some ⟨F.fb,0,none⟩)] 24 neFSp).newArr #[.string (pathB ns)] 9 neStr).newArr #[.func (.func fn) #[] caps] 278 neFnE
  have HC:=Lib.hid (f_change_in h1 hb ho hd hov 252 #[.pointer (some ⟨_,0,none⟩),.pointer (some ⟨_,0,none⟩),.pointer (some ⟨_,0,none⟩)] entEdit (K:=fun W A' ι'=>ι'=ι∧K W A') (fun y hy=>
    b_edit hy h0 hns h8 hp fn caps hE (i1:=2) (i2:=1) (i3:=0) rfl rfl rfl (fun z g hz=>
      (HD z [_,_,_,_] hz).mono fun e w' ⟨he,W,A',q1,q2,q3⟩=>⟨he,W,A',ι,(q1.drop 1).weak,q2,rfl,q3⟩)))
  have c0:=(h1.arrCell (i:=2) rfl 0).trans (show (#[Value.pointer (some ⟨F.fb,0,none⟩)]:Array Value)[0]?=some (.pointer (some ⟨F.fb,0,none⟩)) from rfl)
  simp only [size_alloc] at HC c0
  clear h hb ho hd hov h0 hns h8 hp hE HD h1
  generalize pathB ns=path at*
  go_enter Tryz.func188,Tryz.ntmps188
  go_wp2_with fail
  refine HC.out.mono ?_
  rintro e w2 ⟨rfl,W,A',ι',h2,q1,rfl,q2⟩
  have H2:=Lib.hid (h2.drop 3)
  have HQ:=Lib.hid (And.intro q1 q2)
  clear h2 q1 q2
  go_wp2
  go_ret
  exact ⟨rfl,W,A',H2.out,HQ.out.1,HQ.out.2⟩
set_option maxHeartbeats 1000000 in
set_option maxRecDepth 100000 in
theorem f_Write_in (h:Fs w0 w F X A ι rs) (hb:F.begun=true) (ho:F.over=false) (hd:F.dead=false) (hop:X.op=true) (hov:X.ov=false) {ns:Path} (h0:ns≠ []) (hns: ∀x∈ns,NameOk x) (h8:ns.length≤8) {b x:Blk} {a:Nat} {C:List Nat} (hm:MayEdit X A ι C ns b a x) {ai bb bo vc:Nat} (hv:rs[ai]?=some (byt (.slice (some ⟨bb,bo,none⟩) x.length vc) x)):
    Calls Tryz.prog 194 #[.pointer (some ⟨F.fb,0,none⟩),.string (pathB ns),.int .i64 a,.slice (some ⟨bb,bo,none⟩) x.length vc] w fun e w'=>e= .returned (.int .i64 0)∧∃W A' C',Fs w0 w' F W A' ι rs∧Ed X W A A' C C' ns b (overB b a x):=by
  have h1:=((h.newArr #[.pointer (some ⟨F.fb,0,none⟩)] 24 neFSp).newArr #[.int .i64 a] 3 neI8).newArr #[.slice (some ⟨bb,bo,none⟩) x.length vc] 76 neSlb
  have HC:=Lib.hid (f_edit_in h1 hb ho hd hov h0 hns h8 hm.file 259 #[.pointer (some ⟨_,0,none⟩),.pointer (some ⟨_,0,none⟩),.pointer (some ⟨_,0,none⟩)] entWrite1 (K:=fun W A'=> ∃C',Ed X W A A' C C' ns b (overB b a x)) (fun y rs' hy=>
    b_Write hy (i1:=rs'.length+2) (i2:=rs'.length+1) (i3:=rs'.length+0) (by rw [List.getElem?_append_right (by omega),Nat.add_sub_cancel_left];rfl) (by rw [List.getElem?_append_right (by omega),Nat.add_sub_cancel_left];rfl) (by rw [List.getElem?_append_right (by omega),Nat.add_sub_cancel_left];rfl) rfl (fun z rs2 hz=>
      (k_Write hz hop hm (ai:=rs2.length+(rs'.length+(3+ai))) (by
        rw [List.getElem?_append_right (by omega),Nat.add_sub_cancel_left,List.getElem?_append_right (by omega),Nat.add_sub_cancel_left,Nat.add_comm 3 ai]
        exact hv)).mono fun e w' ⟨he,W,A',C',q1,q2⟩=>⟨he,W,A',q1,q2.goes.wr,fun hh=>⟨W,A',hh.sub (List.sublist_append_right rs2 _),q2.goes.wr,C',q2⟩⟩)))
  have c0:=(h1.arrCell (i:=2) rfl 0).trans (show (#[Value.pointer (some ⟨F.fb,0,none⟩)]:Array Value)[0]?=some (.pointer (some ⟨F.fb,0,none⟩)) from rfl)
  simp only [size_alloc] at HC c0
  clear h hb ho hd hop hov h0 hns h8 hm hv h1
  generalize pathB ns=path at*
  obtain ⟨n,hn⟩: ∃n,x.length=n:=⟨_,rfl⟩
  rw [hn] at HC ⊢
  clear hn
  go_enter Tryz.func194,Tryz.ntmps194
  go_wp2_with fail
  refine HC.out.mono ?_
  rintro e w2 ⟨rfl,W,A',h2,q1,C',q2⟩
  have H2:=Lib.hid (h2.drop 3)
  have HQ:=Lib.hid q2
  clear h2 q1 q2
  go_wp2
  go_ret
  exact ⟨rfl,W,A',C',H2.out,HQ.out⟩
theorem overB_end (b x:Blk):overB b b.length x=b++x:=by
  unfold overB
  rw [List.take_length,List.drop_of_length_le (by omega),List.append_nil]
set_option maxHeartbeats 1000000 in
set_option maxRecDepth 100000 in
theorem f_Append_in (h:Fs w0 w F X A ι rs) (hb:F.begun=true) (ho:F.over=false) (hd:F.dead=false) (hop:X.op=true) (hov:X.ov=false) {ns:Path} (h0:ns≠ []) (hns: ∀x∈ns,NameOk x) (h8:ns.length≤8) {b x:Blk} {C:List Nat} (hm:MayEdit X A ι C ns b b.length x) {ai bb bo vc:Nat} (hv:rs[ai]?=some (byt (.slice (some ⟨bb,bo,none⟩) x.length vc) x)):
    Calls Tryz.prog 99 #[.pointer (some ⟨F.fb,0,none⟩),.string (pathB ns),.slice (some ⟨bb,bo,none⟩) x.length vc] w fun e w'=>e= .returned (.int .i64 0)∧∃W A' C',Fs w0 w' F W A' ι rs∧Ed X W A A' C C' ns b (b++x):=by
  have h1:=(h.newArr #[.pointer (some ⟨F.fb,0,none⟩)] 24 neFSp).newArr #[.slice (some ⟨bb,bo,none⟩) x.length vc] 76 neSlb
  have HC:=Lib.hid (f_edit_in h1 hb ho hd hov h0 hns h8 hm.file 189 #[.pointer (some ⟨_,0,none⟩),.pointer (some ⟨_,0,none⟩)] entAppend1 (K:=fun W A'=> ∃C',Ed X W A A' C C' ns b (b++x)) (fun y rs' hy=>
    b_Append hy (i1:=rs'.length+1) (i3:=rs'.length+0) (by rw [List.getElem?_append_right (by omega),Nat.add_sub_cancel_left];rfl) (by rw [List.getElem?_append_right (by omega),Nat.add_sub_cancel_left];rfl) (fun z rs2 hz=>
      (k_Write hz hop hm (ai:=rs2.length+(rs'.length+(2+ai))) (by
        rw [List.getElem?_append_right (by omega),Nat.add_sub_cancel_left,List.getElem?_append_right (by omega),Nat.add_sub_cancel_left,Nat.add_comm 2 ai]
        exact hv)).mono fun e w' ⟨he,W,A',C',q1,q2⟩=>⟨he,W,A',q1,q2.goes.wr,fun hh=>⟨W,A',hh.sub (List.sublist_append_right rs2 _),q2.goes.wr,C',overB_end b x▸q2⟩⟩)))
  have c0:=(h1.arrCell (i:=1) rfl 0).trans (show (#[Value.pointer (some ⟨F.fb,0,none⟩)]:Array Value)[0]?=some (.pointer (some ⟨F.fb,0,none⟩)) from rfl)
  simp only [size_alloc] at HC c0
  clear h hb ho hd hop hov h0 hns h8 hm hv h1
  generalize pathB ns=path at*
  obtain ⟨n,hn⟩: ∃n,x.length=n:=⟨_,rfl⟩
  rw [hn] at HC ⊢
  clear hn
  go_enter Tryz.func99,Tryz.ntmps99
  go_wp2_with fail
  refine HC.out.mono ?_
  rintro e w2 ⟨rfl,W,A',h2,q1,C',q2⟩
  have H2:=Lib.hid (h2.drop 2)
  have HQ:=Lib.hid q2
  clear h2 q1 q2
  go_wp2
  go_ret
  exact ⟨rfl,W,A',C',H2.out,HQ.out⟩
set_option maxHeartbeats 1000000 in
set_option maxRecDepth 100000 in
theorem f_Truncate_in (h:Fs w0 w F X A ι rs) (hb:F.begun=true) (ho:F.over=false) (hd:F.dead=false) (hop:X.op=true) (hov:X.ov=false) {ns:Path} (h0:ns≠ []) (hns: ∀x∈ns,NameOk x) (h8:ns.length≤8) {b:Blk} (hp:A ns=some (.file b)) {S:Nat} (hS:S≤b.length) {C:List Nat} (hC:Cov X C) (hbm:X.P.bm∈C) (hh:HeldC X C (ι ns)) (h60:C.length≤60):
    Calls Tryz.prog 158 #[.pointer (some ⟨F.fb,0,none⟩),.string (pathB ns),.int .i64 S] w fun e w'=>e= .returned (.int .i64 0)∧∃W A' C',Fs w0 w' F W A' ι rs∧Ed X W A A' C C' ns b (b.take S):=by
  have h1:=(h.newArr #[.pointer (some ⟨F.fb,0,none⟩)] 24 neFSp).newArr #[.int .i64 S] 3 neI8
  have HC:=Lib.hid (f_edit_in h1 hb ho hd hov h0 hns h8 hp 235 #[.pointer (some ⟨_,0,none⟩),.pointer (some ⟨_,0,none⟩)] entTrunc1 (K:=fun W A'=> ∃C',Ed X W A A' C C' ns b (b.take S)) (fun y rs' hy=>
    b_Truncate hy (i1:=rs'.length+1) (i2:=rs'.length+0) (by rw [List.getElem?_append_right (by omega),Nat.add_sub_cancel_left];rfl) (by rw [List.getElem?_append_right (by omega),Nat.add_sub_cancel_left];rfl) (fun z rs2 hz=>
      (k_Truncate hz hop hp hS hC hbm hh h60).mono fun e w' ⟨he,W,A',C',q1,q2⟩=>⟨he,W,A',q1,q2.goes.wr,fun hh=>⟨W,A',hh.sub (List.sublist_append_right rs2 _),q2.goes.wr,C',q2⟩⟩)))
  have c0:=(h1.arrCell (i:=1) rfl 0).trans (show (#[Value.pointer (some ⟨F.fb,0,none⟩)]:Array Value)[0]?=some (.pointer (some ⟨F.fb,0,none⟩)) from rfl)
  simp only [size_alloc] at HC c0
  clear h hb ho hd hop hov h0 hns h8 hp hS hC hbm hh h60 h1
  generalize pathB ns=path at*
  go_enter Tryz.func158,Tryz.ntmps158
  go_wp2_with fail
  refine HC.out.mono ?_
  rintro e w2 ⟨rfl,W,A',h2,q1,C',q2⟩
  have H2:=Lib.hid (h2.drop 2)
  have HQ:=Lib.hid q2
  clear h2 q1 q2
  go_wp2
  go_ret
  exact ⟨rfl,W,A',C',H2.out,HQ.out⟩
end
section
open Go.ChangeMaps Go.MapKept Go.RowKit
def crcStep (d:Int):Int:=Go.bits .xor .u32 (d/2) (Go.bits .and .u32 2197175160 (-Go.bits .and .u32 d 1%4294967296))
def crcIt:Nat→Int→Int
  | 0,c=>c
  | k+1,c=>crcStep (crcIt k c)
def crcF (b:Blk):Int:=b.foldl (fun c x=>crcIt 8 (Go.bits .xor .u32 c ((x.toNat:Int)%4294967296))) (Go.bits .xor .u32 IntKind.u32.max 0)
def crcS (b:Blk):Nat:=(Go.bits .xor .u32 IntKind.u32.max (crcF b)).toNat
theorem bits_u32 (o:BinOp) (ho:o= .xor) (x y:Int):0≤Go.bits o .u32 x y∧Go.bits o .u32 x y<4294967296:=by
  subst ho
  have: ∀z,0≤IntKind.u32.wrap z∧IntKind.u32.wrap z<4294967296:=fun z=>by
    simp [IntKind.wrap,IntKind.bits,IntKind.signed]
    omega
  exact this _
theorem crcS_eq (b:Blk):((crcS b:Nat):Int)=Go.bits .xor .u32 IntKind.u32.max (crcF b)∧crcS b<4294967296:=by
  have:=bits_u32 .xor rfl IntKind.u32.max (crcF b)
  unfold crcS
  omega
theorem crcF_snoc (b:Blk) (x:UInt8):crcF (b++ [x])=crcIt 8 (Go.bits .xor .u32 (crcF b) ((x.toNat:Int)%4294967296)):=by
  unfold crcF
  rw [List.foldl_append]
  rfl
end
end Go.Proofs.YtlemndledcmhiaaGreatDoor
