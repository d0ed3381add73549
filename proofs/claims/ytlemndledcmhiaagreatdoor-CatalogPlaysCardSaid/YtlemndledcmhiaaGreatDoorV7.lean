/-
  The catalog, from the device up, part 7.
-/
import Derived.Test.YtlemndledcmhiaaGreatDoorV6
import Derived.Defers
namespace Go.Proofs.YtlemndledcmhiaaGreatDoor
set_option linter.unusedVariables false
set_option linter.unusedSimpArgs false
set_option maxHeartbeats 8000000
set_option maxRecDepth 100000
open Tryz
open Lib (hid)
open Go.ChangeMaps Go.MapKept Go.RowKit
section
variable {w0:Gnd} {w:World} {rs:List Res} {X:Sys} {F:FH} {A:Path→Option Nd} {ι:Path→Nat}
theorem Qgl (h:Fs w0 w F X A ι rs) (ns:Path) (hns: ∀x∈ns,Qy x) {j sb:Nat} (hr:rs[j]?=some (arr sb (Uh ns) 9 QZ)) (n:Nat) (hn:n≤ns.length) (h8:ns.length≤8) (hd: ∀k,k<n→A (ns.take k)≠none→∃m,A (ns.take k)=some (.dir m)) (cap:Nat):
 Calls prog 172 #[.pointer (some ⟨F.fb,0,none⟩),.slice (some ⟨sb,0,none⟩) n cap] w fun e w'=>e= .returned (QcA (JG A ι (ns.take n)))∧Fs w0 w' F X A ι rs:=by
 have HD:Hid (∀k,k<n→A (ns.take k)≠none→∃m,A (ns.take k)=some (.dir m)):=hid hd;have HNS:Hid (∀k (hk:k<ns.length),Qy ns[k]):=hid fun k hk=>hns _ (List.getElem_mem hk)
 have HRS:=hid hr;have HREP:=hid h.2;have HH:=hid h;have HR0:Hid (A (ns.take 0)≠none):=hid (by
  obtain ⟨m,hm⟩:=h.2.root;rw [List.take_zero,hm];exact fun x=>by cases x)
 have HZ:Hid (ι (ns.take 0)=0):=hid h.2.zero;have n0:(0:Int)≤(n:Int):=Qk _;have n1:(n:Int)≤8:=by omega
 have HN:=hid hn;clear h hns hr hd hn h8;go_enter func172,ntmps172;go_wp2_with fail;go_loopw [4,5,7,10] (fun t4 t5 _ t10 wr=> ∃k i:Nat,k≤n∧t4= .int .i64 i∧t5= .int .i64 0∧t10= .int .i64 k∧Hid (i=ι (ns.take k))∧Hid (A (ns.take k)≠none)∧Hid (Fs w0 wr F X A ι rs)) (fun _ _ _ t10 _=>n-(intOf t10).toNat)
 case atStart=>exact ⟨0,0,Nat.zero_le _,rfl,rfl,rfl,hid HZ.out.symm,HR0,HH⟩
 case round=>
  clear HH HR0 HZ;obtain ⟨k,i,hk,rfl,rfl,rfl,HI,HA,HF⟩:=hrel;have k0:(0:Int)≤(k:Int):=Qk _;by_cases hlt:k<n
  ·have l1:(k:Int)<(n:Int):=by omega
   have hkl:k<ns.length:=by have:=HN.out;omega
   have hc:=HF.out.strCell HRS.out hkl;obtain ⟨m,hm⟩:=HD.out k hlt HA.out;have e1:ns.take (k+1)=ns.take k++ [ns[k]]:=List.take_succ_eq_append_getElem hkl;have HFN:=QdD HF.out hm ns[k] (HNS.out k hkl);rw [←e1,←HI.out] at HFN;have HFN:=hid HFN;have HPRE:Hid (A (ns.take (k+1))=none→JG A ι (ns.take n)=none):=hid fun hno=>by
    unfold JG;cases hq:A (ns.take n) with
    | none=>rfl
    | some x=>
      exfalso;by_cases e:k+1=n
      ·rw [←e,hno] at hq;cases hq
      ·obtain ⟨m2,hm2⟩:=HREP.out.pre (p:=ns.take n) (by rw [hq];exact fun x=>by cases x) (n-(k+1)) (k+1) (by rw [List.length_take];have:=HN.out;omega) (by omega);rw [List.take_take,Nat.min_eq_left (by omega),hno] at hm2;cases hm2
   clear e1 hm HF HI;generalize ns[k]=s at*
   cases hx:A (ns.take (k+1)) with
   | none=>
     have HE:=hid (HPRE.out hx);have e2:JG A ι (ns.take (k+1))=none:=by unfold JG;rw [hx];rfl
     rw [e2] at HFN;have HFN:Hid (Calls prog 118 #[.pointer (some ⟨F.fb,0,none⟩),.int .i64 i,.string s] wr fun e w'=>e= .returned (.tuple #[.int .i64 0,.int .i64 4])∧Fs w0 w' F X A ι rs):=HFN;clear e2 hx HPRE;go_wp2_with fail;refine HFN.out.mono ?_;rintro e w3 ⟨rfl,h3⟩;have H3:=hid h3;clear h3 HFN;go_wp2_with fail;go_ret2;exact ⟨by rw [HE.out];rfl,H3.out⟩
   | some x=>
     have e2:JG A ι (ns.take (k+1))=some (ι (ns.take (k+1))):=by unfold JG;rw [hx];rfl
     rw [e2] at HFN;obtain ⟨i2,hi2⟩: ∃i2,ι (ns.take (k+1))=i2:=⟨_,rfl⟩;rw [hi2] at HFN;have HI2:=hid hi2.symm;have HFN:Hid (Calls prog 118 #[.pointer (some ⟨F.fb,0,none⟩),.int .i64 i,.string s] wr fun e w'=>e= .returned (.tuple #[.int .i64 (i2:Nat),.int .i64 0])∧Fs w0 w' F X A ι rs):=HFN;have HA2:Hid (A (ns.take (k+1))≠none):=hid (by rw [hx];exact fun x=>by cases x);clear e2 hx HPRE hi2;go_wp2_with fail;refine HFN.out.mono ?_;rintro e w3 ⟨rfl,h3⟩;have H3:=hid h3;clear h3 HFN hc;go_wp2_with fail;exact ⟨⟨k+1,i2,hlt,rfl,rfl,by go_num,HI2,HA2,H3⟩,by simp [intOf];omega⟩
  ·obtain rfl:k=n:=by omega
   have HE:Hid (JG A ι (ns.take k)=some i):=hid (by
    obtain ⟨x,hx⟩:=HREP.out.get HA.out;unfold JG;rw [hx,HI.out];rfl)
   go_wp2_with fail;go_ret2;exact ⟨by rw [HE.out];rfl,HF.out⟩
theorem At.perm {w0:Gnd} {w:World} {X:Sys} {rs rs':List Res} (h:At w0 w X rs) (hp:rs.Perm rs'):At w0 w X rs':=⟨h.1.perm (hp.cons _),h.2⟩
theorem Fs.mkArr (h:Fs w0 w F X A ι rs) {w':World} (hf:Frm NoB w w') {b:Nat} {c:Array Value} {t:TypeId} (ht: ¬U8T t) (hb:w'.heap[b]?=some (.cells c t (0,0))) (hn:w.heap.size≤b):Fs w0 w' F X A ι (arr b c t ht::rs):=by
 obtain ⟨⟨n,l,ha,hl⟩,hr⟩:=h;exact ⟨⟨n,l,(ha.mkArr hf ht hb hn).perm ((List.Perm.swap _ _ _).trans ((List.Perm.swap _ _ _).cons _)),hl⟩,hr⟩
theorem Fs.newArr (h:Fs w0 w F X A ι rs) (c:Array Value) (t:TypeId) (ht: ¬U8T t):Fs w0 (w.alloc (.cells c t (0,0))) F X A ι (arr w.heap.size c t ht::rs):=
 h.mkArr ((Frm.refl _ _).alloc _) ht (Qb _ _) (Nat.le_refl _)
theorem Fs.sub (h:Fs w0 w F X A ι rs) {rs':List Res} (hs:rs'.Sublist rs):Fs w0 w F X A ι rs':=by
 obtain ⟨⟨n,l,ha,hl⟩,hr⟩:=h;exact ⟨⟨n,l,ha.sub ((hs.cons_cons _).cons_cons _),hl⟩,hr⟩
theorem Fs.drop (h:Fs w0 w F X A ι rs) (n:Nat):Fs w0 w F X A ι (rs.drop n):=h.sub (List.drop_sublist n rs)
theorem Fs.arrCell (h:Fs w0 w F X A ι rs) {i b:Nat} {c:Array Value} {t:TypeId} {ht: ¬U8T t} (hr:rs[i]?=some (arr b c t ht)) (j:Nat):w.cell? ⟨b,j,none⟩=c[j]?:=by
 obtain ⟨⟨n,l,ha,_⟩,_⟩:=h;exact ha.arrCell (i:=i+2) hr j
theorem Fs.cells (h:Fs w0 w F X A ι rs) (j:Nat):w.cell? ⟨F.fb,j,none⟩=(fsC F X)[j]?:=by
 obtain ⟨⟨n,l,ha,_⟩,_⟩:=h;exact ha.arrCell (i:=0) rfl j
theorem Fs.name (h:Fs w0 w F X A ι rs): ∃y,w=y∧Fs w0 y F X A ι rs:=⟨w,rfl,h⟩
theorem QcS (w:World) (ns:Path) (h0:ns≠ []) (hns: ∀x∈ns,Qy x) (hl:ns.length≤8):
 Calls prog 171 #[.string (Qd ns)] w fun e w'=> ∃b,e= .returned (.tuple #[.slice (some ⟨b,0,none⟩) ns.length ns.length,.int .i64 0])∧Frm NoB w w'∧w.heap.size≤b∧w'.heap[b]?=some (.cells (Uh ns) 9 (0,0)):=by
 cases ns with
 | nil=>exact absurd rfl h0
 | cons a r=>exact Qjd w a r (hns a (List.mem_cons_self ..)) (fun x hx=>hns x (List.mem_cons_of_mem _ hx)) (by rw [List.length_cons] at hl;omega)
theorem QgE (h:Fs w0 w F X A ι rs) {p:Path} {x:Nd} (hp:A p=some x):
 Calls prog 173 #[.pointer (some ⟨X.sb,0,none⟩),.int .i64 (ι p)] w fun e w'=>e= .returned (.tuple #[.agg #[.int .i64 x.kind,.int .i64 x.size],.int .i64 0])∧Fs w0 w' F X A ι rs:=by
 obtain ⟨⟨n,l,ha,hl⟩,hr⟩:=h;obtain ⟨h1,h2,h3⟩:=hr.live p x hp;have:=QdU ha (ι p) h1;rw [h2,h3] at this;exact this.mono fun e w' ⟨q1,q2⟩=>⟨q1,⟨n,l,q2,hl⟩,hr⟩
theorem QbQ (h:Fs w0 w F X A ι rs) {p:Path} {m:Nat} (hp:A p=some (.dir m)) (s:ByteArray) (hns: ∀x∈p++ [s],Qy x) (h8:p.length≤7):
 Calls prog 117 #[.pointer (some ⟨F.fb,0,none⟩),.string (Qd (p++ [s]))] w fun e w'=>e= .returned (.tuple #[.int .i64 (ι p),.string s,.int .i64 0])∧Fs w0 w' F X A ι rs:=by
 obtain ⟨n,hn⟩: ∃n,p.length=n:=⟨_,rfl⟩;have hlen:(p++ [s]).length=n+1:=by simp [hn]
 have HPT:=hid (QcS w (p++ [s]) (by simp) hns (by omega));rw [hlen] at HPT;have htk:(p++ [s]).take n=p:=by rw [←hn];exact List.take_left
 have hlk:JG A ι p=some (ι p):=by unfold JG;rw [hp];rfl
 have hpre:=h.2.pre (p:=p) (by rw [hp];exact fun x=>by cases x);have KW:Hid (∀y sb cap,Fs w0 y F X A ι (arr sb (Uh (p++ [s])) 9 QZ::rs)→Calls prog 172 #[.pointer (some ⟨F.fb,0,none⟩),.slice (some ⟨sb,0,none⟩) n cap] y fun e w'=>e= .returned (.tuple #[.int .i64 (ι p),.int .i64 0])∧Fs w0 w' F X A ι (arr sb (Uh (p++ [s])) 9 QZ::rs)):=hid fun y sb cap hy=>by
  have:=Qgl hy (p++ [s]) hns (j:=0) rfl n (by omega) (by omega) (fun k hk _=>by
   obtain ⟨m,hm⟩:=hpre (n-k) k (by omega) (by omega);exact ⟨m,by rw [List.take_append_of_le_length (by omega)];exact hm⟩) cap
  rw [htk,hlk] at this;exact this
 have KS:Hid (∀y rs',Fs w0 y F X A ι rs'→Calls prog 173 #[.pointer (some ⟨X.sb,0,none⟩),.int .i64 (ι p)] y fun e w'=>e= .returned (.tuple #[.agg #[.int .i64 2,.int .i64 m],.int .i64 0])∧Fs w0 w' F X A ι rs'):=hid fun y rs' hy=>QgE hy hp
 have KC:Hid (∀y sb rs' i,Fs w0 y F X A ι rs'→rs'[i]?=some (arr sb (Uh (p++ [s])) 9 QZ)→y.cell? ⟨sb,n,none⟩=some (.string s)):=hid fun y sb rs' i hy hi=>by
  refine (hy.strCell hi (k:=n) (by omega)).trans ?_
  congr 2
  rw [List.getElem_append_right (by omega)];simp [hn]
 have HH:=hid h;have n0:(0:Int)≤(n:Int):=Qk _;have n1:(n:Int)≤7:=by omega
 clear h hp hns h8 hlen htk hlk hpre;generalize Qd (p++ [s])=path at*
 generalize Uh (p++ [s])=sc at*
 generalize ι p=d at*
 clear hn;go_enter func117,ntmps117;go_wp2_with fail;refine HPT.out.mono ?_;clear HPT;rintro e w1 ⟨g,rfl,hf,hgn,hb⟩;have H1:=hid (HH.out.mkArr hf QZ hb hgn);clear hf hgn hb HH;go_wp2_with fail;refine (KW.out _ _ _ H1.out).mono ?_;clear KW H1;rintro e w2 ⟨rfl,h2⟩;have c2:w2.cell? ⟨F.fb,2,none⟩=some (.pointer (some ⟨X.sb,0,none⟩)):=(h2.cells 2).trans rfl;have HS:=hid (KS.out _ _ h2);clear h2 KS;go_wp2_with fail;refine HS.out.mono ?_;clear HS c2;rintro e w3 ⟨rfl,h3⟩;have H3:=hid (h3.newArr #[.int .i64 2,.int .i64 m] 82 J9);clear h3;go_upto_region 11 with (refine Qg rfl _ _ JL rfl ?_)
 obtain ⟨y1,hy1,h1⟩:=H3.out.name;rw [hy1];have H4:=hid h1;clear hy1 H3;generalize w3.heap.size=g3 at*
 have d0:y1.cell? ⟨g3,0,none⟩=some (.int .i64 2):=(h1.arrCell (i:=0) rfl 0).trans rfl;have dn:=KC.out y1 g _ 1 h1 rfl;clear h1;go_wp2_with fail;have H5:=hid ((H4.out.drop 2).frm (Frm.refl NoB _).drew);clear H4 d0;go_region;go_wp2;go_ret3;exact ⟨rfl,H5.out⟩
theorem Uu {P:Program} {fn:Func} {t u v:Tmp} {ty:TypeId} (h:fn.results= #[.tmp t,.cell u ty,.tmp v]) (tmps:Array Value) (w:World) (a:Addr) (ht:tmps.getD u undef= .pointer (some a)) (x:Value) (hl:(loadVar ty a).run P w= .ok x w):
 (results fn tmps).run P w= .ok (.tuple #[tmps.getD t undef,x,tmps.getD v undef]) w:=by
 have ht':tmps[u]?.getD undef= .pointer (some a):=by simpa using ht
 simp [results,h,ht',hl,asAddr]
theorem QjX (a b:Int):((#[.int .i64 a,.int .i64 b]:Array Value).all fun x=>x.oneCell')=true:=by simp [Value.oneCell']
theorem Qb1 {ops:Array Oper} {rest:List Oper} {o:Oper} {a:Act} {w:World} {Q:Exit→Act→World→Prop} (hgd:o.guard=none) (x y:Operand) (ho:o.op= .store 82 x y) (g:Nat) (k s:Int) (hx:a.eval x= .pointer (some ⟨g,0,none⟩)) (hy:a.eval y= .agg #[.int .i64 k,.int .i64 s]) (old:Array Value) (hold:old.size=2)
 (hg:w.heap[g]?=some (.cells old 82 (0,0))) (h:wpList prog ops Q rest (a.put o.dst undef) (w.setRow g #[.int .i64 k,.int .i64 s])):wpList prog ops Q (o::rest) a w:=
 wpList_store_row hgd _ x y ho g #[.int .i64 k,.int .i64 s] hx hy _ old hg (Vd _ _) (by rw [hold];rfl) (QjX k s) h
theorem Qek {ops:Array Oper} {rest:List Oper} {o:Oper} {a:Act} {w:World} {Q:Exit→Act→World→Prop} (hw:Region.wanted o (yielded ops a.tmps)=true) (x:Operand) (ho:o.op= .load 82 x) (g:Nat) (hx:a.eval x= .pointer (some ⟨g,0,none⟩)) (k s:Int)
 (hg:w.heap[g]?=some (.cells #[.int .i64 k,.int .i64 s] 82 (0,0))) (h:wpList prog ops Q rest (a.put o.dst (.agg #[.int .i64 k,.int .i64 s])) w):wpList prog ops Q (o::rest) a w:=
 BigFrame.wpList_want hw fun K hK=>wp_load_row _ x ho g hx _ _ _ _ hg underlying82 rfl (Vd _ _) (hK _ _ h)
def Yu (A:Path→Option Nd) (ι:Path→Nat) (ns:Path):Value:=match A ns with
 | some x=> .tuple #[.int .i64 (ι ns),.agg #[.int .i64 x.kind,.int .i64 x.size],.int .i64 0]
 | none=> .tuple #[.int .i64 0,.agg #[.int .i64 0,.int .i64 0],.int .i64 4]
theorem Fs.setArr (h:Fs w0 w F X A ι rs) (i:Nat) {b:Nat} {c:Array Value} {t:TypeId} {ht: ¬U8T t} (hr:rs[i]?=some (arr b c t ht)) (j:Nat) (v:Value):Fs w0 (w.setCell ⟨b,j,none⟩ v) F X A ι (rs.set i (arr b (c.setIfInBounds j v) t ht)):=by
 obtain ⟨⟨n,l,ha,hl⟩,hp⟩:=h;exact ⟨⟨n,l,ha.setArr (i+2) hr j v,hl⟩,hp⟩
theorem Fs.setRow (h:Fs w0 w F X A ι rs) (i:Nat) {b:Nat} {c c':Array Value} {t:TypeId} {ht: ¬U8T t} (hr:rs[i]?=some (arr b c t ht)):Fs w0 (w.setRow b c') F X A ι (rs.set i (arr b c' t ht)):=by
 obtain ⟨⟨n,l,ha,hl⟩,hp⟩:=h;exact ⟨⟨n,l,ha.setRow (i+2) hr,hl⟩,hp⟩
theorem Fs.block (h:Fs w0 w F X A ι rs) {i b:Nat} {c:Array Value} {t:TypeId} {ht: ¬U8T t} (hr:rs[i]?=some (arr b c t ht)):w.heap[b]?=some (.cells c t (0,0)):=by
 obtain ⟨⟨n,l,ha,hl⟩,hp⟩:=h;exact ha.1.get (i:=i+3) hr
theorem On (h:Fs w0 w F X A ι rs) (ns:Path) (h0:ns≠ []) (hns: ∀x∈ns,Qy x) (h8:ns.length≤8) (hd: ∀k,k<ns.length→A (ns.take k)≠none→∃m,A (ns.take k)=some (.dir m)):
 Calls prog 87 #[.pointer (some ⟨F.fb,0,none⟩),.string (Qd ns)] w fun e w'=>e= .returned (Yu A ι ns)∧Fs w0 w' F X A ι rs:=by
 obtain ⟨n,hn⟩: ∃n,ns.length=n:=⟨_,rfl⟩;have HPT:=hid (fun w=>QcS w ns h0 hns h8);rw [hn] at HPT;have KW:Hid (∀y sb cap rs',Fs w0 y F X A ι (arr sb (Uh ns) 9 QZ::rs')→Calls prog 172 #[.pointer (some ⟨F.fb,0,none⟩),.slice (some ⟨sb,0,none⟩) n cap] y fun e w'=>e= .returned (QcA (JG A ι ns))∧Fs w0 w' F X A ι (arr sb (Uh ns) 9 QZ::rs')):=hid fun y sb cap rs' hy=>by
  have:=Qgl hy ns hns (j:=0) rfl n (by omega) h8 (fun k hk=>hd k (by omega)) cap;rw [List.take_of_length_le (by omega)] at this;exact this
 have KS:Hid (∀y rs' x,A ns=some x→Fs w0 y F X A ι rs'→Calls prog 173 #[.pointer (some ⟨X.sb,0,none⟩),.int .i64 (ι ns)] y fun e w'=>e= .returned (.tuple #[.agg #[.int .i64 x.kind,.int .i64 x.size],.int .i64 0])∧Fs w0 w' F X A ι rs'):=hid fun y rs' x hp hy=>QgE hy hp
 have HH:=hid (h.newArr #[.int .i64 0,.int .i64 0] 82 J9);have n0:(0:Int)≤(n:Int):=Qk _;have n1:(n:Int)≤8:=by omega
 have c0:((w.alloc (.cells #[.int .i64 0,.int .i64 0] 82 (0,0))).cell? ⟨F.fb,0,none⟩)=some (.pointer (some ⟨X.cb,0,none⟩)):=(HH.out.cells 0).trans rfl;clear h h0 hns h8 hd hn;have e1: ∀x,A ns=some x→Yu A ι ns= .tuple #[.int .i64 (ι ns),.agg #[.int .i64 x.kind,.int .i64 x.size],.int .i64 0]∧JG A ι ns=some (ι ns):=fun x hx=>⟨by unfold Yu;rw [hx],by unfold JG;rw [hx];rfl⟩
 have e2:A ns=none→Yu A ι ns= .tuple #[.int .i64 0,.agg #[.int .i64 0,.int .i64 0],.int .i64 4]∧JG A ι ns=none:=fun hx=>⟨by unfold Yu;rw [hx],by unfold JG;rw [hx];rfl⟩
 generalize Yu A ι ns=lr at*
 generalize JG A ι ns=lk at*
 generalize Qd ns=path at*
 generalize Uh ns=sc at*
 generalize ι ns=d at*
 cases hx:A ns with
 | none=>
   obtain ⟨rfl,rfl⟩:=e2 hx;have KW:Hid (∀y sb cap rs',Fs w0 y F X A ι (arr sb sc 9 QZ::rs')→Calls prog 172 #[.pointer (some ⟨F.fb,0,none⟩),.slice (some ⟨sb,0,none⟩) n cap] y fun e w'=>e= .returned (.tuple #[.int .i64 0,.int .i64 4])∧Fs w0 w' F X A ι (arr sb sc 9 QZ::rs')):=KW;clear KS e1 e2 hx;go_enter func87,ntmps87;go_upto_region 1 with (refine Qg rfl _ _ JL rfl ?_)
   obtain ⟨y0,hy0,h1⟩:=HH.out.name;rw [hy0] at c0 ⊢;have H1:=hid h1;clear hy0 HH h1;generalize w.heap.size=b5 at*
   go_wp2_with fail;refine (HPT.out _).mono ?_;clear HPT c0;rintro e w1 ⟨g,rfl,hf,hgn,hb⟩;have H2:=hid (H1.out.mkArr hf QZ hb hgn);clear hf hgn hb H1;go_wp2_with fail;refine (KW.out _ _ _ _ H2.out).mono ?_;clear KW H2;rintro e w2 ⟨rfl,h2⟩;have H3:=hid h2;clear h2;have HB:=hid (H3.out.block (i:=1) rfl);have H4:=hid (H3.out.setRow 1 (c':= #[.int .i64 0,.int .i64 0]) rfl);go_wp2_with (refine Qb1 rfl _ _ rfl b5 0 0 rfl rfl _ rfl HB.out ?_);obtain ⟨y1,hy1,h1⟩:=H4.out.name;rw [hy1];have H5:=hid h1;have hld:=run_loadVar_row (P:=prog) y1 b5 82 82 #[.int .i64 0,.int .i64 0] (0,0) _ (h1.block (i:=1) rfl) underlying82 rfl (Vd _ _);exact bodyPost_ret (v:= .tuple #[.int .i64 0,.agg #[.int .i64 0,.int .i64 0],.int .i64 4]) (Uu results87 _ _ ⟨b5,0,none⟩ rfl _ hld) rfl ⟨rfl,H5.out.drop 2⟩
 | some x=>
   obtain ⟨rfl,rfl⟩:=e1 x hx;have KW:Hid (∀y sb cap rs',Fs w0 y F X A ι (arr sb sc 9 QZ::rs')→Calls prog 172 #[.pointer (some ⟨F.fb,0,none⟩),.slice (some ⟨sb,0,none⟩) n cap] y fun e w'=>e= .returned (.tuple #[.int .i64 d,.int .i64 0])∧Fs w0 w' F X A ι (arr sb sc 9 QZ::rs')):=KW;have KS2:Hid (∀y rs',Fs w0 y F X A ι rs'→Calls prog 173 #[.pointer (some ⟨X.sb,0,none⟩),.int .i64 d] y fun e w'=>e= .returned (.tuple #[.agg #[.int .i64 x.kind,.int .i64 x.size],.int .i64 0])∧Fs w0 w' F X A ι rs'):=hid fun y rs' hy=>KS.out y rs' x hx hy
   clear KS e1 e2 hx;generalize x.kind=xk at*
   generalize x.size=xs at*
   go_enter func87,ntmps87;go_upto_region 1 with (refine Qg rfl _ _ JL rfl ?_)
   obtain ⟨y0,hy0,h1⟩:=HH.out.name;rw [hy0] at c0 ⊢;have H1:=hid h1;clear hy0 HH h1;generalize w.heap.size=b5 at*
   go_wp2_with fail;refine (HPT.out _).mono ?_;clear HPT c0;rintro e w1 ⟨g,rfl,hf,hgn,hb⟩;have H2:=hid (H1.out.mkArr hf QZ hb hgn);clear hf hgn hb H1;go_wp2_with fail;refine (KW.out _ _ _ _ H2.out).mono ?_;clear KW H2;rintro e w2 ⟨rfl,h2⟩;have c2:w2.cell? ⟨F.fb,2,none⟩=some (.pointer (some ⟨X.sb,0,none⟩)):=(h2.cells 2).trans rfl;have HS:=hid (KS2.out _ _ h2);clear h2 KS2;go_wp2_with fail;refine HS.out.mono ?_;clear HS c2;rintro e w3 ⟨rfl,h3⟩;have H3:=hid (h3.newArr #[.int .i64 xk,.int .i64 xs] 82 J9);clear h3;go_upto_region 10 with (refine Qg rfl _ _ JL rfl ?_)
   obtain ⟨y1,hy1,h1⟩:=H3.out.name;rw [hy1];generalize w3.heap.size=g3 at*
   have d0:y1.cell? ⟨g3,0,none⟩=some (.int .i64 xk):=(h1.arrCell (i:=0) rfl 0).trans rfl;have d1:y1.cell? ⟨g3,1,none⟩=some (.int .i64 xs):=(h1.arrCell (i:=0) rfl 1).trans rfl;have e0:y1.cell? ⟨b5,0,none⟩=some (.int .i64 0):=(h1.arrCell (i:=2) rfl 0).trans rfl;have e1:y1.cell? ⟨b5,1,none⟩=some (.int .i64 0):=(h1.arrCell (i:=2) rfl 1).trans rfl;have h4:=h1.setArr 2 rfl 0 (.int .i64 xk);have f0:y1.frozen? ⟨b5,0,none⟩=false:=Qf (h1.block (i:=2) rfl);have f1:(y1.setCell ⟨b5,0,none⟩ (.int .i64 xk)).frozen? ⟨b5,1,none⟩=false:=Qf (h4.block (i:=2) rfl);have e2:(y1.setCell ⟨b5,0,none⟩ (.int .i64 xk)).cell? ⟨b5,1,none⟩=some (.int .i64 0):=(h4.arrCell (i:=2) rfl 1).trans rfl;have H5:=hid (h4.setArr 2 rfl 1 (.int .i64 xs));clear hy1 H3 h1 h4;go_region;have h6:=H5.out.frm (Frm.refl NoB _).drew;obtain ⟨y6,hy6,h6⟩:=h6.name;clear e0 e1 d0 d1 f0 f1 e2 H5;go_wp2_with fail;have e6:((y1.setCell ⟨b5,0,none⟩ (.int .i64 xk)).setCell ⟨b5,1,none⟩ (.int .i64 xs)).drew=y6:=hy6
   first | rw [e6] | skip
   have H6:=hid h6;have hld:=run_loadVar_row (P:=prog) y6 b5 82 82 #[.int .i64 xk,.int .i64 xs] (0,0) _ (h6.block (i:=2) rfl) underlying82 rfl (Vd _ _);exact bodyPost_ret (v:= .tuple #[.int .i64 d,.agg #[.int .i64 xk,.int .i64 xs],.int .i64 0]) (Uu results87 _ _ ⟨b5,0,none⟩ rfl _ hld) rfl ⟨rfl,H6.out.drop 3⟩
theorem QcX (h:Fs w0 w F X A ι rs) (ns:Path) (h0:ns≠ []) (hns: ∀x∈ns,Qy x) (h8:ns.length≤8) (hd: ∀k,k<ns.length→A (ns.take k)≠none→∃m,A (ns.take k)=some (.dir m)) (hf: ∀m,A ns≠some (.dir m)):
 Calls prog 121 #[.pointer (some ⟨F.fb,0,none⟩),.string (Qd ns)] w fun e w'=>e= .returned (Yu A ι ns)∧Fs w0 w' F X A ι rs:=by
 have KL:Hid (∀y rs',Fs w0 y F X A ι rs'→Calls prog 87 #[.pointer (some ⟨F.fb,0,none⟩),.string (Qd ns)] y fun e w'=>e= .returned (Yu A ι ns)∧Fs w0 w' F X A ι rs'):=hid fun y rs' hy=>On hy ns h0 hns h8 hd
 have HH:=hid (h.newArr #[.int .i64 0,.int .i64 0] 82 J9);have hR: ∃(i:Nat) (k:Int) (s:Nat) (e:Int),Yu A ι ns= .tuple #[.int .i64 i,.agg #[.int .i64 k,.int .i64 s],.int .i64 e]∧((e=0∧k=1)∨e=4):=by
  cases hx:A ns with
  | none=>exact ⟨0,0,0,4,by unfold Yu;rw [hx];rfl,.inr rfl⟩
  | some x=>
    cases x with
    | dir m=>exact absurd hx (hf m)
    | file b=>exact ⟨ι ns,1,b.length,0,by unfold Yu;rw [hx];rfl,.inl ⟨rfl,rfl⟩⟩
 obtain ⟨i,k,s,er,hlr,hcase⟩:=hR;rw [hlr] at KL ⊢;have KL:=hid (KL.out _ _ HH.out);clear h h0 hns h8 hd hf hlr;generalize Qd ns=path at*
 go_enter func121,ntmps121;go_upto_region 1 with (refine Qg rfl _ _ JL rfl ?_)
 obtain ⟨y0,hy0⟩: ∃y0,w.alloc (.cells #[.int .i64 0,.int .i64 0] 82 (0,0))=y0:=⟨_,rfl⟩;rw [hy0] at KL ⊢;clear HH hy0;generalize w.heap.size=b5 at*
 go_wp2_with fail;refine KL.out.mono ?_;clear KL;rintro e w1 ⟨rfl,h1⟩;have H1:=hid (h1.newArr #[.int .i64 k,.int .i64 (s:Nat)] 82 J9);clear h1;go_upto_region 2 with (refine Qg rfl _ _ JL rfl ?_)
 obtain ⟨y1,hy1,h1⟩:=H1.out.name;rw [hy1];generalize w1.heap.size=g3 at*
 have d0:y1.cell? ⟨g3,0,none⟩=some (.int .i64 k):=(h1.arrCell (i:=0) rfl 0).trans rfl;have d1:y1.cell? ⟨g3,1,none⟩=some (.int .i64 s):=(h1.arrCell (i:=0) rfl 1).trans rfl;have e0:y1.cell? ⟨b5,0,none⟩=some (.int .i64 0):=(h1.arrCell (i:=1) rfl 0).trans rfl;have e1:y1.cell? ⟨b5,1,none⟩=some (.int .i64 0):=(h1.arrCell (i:=1) rfl 1).trans rfl;have h4:=h1.setArr 1 rfl 0 (.int .i64 k);have f0:y1.frozen? ⟨b5,0,none⟩=false:=Qf (h1.block (i:=1) rfl);have f1:(y1.setCell ⟨b5,0,none⟩ (.int .i64 k)).frozen? ⟨b5,1,none⟩=false:=Qf (h4.block (i:=1) rfl);have e2:(y1.setCell ⟨b5,0,none⟩ (.int .i64 k)).cell? ⟨b5,1,none⟩=some (.int .i64 0):=(h4.arrCell (i:=1) rfl 1).trans rfl;have H5:=hid (h4.setArr 1 rfl 1 (.int .i64 s));clear hy1 H1 h1 h4;rcases hcase with ⟨rfl,rfl⟩ | rfl
 all_goals
  go_upto_region 4 with fail
  go_region;have h6:=H5.out.frm (Frm.refl NoB _).drew;obtain ⟨y6,hy6,h6⟩:=h6.name;clear e0 e1 d0 d1 f0 f1 e2 H5;go_wp2_with fail
  first | rw [hy6] | skip
  have H6:=hid h6;have hld:=run_loadVar_row (P:=prog) y6 b5 82 82 #[.int .i64 _,.int .i64 _] (0,0) _ (h6.block (i:=1) rfl) underlying82 rfl (Vd _ _);exact bodyPost_ret (v:= .tuple #[.int .i64 _,.agg #[.int .i64 _,.int .i64 _],.int .i64 _]) (Uu results121 _ _ ⟨b5,0,none⟩ rfl _ hld) rfl ⟨rfl,H6.out.drop 2⟩
def UW (A:Path→Option Nd) (ns:Path):Value:=match A ns with
 | some x=> .tuple #[.agg #[.int .i64 x.kind,.int .i64 x.size],.int .i64 0]
 | none=> .tuple #[.agg #[.int .i64 0,.int .i64 0],.int .i64 4]
theorem QhB (A:Path→Option Nd) (ι:Path→Nat) (ns:Path): ∃(i:Nat) (k s e:Int),Yu A ι ns= .tuple #[.int .i64 i,.agg #[.int .i64 k,.int .i64 s],.int .i64 e]∧UW A ns= .tuple #[.agg #[.int .i64 k,.int .i64 s],.int .i64 e]:=by
 cases hx:A ns with
 | none=>exact ⟨0,0,0,4,by unfold Yu;rw [hx];rfl,by unfold UW;rw [hx]⟩
 | some x=>exact ⟨ι ns,x.kind,x.size,0,by unfold Yu;rw [hx],by unfold UW;rw [hx]⟩
theorem Qbd (h:Fs w0 w F X A ι rs) (ns:Path) (h0:ns≠ []) (hns: ∀x∈ns,Qy x) (h8:ns.length≤8) (hd: ∀k,k<ns.length→A (ns.take k)≠none→∃m,A (ns.take k)=some (.dir m)):
 Calls prog 35 #[.pointer (some ⟨F.fb,0,none⟩),.string (Qd ns)] w fun e w'=>e= .returned (UW A ns)∧Fs w0 w' F X A ι rs:=by
 have KL:Hid (∀y rs',Fs w0 y F X A ι rs'→Calls prog 87 #[.pointer (some ⟨F.fb,0,none⟩),.string (Qd ns)] y fun e w'=>e= .returned (Yu A ι ns)∧Fs w0 w' F X A ι rs'):=hid fun y rs' hy=>On hy ns h0 hns h8 hd
 have HH:=hid (h.newArr #[.int .i64 0,.int .i64 0] 82 J9);obtain ⟨i,k,s,er,hlr,hsr⟩:=QhB A ι ns;rw [hsr];rw [hlr] at KL;have KL:=hid (KL.out _ _ HH.out);clear h h0 hns h8 hd hlr hsr;generalize Qd ns=path at*
 go_enter func35,ntmps35;go_upto_region 1 with (refine Qg rfl _ _ JL rfl ?_)
 obtain ⟨y0,hy0⟩: ∃y0,w.alloc (.cells #[.int .i64 0,.int .i64 0] 82 (0,0))=y0:=⟨_,rfl⟩;rw [hy0] at KL ⊢;clear HH hy0;generalize w.heap.size=b5 at*
 go_wp2_with fail;refine KL.out.mono ?_;clear KL;rintro e w1 ⟨rfl,h1⟩;have H1:=hid (h1.newArr #[.int .i64 k,.int .i64 s] 82 J9);clear h1;go_upto_region 2 with (refine Qg rfl _ _ JL rfl ?_)
 obtain ⟨y1,hy1,h1⟩:=H1.out.name;rw [hy1];generalize w1.heap.size=g3 at*
 have HB:=hid (h1.block (i:=1) rfl);have HB2:=hid (h1.block (i:=0) rfl);have H5:=hid (h1.setRow 1 (c':= #[.int .i64 k,.int .i64 s]) rfl);clear hy1 H1 h1;go_wp2_with (first | (refine Qek rfl _ rfl g3 rfl k s HB2.out ?_) | (refine Qb1 rfl _ _ rfl b5 k s rfl rfl _ rfl HB.out ?_));obtain ⟨y6,hy6,h6⟩:=H5.out.name;rw [hy6];have H6:=hid h6;have hld:=run_loadVar_row (P:=prog) y6 b5 82 82 #[.int .i64 k,.int .i64 s] (0,0) _ (h6.block (i:=1) rfl) underlying82 rfl (Vd _ _);exact bodyPost_ret (v:= .tuple #[.agg #[.int .i64 k,.int .i64 s],.int .i64 er]) (Qx results35 _ _ ⟨b5,0,none⟩ rfl _ hld) rfl ⟨rfl,H6.out.drop 2⟩
theorem Fs.mkByt (h:Fs w0 w F X A ι rs) {w':World} (hf:Frm NoB w w') {v:Value} {bs:List UInt8} {R:Nat→Prop} (hb:Qc w' v bs R):Fs w0 w' F X A ι (byt v bs::rs):=by
 obtain ⟨⟨n,l,ha,hl⟩,hr⟩:=h;exact ⟨⟨n,l,(ha.mkByt hf hb).perm ((List.Perm.swap _ _ _).trans ((List.Perm.swap _ _ _).cons _)),hl⟩,hr⟩
theorem Fs.byt (h:Fs w0 w F X A ι rs) {i:Nat} {v:Value} {bs:List UInt8} (hr:rs[i]?=some (byt v bs)):Qc w v bs Ku:=by
 obtain ⟨⟨n,l,ha,hl⟩,hp⟩:=h;exact ha.byt (i:=i+2) hr
def Qfn (w0:Gnd) (w:World) (F:FH) (X:Sys) (A:Path→Option Nd) (ι:Path→Nat) (rs:List Res) (v:Value) (b:Blk):Prop:=(v= .slice none 0 0∧b= []∧Fs w0 w F X A ι rs)∨Fs w0 w F X A ι (Go.Proofs.YtlemndledcmhiaaGreatDoor.byt v b::rs)
theorem QiR (h:Fs w0 w F X A ι rs) {ns:Path} {b:Blk} (hp:A ns=some (.file b)) (n:Nat) (hn:b.length≤n) (hn2:n≤1000000):
 Calls prog 122 #[.pointer (some ⟨X.sb,0,none⟩),.int .i64 (ι ns),.int .i64 0,.int .i64 n] w fun e w'=> ∃v,e= .returned (.tuple #[v,.int .i64 0])∧Qfn w0 w' F X A ι rs v b:=by
 obtain ⟨⟨m,l,ha,hl⟩,hr⟩:=h;obtain ⟨h1,h2,h3⟩:=hr.live ns _ hp;have hb:=hr.file ns b hp;have h3:X.nd (ι ns) 1=b.length:=h3;have:=Qhw ha hr.ok (ι ns) h1 0 n b.length (by omega) hn2 (by rw [h3];split<;>omega);rw [hb,List.drop_zero,Nat.sub_zero,List.take_of_length_le (Nat.le_refl _)] at this;refine this.mono ?_;rintro e w' ⟨v,he,hv⟩;refine ⟨v,he,?_⟩;rcases hv with ⟨q1,q2,q3⟩ | q
 ·exact .inl ⟨q1,q2,⟨m,l,q3,hl⟩,hr⟩
 ·exact .inr ⟨⟨m,l,q.perm ((List.Perm.swap _ _ _).trans ((List.Perm.swap _ _ _).cons _)),hl⟩,hr⟩
theorem QbL (h:Fs w0 w F X A ι rs) (ns:Path) (h0:ns≠ []) (hns: ∀x∈ns,Qy x) (h8:ns.length≤8) {b:Blk} (hp:A ns=some (.file b)) (n:Nat) (hn:b.length≤n) (hn2:n≤1000000):
 Calls prog 54 #[.pointer (some ⟨F.fb,0,none⟩),.string (Qd ns),.int .i64 0,.int .i64 n] w fun e w'=> ∃v,e= .returned (.tuple #[v,.int .i64 0])∧Qfn w0 w' F X A ι rs v b:=by
 have hpre:=h.2.pre (p:=ns) (by rw [hp];exact fun x=>by cases x);have HL:=hid (QcX h ns h0 hns h8 (fun k hk _=>hpre (ns.length-k) k (by omega) (by omega)) (fun m e=>by rw [hp] at e;cases e));have hlr:Yu A ι ns= .tuple #[.int .i64 (ι ns),.agg #[.int .i64 1,.int .i64 b.length],.int .i64 0]:=by unfold Yu;rw [hp];rfl
 rw [hlr] at HL;have KR:Hid (∀y rs',Fs w0 y F X A ι rs'→Calls prog 122 #[.pointer (some ⟨X.sb,0,none⟩),.int .i64 (ι ns),.int .i64 0,.int .i64 n] y fun e w'=> ∃v,e= .returned (.tuple #[v,.int .i64 0])∧Qfn w0 w' F X A ι rs' v b):=hid fun y rs' hy=>QiR hy hp n hn hn2
 clear h h0 hns h8 hp hn hn2 hpre hlr;generalize Qd ns=path at*
 generalize ι ns=d at*
 go_enter func54,ntmps54;go_wp2_with fail;refine HL.out.mono ?_;clear HL;rintro e w1 ⟨rfl,h1⟩;have H1:=hid (h1.newArr #[.int .i64 1,.int .i64 b.length] 82 J9);clear h1;go_upto_region 2 with (refine Qg rfl _ _ JL rfl ?_)
 obtain ⟨y1,hy1,h1⟩:=H1.out.name;rw [hy1];have c2:y1.cell? ⟨F.fb,2,none⟩=some (.pointer (some ⟨X.sb,0,none⟩)):=(h1.cells 2).trans rfl;have HR:=hid (KR.out _ _ h1);clear hy1 H1 h1 KR;go_wp2_with fail;refine HR.out.mono ?_;clear HR;rintro e w2 ⟨v,rfl,hv⟩;have HV:Hid (Qfn w0 w2 F X A ι rs v b):=hid (by
  rcases hv with ⟨q1,q2,q3⟩ | q
  ·exact .inl ⟨q1,q2,q3.drop 1⟩
  ·exact .inr (q.sub (List.Sublist.cons_cons _ (List.Sublist.cons _ (List.Sublist.refl _)))))
 clear hv;go_wp2;go_ret2;exact ⟨v,rfl,HV.out⟩
def FsW (w0:Gnd) (w:World) (F:FH) (X:Sys) (A:Path→Option Nd) (ι:Path→Nat) (rs:List Res):Prop:=
 (∃n l,At w0 w X (fsS F X::fsL F n l::rs))∧Rep X A ι
theorem Fs.weak {w0:Gnd} {w:World} {F:FH} {X:Sys} {A:Path→Option Nd} {ι:Path→Nat} {rs:List Res} (h:Fs w0 w F X A ι rs):FsW w0 w F X A ι rs:=by
 obtain ⟨⟨n,l,ha,_⟩,hr⟩:=h;exact ⟨⟨n,l,ha⟩,hr⟩
def Vs (b:Blk):Nat:=(slF b (b.length/64)).getD (b.length/64)
theorem QgA {b:Blk} (h:b.length%64=0):((slF b (b.length/64)).map (64* ·)).getD b.length=64*Vs b:=by
 unfold Vs;cases slF b (b.length/64) with
 | none=>show b.length=64*(b.length/64);omega
 | some k=>rfl
theorem Wq {b:Blk} (h:b.length%64=0):64*Vs b≤b.length:=by
 unfold Vs;cases hx:slF b (b.length/64) with
 | none=>show 64*(b.length/64)≤_;omega
 | some k=>have:=(QbS hx).1;show 64*k≤_;omega
theorem Qd8 {b:Blk} (h:Vs b<b.length/64):slU b (Vs b)=false:=by
 unfold Vs at h ⊢;cases hx:slF b (b.length/64) with
 | none=>rw [hx] at h;exact absurd h (Nat.lt_irrefl _)
 | some k=>exact (QbS hx).2
theorem Jt {a b:Nat} (h:a≤b):dat a≤dat b:=by unfold dat;omega
theorem Qbw {X W:Sys} (hP:W.P=X.P) (hl: ∀j,W.live j↔X.live j):W.fi=X.fi:=by
 unfold Sys.fi;rw [hP]
 congr 1
 apply Ef;intro k hk;have h1:=hl k;unfold Sys.live at h1;rw [hP] at h1;have h2:Qt (W.v X.P.im) k=true↔Qt (X.v X.P.im) k=true:=⟨fun e=>(h1.1 ⟨hk,e⟩).2,fun e=>(h1.2 ⟨hk,e⟩).2⟩;cases ha:Qt (W.v X.P.im) k<;>cases hb:Qt (X.v X.P.im) k<;>rw [ha,hb] at h2<;>simp at h2<;>rfl
structure Ei (X X':Sys) (C C':List Nat):Prop where
 wr:X'=X.wr X'.l
 cov:Cov X' C'
 sub: ∀c∈C,c∈C'
 held: ∀j,X.live j→JW X C j→JW X' C' j
 live: ∀j,X.live j→X'.live j
theorem Ei.trans {X Y Z:Sys} {C D E:List Nat} (h:Ei X Y C D) (g:Ei Y Z D E):Ei X Z C E:=
 ⟨by rw [g.wr,h.wr];rfl,g.cov,fun c hc=>g.sub c (h.sub c hc),fun j hj hh=>g.held j (h.live j hj) (h.held j hj hh),fun j hj=>g.live j (h.live j hj)⟩
theorem Ei.refl {X:Sys} {C:List Nat} (h:Cov X C):Ei X X C C:=⟨rfl,h,fun _ h=>h,fun _ _ h=>h,fun _ h=>h⟩
structure Mk (X X':Sys) (A:Path→Option Nd) (ι:Path→Nat) (A':Path→Option Nd) (ι':Path→Nat) (C C':List Nat) (p:Path) (s:ByteArray) (x:Nd) (n:Nat):Prop where
 tree: ∃S i,A'=Yb A p s x S∧ι'=YL ι p s i∧(S=n∨S=n+64)∧(n=0→S=64)∧JW X' C' i∧X'.fb+(dat S-dat n)=X.fb∧C'.length≤C.length+1+(dat S-dat n)
 goes:Ei X X' C C'
 fi:X'.fi+1=X.fi
theorem Mk.of {W:Sys} (hr:Rep X A ι) (hX:Jl X) {p:Path} {n:Nat} (hp:A p=some (.dir n)) {s:ByteArray} (hs:NmS s) (hno:A (p++ [s])=none) {i kind:Nat} {x:Nd} (hx:(x= .dir 0∧kind=2)∨(x= .file []∧kind=1)) (hz:Jn (X.v X.P.im) X.P.ni=some i)
 (hw:Yp (X.made i kind) W (ι p) (64*Vs (X.bytes (ι p))) (Kn i s)) {C N:List Nat} (hcv:Cov W (((X.P.tb+i/8)::C)++N)) (hh:JW X C (ι p)) (hblk: ∀k,k<dat (max n (64*Vs (X.bytes (ι p))+64))→W.nd (ι p) (2+k)∈((X.P.tb+i/8)::C)++N) (hN:N.length=dat (max n (64*Vs (X.bytes (ι p))+64))-dat n):
 ∃A' ι' C',Rep W A' ι'∧Mk X W A ι A' ι' C C' p s x n∧∀l,ON A ι l→ON A' ι' l:=by
 obtain ⟨hm1,hm2,hm3,hm4,hm5,hm6,hm7,hm8⟩:=hr.ok.made hX hz (kind:=kind) (by rcases hx with ⟨_,e⟩ | ⟨_,e⟩<;>omega);obtain ⟨hl1,hl2,hl3⟩:=hr.live p _ hp;have hl3:X.nd (ι p) 1=n:=hl3;have hne:ι p≠i:=fun e=>hm3 (e▸hl1)
 obtain ⟨hb1,hb2⟩:=hm4 (ι p) hl1;have hd:=hr.dir p n hp;have hbl:=Jr X (ι p);have hi:i<4294967296:=by have:=(Jf hz).1;have:=hX.pl.ni.2;omega
 have hnl:=Ub i s hs.2;have ha:64*Vs (X.bytes (ι p))≤X.nd (ι p) 1:=by rw [←hbl];exact Wq hd.whole
 have hov:=hw.QH (by rw [hb2 1 (by omega)];exact ha);rw [hb1] at hov;have hS:W.nd (ι p) 1=max n (64*Vs (X.bytes (ι p))+64):=by rw [hw.size,hb2 1 (by omega),hl3,hnl]
 have hil:(X.made i kind).live i:=(hm2 i).2 (.inr rfl);obtain ⟨ho1,ho2⟩:=hw.oth i hil hne.symm;have hPW:W.P=X.P:=hw.wr.P;have hrep:=hr.add hp hs hno (i:=i) (x:=x) (by rcases hx with ⟨e,_⟩ | ⟨e,_⟩<;>simp [e]) hw.ok hm3 (fun j=>(hw.live j).trans (hm2 j)) (fun j hj hne=>by
  have h1:=hw.oth j ((hm2 j).2 (.inl hj)) hne;have h2:=hm4 j hj;exact ⟨h1.1.trans h2.1,fun m hm=>(h1.2 m hm).trans (h2.2 m hm)⟩) (by rw [hw.kind,hb2 0 (by omega)];exact hl2) hS (by rw [ho2 0 (by omega),hm5];rcases hx with ⟨e1,e2⟩ | ⟨e1,e2⟩<;>rw [e1,e2]<;>rfl) (by rw [ho2 1 (by omega),hm6]) hov (QdO i s hs.2 hi) (Wq hd.whole) Qd8
 have hsm:max n (64*Vs (X.bytes (ι p))+64)=n∨max n (64*Vs (X.bytes (ι p))+64)=n+64:=by
  have hw6:=hd.whole;rw [hbl,hl3] at hw6;rw [hl3] at ha;omega
 have hs5:=hr.ok.size (ι p) hl1;refine ⟨_,_,((X.P.tb+i/8)::C)++N,hrep,⟨⟨_,i,rfl,rfl,hsm,fun h0=>?_,?_,?_,?_⟩,⟨?_,hcv,fun c hc=>List.mem_append_left _ (List.mem_cons_of_mem _ hc),fun j hj hhj=>?_,fun j hj=>(hw.live j).2 ((hm2 j).2 (.inl hj))⟩,?_⟩,fun l hl d s' i' hi'=>?_⟩
 ·rw [h0] at hl3 hsm ⊢;rw [hl3] at ha;omega
 ·refine ⟨by rw [hPW];exact List.mem_append_left _ (List.mem_cons_self ..),fun k hk=>?_⟩;rw [ho2 1 (by omega),hm6] at hk;exact absurd hk (by unfold dat;omega)
 ·have hf:=hw.free;rw [hS,hb2 1 (by omega),hl3,hm7] at hf;exact hf
 ·rw [List.length_append,List.length_cons,hN];omega
 ·have:=hw.wr.eq;rw [this];rfl
 ·by_cases e:j=ι p
  ·subst e;refine ⟨by rw [hPW];exact List.mem_append_left _ (List.mem_cons_of_mem _ hh.1),fun k hk=>?_⟩;rw [hS] at hk;exact hblk k hk
  ·refine (hhj.same hPW (hr.ok.size j hj) fun m hm=>?_).mono fun c hc=>List.mem_append_left _ (List.mem_cons_of_mem _ hc)
   exact ((hw.oth j ((hm2 j).2 (.inl hj)) e).2 m hm).trans ((hm4 j hj).2 m hm)
 ·rw [Qbw (W:=W) (X:=X.made i kind) hw.wr.P hw.live];exact QiG hX hz
 ·obtain ⟨q,q1,q2,q3⟩:=hl d s' i' hi';have e1:q++ [s']≠p++ [s]:=fun e=>q1 (by rw [e];exact hno)
  have e2:q≠p++ [s]:=fun e=>by
   obtain ⟨_,m,hm⟩:=hr.up q s' q1;rw [e,hno] at hm;cases hm
  refine ⟨q,?_,?_,?_⟩
  ·unfold Yb;rw [if_neg e1];split
   ·exact fun x=>by cases x
   ·exact q1
  ·unfold YL;rw [if_neg e2];exact q2
  ·unfold YL;rw [if_neg e1];exact q3
theorem Jc: ¬U8T (24:TypeId):=by decide
theorem QjA (h:Fs w0 w F X A ι rs) (hop:X.op=true) {p:Path} {n:Nat} (hp:A p=some (.dir n)) (s:ByteArray) (hns: ∀x∈p++ [s],Qy x) (h8:p.length≤7) (hno:A (p++ [s])=none) {kind:Nat} {x:Nd} (hx:(x= .dir 0∧kind=2)∨(x= .file []∧kind=1)) (h5:n+64≤5120) (hfi:0<X.fi) (hfb:dat (n+64)-dat n≤X.fb) {C:List Nat} (hC:Cov X C) (him:X.P.im∈C) (hbm:X.P.bm∈C) (hh:JW X C (ι p)) (h60:C.length+1+(dat (n+64)-dat n)≤60)
 {i1 i2 i3 bp bf bk:Nat} (b1:rs[i1]?=some (arr bp #[.string (Qd (p++ [s]))] 9 QZ)) (b2:rs[i2]?=some (arr bf #[.pointer (some ⟨F.fb,0,none⟩)] 24 Jc)) (b3:rs[i3]?=some (arr bk #[.int .i64 kind] 3 Jj)):
 Calls prog 116 #[.pointer (some ⟨bp,0,none⟩),.pointer (some ⟨bf,0,none⟩),.pointer (some ⟨bk,0,none⟩)] w fun e w'=>e= .returned (.int .i64 0)∧∃X' A' ι' C',Fs w0 w' F X' A' ι' rs∧Mk X X' A ι A' ι' C C' p s x n:=by
 have hs:Qy s:=hns s (by simp);have hneq:((Qd (p++ [s])).toList== [47])=false:=by
  rw [Go.Lib.toList_data,Vt];have h1:1≤s.data.size:=hs.size.1;simp only [beq_eq_false_iff_ne,ne_eq];intro e;have hl:((Qd p).data.toList++47::s.data.toList).length=1:=by rw [e];rfl
  rw [List.length_append,List.length_cons,Array.length_toList (xs:=s.data)] at hl;omega
 have HP:=hid (QbQ h hp s hns h8);have KF:Hid (∀y,Fs w0 y F X A ι rs→Calls prog 118 #[.pointer (some ⟨F.fb,0,none⟩),.int .i64 (ι p),.string s] y fun e w'=>e= .returned (.tuple #[.int .i64 0,.int .i64 4])∧Fs w0 w' F X A ι rs):=hid fun y hy=>by
  have:=QdD hy hp s hs;rw [show JG A ι (p++ [s])=none by unfold JG;rw [hno];rfl] at this;exact this
 obtain ⟨i,hz⟩:=QiQ hfi;have hi1:=Jf hz;have KM:Hid (∀y rs',At w0 y X rs'→Calls prog 119 #[.pointer (some ⟨X.sb,0,none⟩),.int .i64 kind] y fun e w'=>e= .returned (.tuple #[.int .i64 i,.int .i64 0])∧At w0 w' (X.made i kind) rs'):=hid fun y rs' hy=>
  QjN hy hop kind (by rcases hx with ⟨_,e⟩ | ⟨_,e⟩<;>simp [e]) hz (C:=(X.P.tb+i/8)::C) (hC.mono fun c hc=>List.mem_cons_of_mem _ hc) (List.mem_cons_of_mem _ him) (List.mem_cons_self ..) (by rw [List.length_cons];omega)
 have hok:=h.2;obtain ⟨b,hb⟩: ∃b,X.bytes (ι p)=b:=⟨_,rfl⟩;obtain ⟨fr,hfr⟩: ∃fr,64*Vs b=fr:=⟨_,rfl⟩;have KA:Hid (∀y rs',At w0 y X rs'→True):=hid fun _ _ _=>trivial
 have HSX:Jl X:=by
  obtain ⟨⟨_,_,ha,_⟩,_⟩:=h;exact ha.ok
 have hm:=hok.ok.made HSX hz (kind:=kind) (by rcases hx with ⟨_,e⟩ | ⟨_,e⟩<;>omega);obtain ⟨hm1,hm2,hm3,hm4,hm5,hm6,hm7,hm8⟩:=hm;obtain ⟨hl1,hl2,hl3⟩:=hok.live p _ hp;have hl3:X.nd (ι p) 1=n:=hl3;obtain ⟨hb1,hb2⟩:=hm4 (ι p) hl1;have hd:=hok.dir p n hp;have hbl:=Jr X (ι p);rw [hb] at hb1 hd hbl;have hle:=Wq hd.whole;have hpre:JJ b (Qj s)=none:=by
  have:=hok.look hp hs.nm;rw [hb] at this;rw [this];unfold JG;rw [hno];rfl
 have hS5:max n (fr+64)≤n+64:=by omega
 have KD:Hid (∀y rs',At w0 y (X.made i kind) rs'→Calls prog 120 #[.pointer (some ⟨X.sb,0,none⟩),.int .i64 (ι p),.string s,.int .i64 i] y fun e w'=>e= .returned (.int .i64 0)∧∃W N,At w0 w' W rs'∧Yp (X.made i kind) W (ι p) fr (Kn i s)∧N.length=dat (max n (fr+64))-dat n∧Cov W (((X.P.tb+i/8)::C)++N)∧∀k,k<dat (max n (fr+64))→W.nd (ι p) (2+k)∈((X.P.tb+i/8)::C)++N):=hid fun y rs' hy=>by
  have hdm:=Jt hS5;have e1:(X.made i kind).nd (ι p) 1=n:=(hb2 1 (by omega)).trans hl3;have:=QkH hy (by exact hop) hm1 (ι p) ((hm2 _).2 (.inl hl1)) ((hb2 0 (by omega)).trans hl2) b hb1 hd.whole s hs hpre i (by have:=hi1.1;have:=HSX.pl.ni.2;omega) fr (by rw [QgA hd.whole,hfr]) (by rw [e1];omega) (max n (fr+64)) (by rw [e1]) (by omega) (by rw [e1,hm7];omega) (C:=(X.P.tb+i/8)::C)
   ((hC.mono fun c hc=>List.mem_cons_of_mem _ hc).wr hm8 (by rintro t (e | e)<;>rw [e];exact List.mem_cons_of_mem _ him;exact List.mem_cons_self ..)) (List.mem_cons_of_mem _ hbm) (List.mem_cons_of_mem _ hh.1) (fun k hk=>by
     rw [e1] at hk;have hd10:dat n≤10:=Yq (by omega);rw [hb2 (2+k) (by omega)];exact List.mem_cons_of_mem _ (hh.2 k (by rw [hl3];exact hk))) (by rw [e1,List.length_cons];omega)
  rw [e1] at this;exact this
 have HFIN:Hid (∀W N,Yp (X.made i kind) W (ι p) fr (Kn i s)→N.length=dat (max n (fr+64))-dat n→Cov W (((X.P.tb+i/8)::C)++N)→(∀k,k<dat (max n (fr+64))→W.nd (ι p) (2+k)∈((X.P.tb+i/8)::C)++N)→∃A' ι' C',Rep W A' ι'∧Mk X W A ι A' ι' C C' p s x n∧∀l,ON A ι l→ON A' ι' l):=hid fun W N q1 q2 q3 q4=>by
  rw [←hfr,←hb] at q1 q2 q4;exact Mk.of hok HSX hp hs.nm hno hx hz q1 q3 hh q4 q2
 have HB:=hid (And.intro b1 (And.intro b2 b3));have KC:Hid (∀y m l,At w0 y X (fsS F X::fsL F m l::rs)→y.cell? ⟨bf,0,none⟩=some (.pointer (some ⟨F.fb,0,none⟩))∧y.cell? ⟨bk,0,none⟩=some (.int .i64 kind)∧y.cell? ⟨F.fb,2,none⟩=some (.pointer (some ⟨X.sb,0,none⟩))):=hid fun y m l hy=>
  ⟨(hy.arrCell (i:=i2+2) b2 0).trans rfl,(hy.arrCell (i:=i3+2) b3 0).trans rfl,(hy.arrCell (i:=0) rfl 2).trans rfl⟩
 have KC2:Hid (∀y m l W,Wr X W (fun _=>True)→At w0 y W (fsS F X::fsL F m l::rs)→y.cell? ⟨bf,0,none⟩=some (.pointer (some ⟨F.fb,0,none⟩))∧y.cell? ⟨bk,0,none⟩=some (.int .i64 kind)∧y.cell? ⟨F.fb,2,none⟩=some (.pointer (some ⟨X.sb,0,none⟩))):=hid fun y m l W _ hy=>
  ⟨(hy.arrCell (i:=i2+2) b2 0).trans rfl,(hy.arrCell (i:=i3+2) b3 0).trans rfl,(hy.arrCell (i:=0) rfl 2).trans rfl⟩
 have HH:=hid h;have HMW:=hid (hm8.mono (U:=fun _=>True) fun _ _=>trivial);have c1:w.cell? ⟨bp,0,none⟩=some (.string (Qd (p++ [s]))):=(h.arrCell b1 0).trans rfl;have c2:w.cell? ⟨bf,0,none⟩=some (.pointer (some ⟨F.fb,0,none⟩)):=(h.arrCell b2 0).trans rfl;clear h hop hp hns h8 hno hx h5 hfi hfb hC him hbm hh h60 b1 b2 b3 hs hok HSX hm1 hm2 hm3 hm4 hm5 hm6 hm7 hm8 hl1 hl2 hl3 hb1 hb2 hd hbl hle hpre hS5 hb hfr hz hi1 KA;generalize Qd (p++ [s])=path at*
 obtain ⟨d,hd⟩: ∃d,ι p=d:=⟨_,rfl⟩;rw [hd] at HP KF KD HFIN;clear hd;go_enter func116,ntmps116;go_wp2_with fail;refine HP.out.mono ?_;clear HP HH;rintro e w1 ⟨rfl,h1⟩;have H1:=hid (KF.out w1 h1);have c2:w1.cell? ⟨bf,0,none⟩=some (.pointer (some ⟨F.fb,0,none⟩)):=(h1.arrCell HB.out.2.1 0).trans rfl;clear h1 KF c1;go_wp2_with fail;refine H1.out.mono ?_;clear H1;rintro e w2 ⟨rfl,⟨⟨m,l,h2,hl2⟩,hr2⟩⟩;have H2:=hid h2;have H2d:=hid (h2.frm (Frm.refl NoB w2).drew);have HLD:=hid hl2;clear h2 hl2 hr2;go_upto_region 11 with fail
 go_region_held3 (fun y=>y.cell? ⟨bf,0,none⟩=some (.pointer (some ⟨F.fb,0,none⟩))∧y.cell? ⟨bk,0,none⟩=some (.int .i64 kind)∧y.cell? ⟨F.fb,2,none⟩=some (.pointer (some ⟨X.sb,0,none⟩)))
  (first | exact KC.out _ _ _ H2.out | exact KC.out _ _ _ H2d.out | exact KC2.out _ _ _ _ HMW.out h4)
  (first
   | (go_at_call 119;(with_reducible refine (KM.out _ _ H2d.out).mono ?_);rintro e w4 ⟨rfl,h4⟩))
 have H4:=hid h4;have c2:w4.cell? ⟨bf,0,none⟩=some (.pointer (some ⟨F.fb,0,none⟩)):=(KC2.out _ _ _ _ HMW.out h4).1;have c3:w4.cell? ⟨F.fb,2,none⟩=some (.pointer (some ⟨X.sb,0,none⟩)):=(KC2.out _ _ _ _ HMW.out h4).2.2;clear h4 H2 H2d KM KC KC2 HMW;go_wp2_with fail;refine (KD.out _ _ H4.out).mono ?_;clear KD H4 c2 c3;rintro e w5 ⟨rfl,W,N,h5,q1,q2,q3,q4⟩;obtain ⟨A',ι',C',r1,r2,r3⟩:=HFIN.out W N q1 q2 q3 q4;have HF:Hid (Fs w0 w5 F W A' ι' rs):=hid ⟨⟨m,l,by
  have e1:fsS F W=fsS F X:=by rw [r2.goes.wr];rfl
  rw [e1];exact h5,r3 l HLD.out⟩,r1⟩
 have HM:=hid r2;clear h5 q1 q2 q3 q4 r1 r2 r3 HFIN;go_wp2;go_ret;exact ⟨rfl,W,A',ι',C',HF.out,HM.out⟩
theorem QjI (h:At w0 w X rs):Calls prog 206 #[.pointer (some ⟨X.cb,0,none⟩)] w fun e w'=>w=w'∧e= .returned (.bool X.ov):=by
 have c2:w.cell? ⟨X.cb,2,none⟩=some (.bool X.ov):=(h.open.arrCell (i:=0) rfl 2).trans rfl;clear h;go_enter func206,ntmps206;go_wp2_with fail;go_ret;exact ⟨rfl,rfl⟩
theorem Qf1 (h:At w0 w X rs):Calls prog 163 #[.pointer (some ⟨X.cb,0,none⟩)] w fun e w'=> ∃mb,e= .returned (.map (some mb))∧Frm NoB w w':=by
 have c3:w.cell? ⟨X.cb,3,none⟩=some (.map (some X.wb)):=(h.open.arrCell (i:=0) rfl 3).trans rfl;obtain ⟨Fm,⟨es,clock,hb,_⟩,_⟩:=h.open.get (i:=1) (r:=wrt X.wb X.l) rfl;have hc:=AnyW.maps_Clone Tryz.cloneC X.wb es clock w hb;change Calls prog 241 _ _ _ at hc;have HC:=hid hc;clear h hb hc;go_enter func163,ntmps163;go_wp2_with fail;refine HC.out.mono ?_;rintro e w2 ⟨rfl,rfl⟩;have HF:=hid ((Frm.refl NoB w).alloc (.map es clock));go_wp2;go_ret;exact ⟨_,rfl,HF.out⟩
theorem FsW.cells (h:FsW w0 w F X A ι rs) (j:Nat):w.cell? ⟨F.fb,j,none⟩=(fsC F X)[j]?:=by
 obtain ⟨⟨n,l,ha⟩,_⟩:=h;exact ha.arrCell (i:=0) rfl j
theorem FsW.free (h:FsW w0 w F X A ι rs) (j:Nat):w.frozen? ⟨F.fb,j,none⟩=false:=by
 obtain ⟨⟨n,l,ha⟩,_⟩:=h;exact ha.arrFree (i:=0) rfl j
theorem Wh (h:FsW w0 w F X A ι rs):Calls prog 162 #[.pointer (some ⟨F.fb,0,none⟩)] w fun e w'=>w=w'∧e= .returned (.bool F.dead):=by
 have c0:w.cell? ⟨F.fb,0,none⟩=some (.pointer (some ⟨X.cb,0,none⟩)):=(h.cells 0).trans rfl;have c5:w.cell? ⟨F.fb,5,none⟩=some (.bool F.dead):=(h.cells 5).trans rfl;clear h;go_enter func162,ntmps162;go_wp2_with fail;go_ret;exact ⟨rfl,rfl⟩
theorem ON.none (A:Path→Option Nd) (ι:Path→Nat):ON A ι (fun _=>none):=fun d s i h=>by cases h
theorem Qao (h:FsW w0 w F X A ι rs): ∃o,(Builtin.clear_ #[106] 0 #[.map (some F.lb)]).run prog w= .ok (.tuple #[]) (setBlock w F.lb o)∧Fs w0 (setBlock w F.lb o) F X A ι rs:=by
 obtain ⟨⟨n,l,ha⟩,hr⟩:=h;obtain ⟨o,q,h2⟩:=ha.mapClear 1 rfl underlying106 0;exact ⟨o,q,⟨0,fun _=>none,h2,ON.none A ι⟩,hr⟩
theorem O9 (h:FsW w0 w F X A ι rs):Calls prog 165 #[.pointer (some ⟨F.fb,0,none⟩)] w fun e w'=>e= .returned (.tuple #[])∧Fs w0 w' F X A ι rs:=by
 have c6:w.cell? ⟨F.fb,6,none⟩=some (.map (some F.lb)):=(h.cells 6).trans rfl;obtain ⟨o,q,h2⟩:=Qao h;have H2:=hid h2;clear h h2;go_enter func165,ntmps165;go_wp2_with fail;go_end0;exact ⟨rfl,H2.out⟩
theorem QaB (h:FsW w0 w F X A ι rs) (u:FrameMode):CallsD prog 165 #[.pointer (some ⟨F.fb,0,none⟩)] u w fun e u' w'=>u'=u∧(e= .returned (.tuple #[])∧Fs w0 w' F X A ι rs):=by
 have c6:w.cell? ⟨F.fb,6,none⟩=some (.map (some F.lb)):=(h.cells 6).trans rfl;obtain ⟨o,q,h2⟩:=Qao h;have H2:=hid h2;clear h h2;go_enter_d func165,ntmps165;go_wp2_with fail;go_end0;exact ⟨rfl,H2.out⟩
theorem Vz {X Y:Sys} (hP:Y.P=X.P) (hv:Y.v=X.v) (i:Nat):Y.live i↔X.live i:=by unfold Sys.live;rw [hP,hv]
theorem Ke {X Y:Sys} (hP:Y.P=X.P) (hv:Y.v=X.v) (i:Nat):Y.nd i=X.nd i:=by unfold Sys.nd;rw [hP,hv]
theorem UO {X Y:Sys} (hP:Y.P=X.P) (hv:Y.v=X.v) (i:Nat):Y.bytes i=X.bytes i:=by unfold Sys.bytes;rw [Ke hP hv,hv]
theorem J5.congr {X Y:Sys} (h:J5 X) (hP:Y.P=X.P) (hv:Y.v=X.v):J5 Y:=by
 refine ⟨fun i hi=>?_,fun i k hi hk=>?_,fun i j k m hi hj hk hm e=>?_⟩
 ·rw [Ke hP hv];exact h.size i ((Vz hP hv i).1 hi)
 ·rw [Ke hP hv] at hk ⊢;rw [hP,hv];exact h.blk i k ((Vz hP hv i).1 hi) hk
 ·rw [Ke hP hv] at hk e;rw [Ke hP hv j] at hm e;exact h.inj i j k m ((Vz hP hv i).1 hi) ((Vz hP hv j).1 hj) hk hm e
theorem Rep.congr {X Y:Sys} {A:Path→Option Nd} {ι:Path→Nat} (h:Rep X A ι) (hP:Y.P=X.P) (hv:Y.v=X.v):Rep Y A ι:=by
 refine ⟨h.ok.congr hP hv,h.root,h.zero,fun p x hp=>?_,fun p n hp=>?_,fun p n hp a ha=>?_,fun p s hp=>?_,fun p b hp=>?_,h.inj,h.up⟩
 ·rw [Vz hP hv,Ke hP hv];exact h.live p x hp
 ·rw [UO hP hv];exact h.dir p n hp
 ·rw [UO hP hv] at ha;exact h.name p n hp a ha
 ·rw [UO hP hv];exact h.leads p s hp
 ·rw [UO hP hv];exact h.file p b hp
structure Comm (X Y:Sys):Prop where
 same:Ot X Y
 op:Y.op=false
 l:Y.l= []
 v:Y.v=X.v
 m:Y.m=X.m+1
theorem Qjn (h:FsW w0 w F X A ι rs) (hop:X.op=true) (hlim:X.D.lim=none) (hm:X.m<1000000):
 Calls prog 205 #[.pointer (some ⟨F.fb,0,none⟩)] w fun e w'=>e= .returned (.int .i64 0)∧∃Y,Fs w0 w' F Y A ι rs∧Comm X Y:=by
 have HF:=hid (O9 h);have KC:Hid (∀y,Fs w0 y F X A ι rs→Calls prog 96 #[.pointer (some ⟨X.cb,0,none⟩)] y fun e w'=>e= .returned (.int .i64 0)∧∃Y,Fs w0 w' F Y A ι rs∧Comm X Y):=hid fun y hy=>by
  obtain ⟨⟨n,l,ha,hl⟩,hr⟩:=hy;refine (Qhv ha hop hlim hm).mono ?_;rintro e w' ⟨he,Y,hs,hY,q1,q2,q3,q4⟩;have e1:fsS F Y=fsS F X:=by unfold fsS fsC;rw [hs.cb,hs.ab,hs.sb]
  exact ⟨he,Y,⟨⟨n,l,by rw [e1];exact hY,hl⟩,hr.congr hs.P q3⟩,hs,q1,q2,q3,q4⟩
 clear h hop hlim hm;go_enter func205,ntmps205;go_wp2_with fail;refine HF.out.mono ?_;rintro e w1 ⟨rfl,h1⟩;have c0:w1.cell? ⟨F.fb,0,none⟩=some (.pointer (some ⟨X.cb,0,none⟩)):=(h1.cells 0).trans rfl;have HC:=hid (KC.out w1 h1);clear h1 HF KC;go_wp2_with fail;refine HC.out.mono ?_;rintro e w2 ⟨rfl,hp⟩;have HP:=hid hp;clear hp HC;go_wp2;go_ret;exact ⟨rfl,HP.out⟩
theorem Fs.begun (h:FsW w0 w F X A ι rs) (b:Bool):FsW w0 (w.setCell ⟨F.fb,3,none⟩ (.bool b)) { F with begun:=b } X A ι rs:=by
 obtain ⟨⟨n,l,ha⟩,hr⟩:=h;exact ⟨⟨n,l,ha.setArr 0 rfl 3 (.bool b)⟩,hr⟩
def Sys.open' (X:Sys):Sys:= { X with op:=true,ov:=false }
theorem QeG (h:Fs w0 w F X A ι rs) (hop:X.op=false):
 Calls prog 90 #[.pointer (some ⟨X.cb,0,none⟩)] w fun e w'=>e= .returned (.int .i64 0)∧Fs w0 w' F X.open' A ι rs:=by
 obtain ⟨⟨n,l,ha,hl⟩,hr⟩:=h;refine (QeM ha hop).mono ?_;rintro e w' ⟨he,h1⟩;exact ⟨he,⟨n,l,h1,hl⟩,hr.congr rfl rfl⟩
theorem Qh5 (h:Fs w0 w F X A ι rs) (hb:F.begun=false) (hd:F.dead=false) (hop:X.op=false):
 Calls prog 166 #[.pointer (some ⟨F.fb,0,none⟩)] w fun e w'=>e= .returned (.int .i64 0)∧Fs w0 w' { F with begun:=true,QH:=false } X.open' A ι rs:=by
 have HG:=hid (Wh h.weak);rw [hd] at HG;have c3:w.cell? ⟨F.fb,3,none⟩=some (.bool false):=(h.cells 3).trans (by show some (Value.bool F.begun)=_;rw [hb]);have HH:=hid h;obtain ⟨ov,hov⟩: ∃ov,F.QH=ov:=⟨_,rfl⟩;have c4:(w.setCell ⟨F.fb,3,none⟩ (.bool true)).cell? ⟨F.fb,4,none⟩=some (.bool ov):=((Fs.begun h.weak true).cells 4).trans (by rw [←hov];rfl);have f3:w.frozen? ⟨F.fb,3,none⟩=false:=h.weak.free 3;have f4:(w.setCell ⟨F.fb,3,none⟩ (.bool true)).frozen? ⟨F.fb,4,none⟩=false:=(Fs.begun h.weak true).free 4;have h2:Fs w0 ((w.setCell ⟨F.fb,3,none⟩ (.bool true)).setCell ⟨F.fb,4,none⟩ (.bool false)) { F with begun:=true,QH:=false } X A ι rs:=by
  obtain ⟨⟨n,l,ha,hl⟩,hr⟩:=h;exact ⟨⟨n,l,(ha.setArr 0 rfl 3 (.bool true)).setArr 0 rfl 4 (.bool false),hl⟩,hr⟩
 have HB:=hid (QeG h2 hop);have c0:((w.setCell ⟨F.fb,3,none⟩ (.bool true)).setCell ⟨F.fb,4,none⟩ (.bool false)).cell? ⟨F.fb,0,none⟩=some (.pointer (some ⟨X.cb,0,none⟩)):=(h2.cells 0).trans rfl;clear h hb hd hop h2 hov;go_enter func166,ntmps166;go_wp2_with fail;refine HG.out.mono ?_;rintro e w1 ⟨rfl,rfl⟩;go_wp2_with fail;refine HB.out.mono ?_;rintro e w2 ⟨rfl,h2⟩;have H2:=hid h2;clear h2 HB;go_wp2;go_ret;exact ⟨rfl,H2.out⟩
theorem Qgc (h:Fs w0 w F X A ι rs) (hb:F.begun=true) (hov:F.QH=false) (hop:X.op=true) (hlim:X.D.lim=none) (hm:X.m<1000000):
 Calls prog 168 #[.pointer (some ⟨F.fb,0,none⟩)] w fun e w'=>e= .returned (.int .i64 0)∧∃Y,Fs w0 w' { F with begun:=false } Y A ι rs∧Comm X Y:=by
 have c0:w.cell? ⟨F.fb,0,none⟩=some (.pointer (some ⟨X.cb,0,none⟩)):=(h.cells 0).trans rfl;have c3:w.cell? ⟨F.fb,3,none⟩=some (.bool true):=(h.cells 3).trans (by show some (Value.bool F.begun)=_;rw [hb]);have f3:w.frozen? ⟨F.fb,3,none⟩=false:=h.weak.free 3;have h1:=Fs.begun h.weak false;have c4:(w.setCell ⟨F.fb,3,none⟩ (.bool false)).cell? ⟨F.fb,4,none⟩=some (.bool false):=(h1.cells 4).trans (by show some (Value.bool F.QH)=_;rw [hov]);have HE:=hid (Qjn h1 hop hlim hm);clear h hb hov hop hlim hm h1;go_enter func168,ntmps168;go_wp2_with fail;refine HE.out.mono ?_;rintro e w2 ⟨rfl,hp⟩;have HP:=hid hp;clear hp HE;go_wp2;go_ret;exact ⟨rfl,HP.out⟩
theorem OJ (h:Fs w0 w F X A ι rs) (hb:F.begun=true) (ho:F.QH=false) (hd:F.dead=false) (hov:X.ov=false) (fn:FuncId) (caps:Array Value) (hE:QE prog fn) {K:Sys→(Path→Option Nd)→(Path→Nat)→Prop}
 (HD: ∀y,Fs w0 y F X A ι rs→Calls prog fn caps y fun e w'=>e= .returned (.int .i64 0)∧∃X' A' ι',FsW w0 w' F X' A' ι' rs∧X'=X.wr X'.l∧K X' A' ι'):
 Calls prog 115 #[.pointer (some ⟨F.fb,0,none⟩),.func (.func fn) #[] caps] w fun e w'=>e= .returned (.int .i64 0)∧∃X' A' ι',Fs w0 w' F X' A' ι' rs∧X'=X.wr X'.l∧K X' A' ι':=by
 have HG:=hid (Wh h.weak);rw [hd] at HG;have HF:=hid (O9 h.weak);have HDD:=hid HD;have HEN:=hid hE;have KM:Hid (∀y,Fs w0 y F X A ι rs→Calls prog 163 #[.pointer (some ⟨X.cb,0,none⟩)] y fun e w'=> ∃mb,e= .returned (.map (some mb))∧Frm NoB y w'):=hid fun y hy=>by
  obtain ⟨⟨n,l,ha,hl⟩,hr⟩:=hy;exact Qf1 ha
 have KO:Hid (∀y X' A' ι',FsW w0 y F X' A' ι' rs→X'=X.wr X'.l→Calls prog 206 #[.pointer (some ⟨X.cb,0,none⟩)] y fun e w'=>y=w'∧e= .returned (.bool false)):=hid fun y X' A' ι' hy he=>by
  obtain ⟨⟨n,l,ha⟩,hr⟩:=hy;have:=QjI ha;rw [he] at this;rw [←hov];exact this
 have HBO:=hid (And.intro hb ho);clear h hb ho hd hov HD hE;go_enter_defers func115,ntmps115;go_wp2_with fail;refine HG.out.mono ?_;rintro e w1 ⟨rfl,rfl⟩;go_wp2_with fail;refine HF.out.mono ?_;rintro e w2 ⟨rfl,h2⟩;have c3:w2.cell? ⟨F.fb,3,none⟩=some (.bool true):=(h2.cells 3).trans (by show some (Value.bool F.begun)=_;rw [HBO.out.1]);have c4:w2.cell? ⟨F.fb,4,none⟩=some (.bool false):=(h2.cells 4).trans (by show some (Value.bool F.QH)=_;rw [HBO.out.2]);have c0:w2.cell? ⟨F.fb,0,none⟩=some (.pointer (some ⟨X.cb,0,none⟩)):=(h2.cells 0).trans rfl;have H2:=hid h2;have HM:=hid (KM.out w2 h2);clear h2 KM HF HG;go_wp2_with fail;refine HM.out.mono ?_;clear HM;rintro e w3 ⟨mb,rfl,hf3⟩;have HCL:=hid (HDD.out w3 (H2.out.frm hf3));clear hf3 HDD H2 c3 c4 c0;go_wp2_with fail;refine Yj HEN.out HCL.out ?_;rintro e w4 ⟨rfl,X',A',ι',h4,he,hk⟩;refine ⟨_,rfl,?_⟩;have c0:w4.cell? ⟨F.fb,0,none⟩=some (.pointer (some ⟨X.cb,0,none⟩)):=(h4.cells 0).trans (by rw [he];rfl);have HO:=hid (KO.out w4 X' A' ι' h4 he);have H4:=hid h4;have HK:=hid (And.intro he hk);clear h4 he hk KO HCL;go_wp2_with fail;refine HO.out.mono ?_;clear HO c0;rintro e w5 ⟨rfl,rfl⟩;go_wp2_with fail;refine leaves_cons (f:=165) (args:= #[.pointer (some ⟨F.fb,0,none⟩)]) (by simp) (by simp [go_sem]) ?_;refine (QaB H4.out .returning).mono ?_;rintro e u' w6 ⟨rfl,rfl,h6⟩;exact ⟨_,results_tmp rfl _ _ _,rfl,X',A',ι',h6,HK.out.1,HK.out.2⟩
theorem Qbz (h:Fs w0 w F X A ι rs) (hb:F.begun=false) (hd:F.dead=false) (hop:X.op=false) (hlim:X.D.lim=none) (hm:X.m<1000000) (fn:FuncId) (caps:Array Value) (hE:QE prog fn) {K:Sys→(Path→Option Nd)→(Path→Nat)→Prop}
 (HD: ∀y,Fs w0 y F X.open' A ι rs→Calls prog fn caps y fun e w'=>e= .returned (.int .i64 0)∧∃X' A' ι',FsW w0 w' F X' A' ι' rs∧X'=X.open'.wr X'.l∧K X' A' ι'):
 Calls prog 115 #[.pointer (some ⟨F.fb,0,none⟩),.func (.func fn) #[] caps] w fun e w'=>e= .returned (.int .i64 0)∧∃X' A' ι' Y,Fs w0 w' F Y A' ι' rs∧Comm X' Y∧X'=X.open'.wr X'.l∧K X' A' ι':=by
 have HG:=hid (Wh h.weak);rw [hd] at HG;have HF:=hid (O9 h.weak);have HDD:=hid HD;have HEN:=hid hE;have KB:Hid (∀y,Fs w0 y F X A ι rs→Calls prog 90 #[.pointer (some ⟨X.cb,0,none⟩)] y fun e w'=>e= .returned (.int .i64 0)∧Fs w0 w' F X.open' A ι rs):=hid fun y hy=>QeG hy hop
 have KE:Hid (∀y X' A' ι',FsW w0 y F X' A' ι' rs→X'=X.open'.wr X'.l→Calls prog 205 #[.pointer (some ⟨F.fb,0,none⟩)] y fun e w'=>e= .returned (.int .i64 0)∧∃Y,Fs w0 w' F Y A' ι' rs∧Comm X' Y):=hid fun y X' A' ι' hy he=>Qjn hy (by rw [he];rfl) (by rw [he];exact hlim) (by rw [he];exact hm)
 have HBO:=hid hb;clear h hb hd hop hlim hm HD hE;go_enter_defers func115,ntmps115;go_wp2_with fail;refine HG.out.mono ?_;rintro e w1 ⟨rfl,rfl⟩;go_wp2_with fail;refine HF.out.mono ?_;rintro e w2 ⟨rfl,h2⟩;have c3:w2.cell? ⟨F.fb,3,none⟩=some (.bool false):=(h2.cells 3).trans (by show some (Value.bool F.begun)=_;rw [HBO.out]);have c0:w2.cell? ⟨F.fb,0,none⟩=some (.pointer (some ⟨X.cb,0,none⟩)):=(h2.cells 0).trans rfl;have HB:=hid (KB.out w2 h2);clear h2 KB HF HG;go_wp2_with fail;refine HB.out.mono ?_;clear HB;rintro e w3 ⟨rfl,h3⟩;have HCL:=hid (HDD.out w3 h3);clear h3 HDD c3 c0;go_wp2_with fail;refine Yj HEN.out HCL.out ?_;rintro e w4 ⟨rfl,X',A',ι',h4,he,hk⟩;refine ⟨_,rfl,?_⟩;have HE:=hid (KE.out w4 X' A' ι' h4 he);have HK:=hid (And.intro he hk);clear h4 he hk KE HCL;go_wp2_with fail;refine HE.out.mono ?_;clear HE;rintro e w5 ⟨rfl,Y,h5,hc⟩;have H5:=hid h5;have HCC:=hid hc;clear h5 hc;go_wp2_with fail;refine leaves_cons (f:=165) (args:= #[.pointer (some ⟨F.fb,0,none⟩)]) (by simp) (by simp [go_sem]) ?_;refine (QaB H5.out.weak .returning).mono ?_;rintro e u' w6 ⟨rfl,rfl,h6⟩;exact ⟨_,results_tmp rfl _ _ _,rfl,X',A',ι',Y,h6,HCC.out,HK.out.1,HK.out.2⟩
theorem Qag (h:Fs w0 w F X A ι rs) (hb:F.begun=true) (ho:F.QH=false) (hd:F.dead=false) (fn:FuncId) (caps:Array Value) (hE:QE prog fn) {R:World→Prop}
 (HD: ∀y,Fs w0 y F X A ι rs→Calls prog fn caps y fun e w'=>e= .returned (.int .i64 0)∧R w'):
 Calls prog 80 #[.pointer (some ⟨F.fb,0,none⟩),.func (.func fn) #[] caps] w fun e w'=>e= .returned (.int .i64 0)∧R w':=by
 have HG:=hid (Wh h.weak);rw [hd] at HG;have HDD:=hid HD;have HEN:=hid hE;have c3:w.cell? ⟨F.fb,3,none⟩=some (.bool true):=(h.cells 3).trans (by show some (Value.bool F.begun)=_;rw [hb]);have c0:w.cell? ⟨F.fb,0,none⟩=some (.pointer (some ⟨X.cb,0,none⟩)):=(h.cells 0).trans rfl;have HM:Hid (Calls prog 163 #[.pointer (some ⟨X.cb,0,none⟩)] w fun e w'=> ∃mb,e= .returned (.map (some mb))∧Frm NoB w w'):=hid (by
  obtain ⟨⟨n,l,ha,hl⟩,hr⟩:=h;exact Qf1 ha)
 have HH:=hid h;clear h hb ho hd HD hE;go_enter func80,ntmps80;go_wp2_with fail;refine HG.out.mono ?_;rintro e w1 ⟨rfl,rfl⟩;go_wp2_with fail;refine HM.out.mono ?_;clear HM;rintro e w3 ⟨mb,rfl,hf3⟩;have HCL:=hid (HDD.out w3 (HH.out.frm hf3));clear hf3 HDD HH c3 c0;go_wp2_with fail;refine Yj HEN.out HCL.out ?_;rintro e w4 ⟨rfl,hr⟩;refine ⟨_,rfl,?_⟩;have HR:=hid hr;clear hr HCL;go_wp2;go_ret;exact ⟨rfl,HR.out⟩
theorem Uj (h:Fs w0 w F X A ι rs) (hb:F.begun=false) (hd:F.dead=false) (hop:X.op=false) (hlim:X.D.lim=none) (hm:X.m<1000000) (fn:FuncId) (caps:Array Value) (hE:QE prog fn) {K:Sys→(Path→Option Nd)→(Path→Nat)→Prop}
 (HD: ∀y,Fs w0 y { F with begun:=true,QH:=false } X.open' A ι rs→Calls prog fn caps y fun e w'=>e= .returned (.int .i64 0)∧∃X' A' ι',Fs w0 w' { F with begun:=true,QH:=false } X' A' ι' rs∧X'=X.open'.wr X'.l∧K X' A' ι'):
 Calls prog 80 #[.pointer (some ⟨F.fb,0,none⟩),.func (.func fn) #[] caps] w fun e w'=>e= .returned (.int .i64 0)∧∃X' A' ι' Y,Fs w0 w' { F with begun:=false,QH:=false } Y A' ι' rs∧Comm X' Y∧X'=X.open'.wr X'.l∧K X' A' ι':=by
 have HG:=hid (Wh h.weak);rw [hd] at HG;have HDD:=hid HD;have HEN:=hid hE;have c3:w.cell? ⟨F.fb,3,none⟩=some (.bool false):=(h.cells 3).trans (by show some (Value.bool F.begun)=_;rw [hb]);have HB:=hid (Qh5 h hb hd hop);have KE:Hid (∀y X' A' ι',Fs w0 y { F with begun:=true,QH:=false } X' A' ι' rs→X'=X.open'.wr X'.l→Calls prog 168 #[.pointer (some ⟨F.fb,0,none⟩)] y fun e w'=>e= .returned (.int .i64 0)∧∃Y,Fs w0 w' { F with begun:=false,QH:=false } Y A' ι' rs∧Comm X' Y):=hid fun y X' A' ι' hy he=>Qgc hy rfl rfl (by rw [he];rfl) (by rw [he];exact hlim) (by rw [he];exact hm)
 clear h hb hd hop hlim hm HD hE;go_enter func80,ntmps80;go_wp2_with fail;refine HG.out.mono ?_;rintro e w1 ⟨rfl,rfl⟩;go_wp2_with fail;refine HB.out.mono ?_;clear HB;rintro e w3 ⟨rfl,h3⟩;have HCL:=hid (HDD.out w3 h3);clear h3 HDD c3;go_wp2_with fail;refine Yj HEN.out HCL.out ?_;rintro e w4 ⟨rfl,X',A',ι',h4,he,hk⟩;refine ⟨_,rfl,?_⟩;have HE:=hid (KE.out w4 X' A' ι' h4 he);have HK:=hid (And.intro he hk);clear h4 he hk KE HCL;go_wp2_with fail;refine HE.out.mono ?_;clear HE;rintro e w5 ⟨rfl,Y,h5,hc⟩;have H5:=hid h5;have HCC:=hid hc;clear h5 hc;go_wp2;go_ret;exact ⟨rfl,X',A',ι',Y,H5.out,HCC.out,HK.out.1,HK.out.2⟩
theorem Qii:QE prog 116:=QJ func116 (by kernel_rfl) rfl
structure Yy (X:Sys) (A:Path→Option Nd) (ι:Path→Nat) (C:List Nat) (p:Path) (s:ByteArray) (n:Nat):Prop where
 dir:A p=some (.dir n)
 names: ∀x∈p++ [s],Qy x
 deep:p.length≤7
 no:A (p++ [s])=none
 size:n+64≤5120
 fi:0<X.fi
 fb:dat (n+64)-dat n≤X.fb
 cov:Cov X C
 im:X.P.im∈C
 bm:X.P.bm∈C
 held:JW X C (ι p)
 room:C.length+1+(dat (n+64)-dat n)≤60
theorem QaK (h:Fs w0 w F X A ι rs) (hb:F.begun=true) (ho:F.QH=false) (hd:F.dead=false) (hop:X.op=true) (hov:X.ov=false) {p:Path} {n:Nat} {s:ByteArray} {C:List Nat} (hm:Yy X A ι C p s n) {kind:Nat} {x:Nd} (hx:(x= .dir 0∧kind=2)∨(x= .file []∧kind=1)):
 Calls prog 53 #[.pointer (some ⟨F.fb,0,none⟩),.string (Qd (p++ [s])),.int .i64 kind] w fun e w'=>e= .returned (.int .i64 0)∧∃X' A' ι' C',Fs w0 w' F X' A' ι' rs∧Mk X X' A ι A' ι' C C' p s x n:=by
 have h1:=((h.newArr #[.pointer (some ⟨F.fb,0,none⟩)] 24 Jc).newArr #[.string (Qd (p++ [s]))] 9 QZ).newArr #[.int .i64 kind] 3 Jj;have HC:=hid (OJ h1 hb ho hd hov 116 #[.pointer (some ⟨_,0,none⟩),.pointer (some ⟨_,0,none⟩),.pointer (some ⟨_,0,none⟩)] Qii (K:=fun X' A' ι'=> ∃C',Mk X X' A ι A' ι' C C' p s x n) (fun y hy=>
  (QjA hy hop hm.dir s hm.names hm.deep hm.no hx hm.size hm.fi hm.fb hm.cov hm.im hm.bm hm.held hm.room (i1:=1) (i2:=2) (i3:=0) rfl rfl rfl).mono fun e w' ⟨he,X',A',ι',C',q1,q2⟩=>⟨he,X',A',ι',q1.weak,q2.goes.wr,C',q2⟩))
 have c0:=(h1.arrCell (i:=2) rfl 0).trans (show (#[Value.pointer (some ⟨F.fb,0,none⟩)]:Array Value)[0]?=some (.pointer (some ⟨F.fb,0,none⟩)) from rfl);simp only [size_alloc] at HC c0;clear h hb ho hd hop hov hm hx h1;generalize Qd (p++ [s])=path at*
 go_enter func53,ntmps53;go_wp2_with fail;refine HC.out.mono ?_;rintro e w2 ⟨rfl,X',A',ι',h2,q1,C',q2⟩;have H2:=hid (h2.drop 3);have HQ:=hid q2;clear h2 q1 q2;go_wp2;go_ret;exact ⟨rfl,X',A',ι',C',H2.out,HQ.out⟩
theorem Wc (h:Fs w0 w F X A ι rs) (hb:F.begun=true) (ho:F.QH=false) (hd:F.dead=false) (hop:X.op=true) (hov:X.ov=false) {p:Path} {n:Nat} {s:ByteArray} {C:List Nat} (hm:Yy X A ι C p s n):
 Calls prog 20 #[.pointer (some ⟨F.fb,0,none⟩),.string (Qd (p++ [s]))] w fun e w'=>e= .returned (.int .i64 0)∧∃X' A' ι' C',Fs w0 w' F X' A' ι' rs∧Mk X X' A ι A' ι' C C' p s (.dir 0) n:=by
 have HC:=hid (QaK h hb ho hd hop hov hm (kind:=2) (x:= .dir 0) (.inl ⟨rfl,rfl⟩));clear h hb ho hd hop hov hm;generalize Qd (p++ [s])=path at*
 go_enter func20,ntmps20;go_wp2_with fail;refine HC.out.mono ?_;rintro e w2 ⟨rfl,h2⟩;have H2:=hid h2;clear h2;go_wp2;go_ret;exact ⟨rfl,H2.out⟩
theorem Uy (h:Fs w0 w F X A ι rs) (hb:F.begun=true) (ho:F.QH=false) (hd:F.dead=false) (hop:X.op=true) (hov:X.ov=false) {p:Path} {n:Nat} {s:ByteArray} {C:List Nat} (hm:Yy X A ι C p s n):
 Calls prog 98 #[.pointer (some ⟨F.fb,0,none⟩),.string (Qd (p++ [s]))] w fun e w'=>e= .returned (.int .i64 0)∧∃X' A' ι' C',Fs w0 w' F X' A' ι' rs∧Mk X X' A ι A' ι' C C' p s (.file []) n:=by
 have HC:=hid (QaK h hb ho hd hop hov hm (kind:=1) (x:= .file []) (.inr ⟨rfl,rfl⟩));clear h hb ho hd hop hov hm;generalize Qd (p++ [s])=path at*
 go_enter func98,ntmps98;go_wp2_with fail;refine HC.out.mono ?_;rintro e w2 ⟨rfl,h2⟩;have H2:=hid h2;clear h2;go_wp2;go_ret;exact ⟨rfl,H2.out⟩
def Yg (b:Blk) (a:Nat) (x:Blk):Blk:=b.take a++x++b.drop (a+x.length)
theorem QaE (b:Blk) (a:Nat) (x:Blk) (h:a≤b.length):(Yg b a x).length=max b.length (a+x.length):=by
 unfold Yg;rw [List.length_append,List.length_append,List.length_take,List.length_drop];omega
theorem Over.eq {b c:Blk} {a:Nat} {x:Blk} (h:Over b c a x) (ha:a≤b.length):c=Yg b a x:=by
 apply List.ext_getElem?;intro p;by_cases hp:p<c.length
 ·rw [h.byte p hp];unfold Yg;by_cases h1:p<a
  ·rw [if_neg (by omega),List.append_assoc,List.getElem?_append_left (by rw [List.length_take];omega),List.getElem?_take,if_pos h1]
  ·by_cases h2:p<a+x.length
   ·rw [if_pos ⟨by omega,h2⟩,List.getElem?_append_left (by rw [List.length_append,List.length_take];omega),List.getElem?_append_right (by rw [List.length_take];omega),List.length_take,Nat.min_eq_left (by omega)]
   ·rw [if_neg (by omega),List.getElem?_append_right (by rw [List.length_append,List.length_take];omega),List.length_append,List.length_take,Nat.min_eq_left (by omega),List.getElem?_drop]
    congr 1
    omega
 ·rw [List.getElem?_eq_none (by omega),List.getElem?_eq_none (by rw [QaE b a x ha];have:=h.len;omega)]
structure Ed (X X':Sys) (A A':Path→Option Nd) (C C':List Nat) (ns:Path) (b c:Blk):Prop where
 tree:A'=Q4 A ns (some (.file c))
 goes:Ei X X' C C'
 fi:X'.fi=X.fi
 fb:X'.fb+dat c.length=X.fb+dat b.length
 len:C'.length≤C.length+(dat c.length-dat b.length)
theorem ON.set {l:Lds} (h:ON A ι l) {ns:Path} {x y:Nd} (hp:A ns=some x):ON (Q4 A ns (some y)) ι l:=fun d s i hi=>by
 obtain ⟨q,q1,q2,q3⟩:=h d s i hi;refine ⟨q,?_,q2,q3⟩;unfold Q4;split
 ·exact fun x=>by cases x
 ·exact q1
theorem Ed.write {W:Sys} (hr:Rep X A ι) {ns:Path} {b x:Blk} (hp:A ns=some (.file b)) {a:Nat} (ha:a≤b.length) (hw:Yp X W (ι ns) a x) {C N:List Nat} (hN:N.length=dat (max b.length (a+x.length))-dat b.length) (hcv:Cov W (C++N)) (hh:JW X C (ι ns)) (hblk: ∀k,k<dat (max b.length (a+x.length))→W.nd (ι ns) (2+k)∈C++N):
 Rep W (Q4 A ns (some (.file (Yg b a x)))) ι∧Ed X W A (Q4 A ns (some (.file (Yg b a x)))) C (C++N) ns b (Yg b a x):=by
 obtain ⟨hl1,hl2,hl3⟩:=hr.live ns _ hp;have hl3:X.nd (ι ns) 1=b.length:=hl3;have hb:=hr.file ns b hp;have hov:=hw.QH (by rw [hl3];exact ha);rw [hb] at hov;have hc:=hov.eq ha;have hlen:=QaE b a x ha;have hS:W.nd (ι ns) 1=max b.length (a+x.length):=by rw [hw.size,hl3]
 have hPW:=hw.wr.P;refine ⟨hr.edit hp hw.ok hw.live hw.oth hw.kind (by rw [hS,hlen]) hc,rfl,⟨hw.wr.eq,hcv,fun c hc=>List.mem_append_left _ hc,fun j hj hhj=>?_,fun j hj=>(hw.live j).2 hj⟩,Qbw hPW hw.live,?_,?_⟩
 ·by_cases e:j=ι ns
  ·subst e;exact ⟨by rw [hPW];exact List.mem_append_left _ hh.1,fun k hk=>hblk k (by rw [hS] at hk;exact hk)⟩
  ·exact (hhj.same hPW (hr.ok.size j hj) (hw.oth j hj e).2).mono fun c hc=>List.mem_append_left _ hc
 ·have hf:=hw.free;rw [hS,hl3] at hf;rw [hlen];have:=Jt (Nat.le_max_left b.length (a+x.length));omega
 ·rw [List.length_append,hN,hlen];omega
theorem Ed.cut {W:Sys} (hr:Rep X A ι) (hX:Jl X) {ns:Path} {b:Blk} (hp:A ns=some (.file b)) {S:Nat} (hS:S≤b.length) (hw:Qa0 X W (ι ns) S) {C:List Nat} (hC:Cov X C) (hbm:X.P.bm∈C) (hh:JW X C (ι ns)):
 Rep W (Q4 A ns (some (.file (b.take S)))) ι∧Ed X W A (Q4 A ns (some (.file (b.take S)))) C C ns b (b.take S):=by
 obtain ⟨hl1,hl2,hl3⟩:=hr.live ns _ hp;have hl3:X.nd (ι ns) 1=b.length:=hl3;have hb:=hr.file ns b hp;have hPW:=hw.wr.P;have hlen:(b.take S).length=S:=by rw [List.length_take];omega
 have hc:W.bytes (ι ns)=b.take S:=by
  apply List.ext_getElem?;intro p;by_cases h:p<S
  ·rw [UN W _ p (by rw [hw.size];exact h),List.getElem?_take,if_pos h,←hb,UN X _ p (by rw [hl3];omega),hw.byte p h]
  ·rw [List.getElem?_eq_none (by rw [Jr,hw.size];omega),List.getElem?_eq_none (by rw [hlen];omega)]
 refine ⟨hr.edit hp hw.ok hw.live hw.oth hw.kind (by rw [hw.size,hlen]) hc,rfl,⟨hw.wr.eq,hC.wr hw.wr (by rintro t (e | e)<;>rw [e];exact hbm;exact hh.1),fun c hc=>hc,fun j hj hhj=>?_,fun j hj=>(hw.live j).2 hj⟩,Qbw hPW hw.live,?_,?_⟩
 ·by_cases e:j=ι ns
  ·subst e;refine ⟨by rw [hPW];exact hh.1,fun k hk=>?_⟩;rw [hw.size] at hk;rw [hw.blk k hk];exact hh.2 k (by rw [hl3];have:=Jt hS;omega)
  ·exact hhj.same hPW (hr.ok.size j hj) (hw.oth j hj e).2
 ·have hf:=hw.free;rw [hl3] at hf;rw [hlen];have:=Jt hS;omega
 ·omega
theorem QeN: ¬U8T (76:TypeId):=by decide
theorem Qjt: ¬U8T (278:TypeId):=by decide
theorem QhM:QE prog 252:=QJ func252 (by kernel_rfl) rfl
theorem Qfx:QE prog 259:=QJ func259 (by kernel_rfl) rfl
theorem QdZ:QE prog 189:=QJ func189 (by kernel_rfl) rfl
theorem Qfe:QE prog 235:=QJ func235 (by kernel_rfl) rfl
structure OU (X:Sys) (A:Path→Option Nd) (ι:Path→Nat) (C:List Nat) (ns:Path) (b:Blk) (a:Nat) (x:Blk):Prop where
 file:A ns=some (.file b)
 at':a≤b.length
 size:max b.length (a+x.length)≤5120
 fb:dat (max b.length (a+x.length))-dat b.length≤X.fb
 cov:Cov X C
 bm:X.P.bm∈C
 held:JW X C (ι ns)
 room:C.length+(dat (max b.length (a+x.length))-dat b.length)≤60
theorem Qeo (h:Fs w0 w F X A ι rs) (hop:X.op=true) {ns:Path} {b x:Blk} {a:Nat} {C:List Nat} (hm:OU X A ι C ns b a x) {ai bb bo vc:Nat} (hv:rs[ai]?=some (byt (.slice (some ⟨bb,bo,none⟩) x.length vc) x)):
 Calls prog 190 #[.pointer (some ⟨X.sb,0,none⟩),.int .i64 (ι ns),.int .i64 a,.slice (some ⟨bb,bo,none⟩) x.length vc] w fun e w'=>e= .returned (.int .i64 0)∧∃W A' C',Fs w0 w' F W A' ι rs∧Ed X W A A' C C' ns b (Yg b a x):=by
 obtain ⟨⟨n,l,ha,hl⟩,hr⟩:=h;obtain ⟨hl1,hl2,hl3⟩:=hr.live ns _ hm.file;have hl3:X.nd (ι ns) 1=b.length:=hl3;have:=Qbl ha hop hr.ok (ι ns) hl1 a (by rw [hl3];exact hm.at') (ai+2) (b:=x) (bb:=bb) (bo:=bo) (vc:=vc) hv (max b.length (a+x.length)) (by rw [hl3]) hm.size (by rw [hl3];exact hm.fb) hm.cov hm.bm hm.held.1 hm.held.2 (by rw [hl3];exact hm.room);refine this.mono ?_;rintro e w' ⟨he,W,N,h1,h2,h3,h4,h5⟩;rw [hl3] at h3;obtain ⟨r1,r2⟩:=Ed.write hr hm.file hm.at' h2 h3 h4 hm.held h5;have e1:fsS F W=fsS F X:=by rw [r2.goes.wr];rfl
 exact ⟨he,W,_,_,⟨⟨n,l,by rw [e1];exact h1,hl.set hm.file⟩,r1⟩,r2⟩
theorem Qdo (h:Fs w0 w F X A ι rs) (hop:X.op=true) {ns:Path} {b:Blk} (hp:A ns=some (.file b)) {S:Nat} (hS:S≤b.length) {C:List Nat} (hC:Cov X C) (hbm:X.P.bm∈C) (hh:JW X C (ι ns)) (h60:C.length≤60):
 Calls prog 236 #[.pointer (some ⟨X.sb,0,none⟩),.int .i64 (ι ns),.int .i64 S] w fun e w'=>e= .returned (.int .i64 0)∧∃W A' C',Fs w0 w' F W A' ι rs∧Ed X W A A' C C' ns b (b.take S):=by
 obtain ⟨⟨n,l,ha,hl⟩,hr⟩:=h;obtain ⟨hl1,hl2,hl3⟩:=hr.live ns _ hp;have hl3:X.nd (ι ns) 1=b.length:=hl3;refine (Qd4 ha hop hr.ok (ι ns) hl1 S (by rw [hl3];exact hS) hC hbm hh.1 h60).mono ?_;rintro e w' ⟨he,W,h1,h2⟩;obtain ⟨r1,r2⟩:=Ed.cut hr ha.ok hp hS h2 hC hbm hh;have e1:fsS F W=fsS F X:=by rw [r2.goes.wr];rfl
 exact ⟨he,W,_,_,⟨⟨n,l,by rw [e1];exact h1,hl.set hp⟩,r1⟩,r2⟩
theorem QjY (h:Fs w0 w F X A ι rs) {ns:Path} (h0:ns≠ []) (hns: ∀x∈ns,Qy x) (h8:ns.length≤8) {b:Blk} (hp:A ns=some (.file b)) (fn:FuncId) (caps:Array Value) (hE:QE prog fn) {R:World→Prop}
 {i1 i2 i3 bf bp bd:Nat} (b1:rs[i1]?=some (arr bf #[.pointer (some ⟨F.fb,0,none⟩)] 24 Jc)) (b2:rs[i2]?=some (arr bp #[.string (Qd ns)] 9 QZ)) (b3:rs[i3]?=some (arr bd #[.func (.func fn) #[] caps] 278 Qjt))
 (HD: ∀y g,Fs w0 y F X A ι (arr g #[.int .i64 1,.int .i64 b.length] 82 J9::rs)→Calls prog fn (#[.int .i64 (ι ns),.agg #[.int .i64 1,.int .i64 b.length]]++caps) y fun e w'=>e= .returned (.int .i64 0)∧R w'):
 Calls prog 252 #[.pointer (some ⟨bf,0,none⟩),.pointer (some ⟨bp,0,none⟩),.pointer (some ⟨bd,0,none⟩)] w fun e w'=>e= .returned (.int .i64 0)∧R w':=by
 have hpre:=h.2.pre (p:=ns) (by rw [hp];exact fun x=>by cases x);have HL:=hid (QcX h ns h0 hns h8 (fun k hk _=>hpre (ns.length-k) k (by omega) (by omega)) (fun m e=>by rw [hp] at e;cases e));have hlr:Yu A ι ns= .tuple #[.int .i64 (ι ns),.agg #[.int .i64 1,.int .i64 b.length],.int .i64 0]:=by unfold Yu;rw [hp];rfl
 rw [hlr] at HL;have c1:w.cell? ⟨bf,0,none⟩=some (.pointer (some ⟨F.fb,0,none⟩)):=(h.arrCell b1 0).trans rfl;have c2:w.cell? ⟨bp,0,none⟩=some (.string (Qd ns)):=(h.arrCell b2 0).trans rfl;have KC:Hid (∀y r,Fs w0 y F X A ι (r::rs)→y.cell? ⟨bd,0,none⟩=some (.func (.func fn) #[] caps)):=hid fun y r hy=>(hy.arrCell (i:=i3+1) b3 0).trans rfl
 have HDD:=hid HD;have HEN:=hid hE;clear h h0 hns h8 hp hE b1 b2 b3 HD hpre hlr;generalize Qd ns=path at*
 generalize ι ns=d at*
 obtain ⟨n,hn⟩: ∃n,b.length=n:=⟨_,rfl⟩;rw [hn] at HL HDD;clear hn;go_enter func252,ntmps252;go_wp2_with fail;refine HL.out.mono ?_;clear HL c1 c2;rintro e w1 ⟨rfl,h1⟩;have H1:=hid (h1.newArr #[.int .i64 1,.int .i64 n] 82 J9);clear h1;go_upto_region 2 with (refine Qg rfl _ _ JL rfl ?_)
 obtain ⟨y1,hy1,h1⟩:=H1.out.name;rw [hy1];generalize w1.heap.size=g at*
 have cd:=KC.out _ _ h1;have HB:=hid (h1.block (i:=0) rfl);have HCL:=hid (HDD.out y1 g h1);clear hy1 H1 h1 HDD KC;go_wp2_with (refine Qek rfl _ rfl g rfl 1 n HB.out ?_);refine Yj HEN.out HCL.out ?_;rintro e w4 ⟨rfl,hr⟩;refine ⟨_,rfl,?_⟩;have HR:=hid hr;clear hr HCL;go_wp2;go_ret;exact ⟨rfl,HR.out⟩
theorem QhO {R:World→Prop} {d a:Nat} {st:Value} {v:Value} (h:Fs w0 w F X A ι rs) {i1 i2 i3 bf ba bb:Nat} (b1:rs[i1]?=some (arr bf #[.pointer (some ⟨F.fb,0,none⟩)] 24 Jc)) (b2:rs[i2]?=some (arr ba #[.int .i64 a] 3 Jj)) (b3:rs[i3]?=some (arr bb #[v] 76 QeN)) {k s:Nat} (hst:st= .agg #[.int .i64 k,.int .i64 s])
 (KW: ∀y rs',Fs w0 y F X A ι (rs'++rs)→Calls prog 190 #[.pointer (some ⟨X.sb,0,none⟩),.int .i64 d,.int .i64 a,v] y fun e w'=>e= .returned (.int .i64 0)∧∃W A',Fs w0 w' F W A' ι (rs'++rs)∧W=X.wr W.l∧(Fs w0 w' F W A' ι (rs'++rs)→R w')):
 Calls prog 259 #[.int .i64 d,st,.pointer (some ⟨bf,0,none⟩),.pointer (some ⟨ba,0,none⟩),.pointer (some ⟨bb,0,none⟩)] w fun e w'=>e= .returned (.int .i64 0)∧R w':=by
 subst hst;have h1:=h.newArr #[.int .i64 k,.int .i64 s] 82 J9;have KC:Hid (∀y W A' rs',Fs w0 y F W A' ι (rs'++rs)→W=X.wr W.l→y.cell? ⟨bf,0,none⟩=some (.pointer (some ⟨F.fb,0,none⟩))∧y.cell? ⟨ba,0,none⟩=some (.int .i64 a)∧y.cell? ⟨bb,0,none⟩=some v∧y.cell? ⟨F.fb,2,none⟩=some (.pointer (some ⟨X.sb,0,none⟩))):=hid fun y W A' rs' hy hW=>by
  have hsub:=hy.sub (List.sublist_append_right rs' rs);exact ⟨(hsub.arrCell b1 0).trans rfl,(hsub.arrCell b2 0).trans rfl,(hsub.arrCell b3 0).trans rfl,(hy.cells 2).trans (by rw [hW];rfl)⟩
 have H1:=hid h1;have HKW:=hid KW;clear h b1 b2 b3 KW h1;go_enter func259,ntmps259;go_upto_region 1 with (refine Qg rfl _ _ JL rfl ?_)
 obtain ⟨y1,hy1,h2⟩:=H1.out.name;rw [hy1];have h2d:=h2.frm (Frm.refl NoB y1).drew;have HW:=hid (HKW.out y1.drew [_] h2d);have H2:=hid h2;have H2d:=hid h2d;clear hy1 H1 h2 h2d HKW;go_region_held3 (fun y=>y.cell? ⟨bf,0,none⟩=some (.pointer (some ⟨F.fb,0,none⟩))∧y.cell? ⟨ba,0,none⟩=some (.int .i64 a)∧y.cell? ⟨bb,0,none⟩=some v∧y.cell? ⟨F.fb,2,none⟩=some (.pointer (some ⟨X.sb,0,none⟩)))
  (first | exact KC.out _ _ _ [_] H2.out rfl | exact KC.out _ _ _ [_] H2d.out rfl | exact KC.out _ _ _ [_] h4 hW4)
  (first
   | (go_at_call 190;(with_reducible refine HW.out.mono ?_);rintro e w4 ⟨rfl,W4,A4,h4,hW4,hR4⟩))
 have HR:=hid (hR4 h4);clear h4 hW4 hR4 HW H2 H2d KC;go_wp2;go_ret;exact ⟨rfl,HR.out⟩
theorem QhG {R:World→Prop} {d:Nat} {v:Value} (h:Fs w0 w F X A ι rs) {i1 i3 bf bb:Nat} (b1:rs[i1]?=some (arr bf #[.pointer (some ⟨F.fb,0,none⟩)] 24 Jc)) (b3:rs[i3]?=some (arr bb #[v] 76 QeN)) {k s:Nat}
 (KW: ∀y rs',Fs w0 y F X A ι (rs'++rs)→Calls prog 190 #[.pointer (some ⟨X.sb,0,none⟩),.int .i64 d,.int .i64 s,v] y fun e w'=>e= .returned (.int .i64 0)∧∃W A',Fs w0 w' F W A' ι (rs'++rs)∧W=X.wr W.l∧(Fs w0 w' F W A' ι (rs'++rs)→R w')):
 Calls prog 189 #[.int .i64 d,.agg #[.int .i64 k,.int .i64 s],.pointer (some ⟨bf,0,none⟩),.pointer (some ⟨bb,0,none⟩)] w fun e w'=>e= .returned (.int .i64 0)∧R w':=by
 have h1:=h.newArr #[.int .i64 k,.int .i64 s] 82 J9;have KC:Hid (∀y W A' g,Fs w0 y F W A' ι (arr g #[.int .i64 k,.int .i64 s] 82 J9::rs)→W=X.wr W.l→y.cell? ⟨bf,0,none⟩=some (.pointer (some ⟨F.fb,0,none⟩))∧y.cell? ⟨g,1,none⟩=some (.int .i64 s)∧y.cell? ⟨bb,0,none⟩=some v∧y.cell? ⟨F.fb,2,none⟩=some (.pointer (some ⟨X.sb,0,none⟩))):=hid fun y W A' g hy hW=>by
  have hsub:=hy.drop 1;exact ⟨(hsub.arrCell b1 0).trans rfl,(hy.arrCell (i:=0) rfl 1).trans rfl,(hsub.arrCell b3 0).trans rfl,(hy.cells 2).trans (by rw [hW];rfl)⟩
 have H1:=hid h1;have HKW:=hid KW;clear h b1 b3 KW h1;go_enter func189,ntmps189;go_upto_region 1 with (refine Qg rfl _ _ JL rfl ?_)
 obtain ⟨y1,hy1,h2⟩:=H1.out.name;rw [hy1];generalize w.heap.size=g at*
 have h2d:=h2.frm (Frm.refl NoB y1).drew;have HW:=hid (HKW.out y1.drew [_] h2d);have H2:=hid h2;have H2d:=hid h2d;clear hy1 H1 h2 h2d HKW;go_region_held3 (fun y=>y.cell? ⟨bf,0,none⟩=some (.pointer (some ⟨F.fb,0,none⟩))∧y.cell? ⟨g,1,none⟩=some (.int .i64 s)∧y.cell? ⟨bb,0,none⟩=some v∧y.cell? ⟨F.fb,2,none⟩=some (.pointer (some ⟨X.sb,0,none⟩)))
  (first | exact KC.out _ _ _ _ H2.out rfl | exact KC.out _ _ _ _ H2d.out rfl | exact KC.out _ _ _ _ h4 hW4)
  (first
   | (go_at_call 190;(with_reducible refine HW.out.mono ?_);rintro e w4 ⟨rfl,W4,A4,h4,hW4,hR4⟩))
 have HR:=hid (hR4 h4);clear h4 hW4 hR4 HW H2 H2d KC;go_wp2;go_ret;exact ⟨rfl,HR.out⟩
theorem Qdp {R:World→Prop} {d S:Nat} (h:Fs w0 w F X A ι rs) {i1 i2 bf ba:Nat} (b1:rs[i1]?=some (arr bf #[.pointer (some ⟨F.fb,0,none⟩)] 24 Jc)) (b2:rs[i2]?=some (arr ba #[.int .i64 S] 3 Jj)) {k s:Nat}
 (KW: ∀y rs',Fs w0 y F X A ι (rs'++rs)→Calls prog 236 #[.pointer (some ⟨X.sb,0,none⟩),.int .i64 d,.int .i64 S] y fun e w'=>e= .returned (.int .i64 0)∧∃W A',Fs w0 w' F W A' ι (rs'++rs)∧W=X.wr W.l∧(Fs w0 w' F W A' ι (rs'++rs)→R w')):
 Calls prog 235 #[.int .i64 d,.agg #[.int .i64 k,.int .i64 s],.pointer (some ⟨bf,0,none⟩),.pointer (some ⟨ba,0,none⟩)] w fun e w'=>e= .returned (.int .i64 0)∧R w':=by
 have h1:=h.newArr #[.int .i64 k,.int .i64 s] 82 J9;have KC:Hid (∀y W A' g,Fs w0 y F W A' ι (arr g #[.int .i64 k,.int .i64 s] 82 J9::rs)→W=X.wr W.l→y.cell? ⟨bf,0,none⟩=some (.pointer (some ⟨F.fb,0,none⟩))∧y.cell? ⟨ba,0,none⟩=some (.int .i64 S)∧y.cell? ⟨F.fb,2,none⟩=some (.pointer (some ⟨X.sb,0,none⟩))):=hid fun y W A' g hy hW=>by
  have hsub:=hy.drop 1;exact ⟨(hsub.arrCell b1 0).trans rfl,(hsub.arrCell b2 0).trans rfl,(hy.cells 2).trans (by rw [hW];rfl)⟩
 have H1:=hid h1;have HKW:=hid KW;clear h b1 b2 KW h1;go_enter func235,ntmps235;go_upto_region 1 with (refine Qg rfl _ _ JL rfl ?_)
 obtain ⟨y1,hy1,h2⟩:=H1.out.name;rw [hy1];generalize w.heap.size=g at*
 have h2d:=h2.frm (Frm.refl NoB y1).drew;have HW:=hid (HKW.out y1.drew [_] h2d);have H2:=hid h2;have H2d:=hid h2d;clear hy1 H1 h2 h2d HKW;go_region_held3 (fun y=>y.cell? ⟨bf,0,none⟩=some (.pointer (some ⟨F.fb,0,none⟩))∧y.cell? ⟨ba,0,none⟩=some (.int .i64 S)∧y.cell? ⟨F.fb,2,none⟩=some (.pointer (some ⟨X.sb,0,none⟩)))
  (first | exact KC.out _ _ _ _ H2.out rfl | exact KC.out _ _ _ _ H2d.out rfl | exact KC.out _ _ _ _ h4 hW4)
  (first
   | (go_at_call 236;(with_reducible refine HW.out.mono ?_);rintro e w4 ⟨rfl,W4,A4,h4,hW4,hR4⟩))
 have HR:=hid (hR4 h4);clear h4 hW4 hR4 HW H2 H2d KC;go_wp2;go_ret;exact ⟨rfl,HR.out⟩
theorem E7 (h:Fs w0 w F X A ι rs) (hb:F.begun=true) (ho:F.QH=false) (hd:F.dead=false) (hov:X.ov=false) {ns:Path} (h0:ns≠ []) (hns: ∀x∈ns,Qy x) (h8:ns.length≤8) {b:Blk} (hp:A ns=some (.file b)) (fn:FuncId) (caps:Array Value) (hE:QE prog fn) {K:Sys→(Path→Option Nd)→Prop}
 (HD: ∀y rs',Fs w0 y F X A ι (rs'++rs)→Calls prog fn (#[.int .i64 (ι ns),.agg #[.int .i64 1,.int .i64 b.length]]++caps) y fun e w'=>e= .returned (.int .i64 0)∧∃W A',Fs w0 w' F W A' ι (rs'++rs)∧W=X.wr W.l∧K W A'):
 Calls prog 188 #[.pointer (some ⟨F.fb,0,none⟩),.string (Qd ns),.func (.func fn) #[] caps] w fun e w'=>e= .returned (.int .i64 0)∧∃W A',Fs w0 w' F W A' ι rs∧W=X.wr W.l∧K W A':=by
 have h1:=((h.newArr #[.pointer (some ⟨F.fb,0,none⟩)] 24 Jc).newArr #[.string (Qd ns)] 9 QZ).newArr #[.func (.func fn) #[] caps] 278 Qjt;have HC:=hid (OJ h1 hb ho hd hov 252 #[.pointer (some ⟨_,0,none⟩),.pointer (some ⟨_,0,none⟩),.pointer (some ⟨_,0,none⟩)] QhM (K:=fun W A' ι'=>ι'=ι∧K W A') (fun y hy=>
  QjY hy h0 hns h8 hp fn caps hE (i1:=2) (i2:=1) (i3:=0) rfl rfl rfl (fun z g hz=>
   (HD z [_,_,_,_] hz).mono fun e w' ⟨he,W,A',q1,q2,q3⟩=>⟨he,W,A',ι,(q1.drop 1).weak,q2,rfl,q3⟩)))
 have c0:=(h1.arrCell (i:=2) rfl 0).trans (show (#[Value.pointer (some ⟨F.fb,0,none⟩)]:Array Value)[0]?=some (.pointer (some ⟨F.fb,0,none⟩)) from rfl);simp only [size_alloc] at HC c0;clear h hb ho hd hov h0 hns h8 hp hE HD h1;generalize Qd ns=path at*
 go_enter func188,ntmps188;go_wp2_with fail;refine HC.out.mono ?_;rintro e w2 ⟨rfl,W,A',ι',h2,q1,rfl,q2⟩;have H2:=hid (h2.drop 3);have HQ:=hid (And.intro q1 q2);clear h2 q1 q2;go_wp2;go_ret;exact ⟨rfl,W,A',H2.out,HQ.out.1,HQ.out.2⟩
theorem Qdf (h:Fs w0 w F X A ι rs) (hb:F.begun=true) (ho:F.QH=false) (hd:F.dead=false) (hop:X.op=true) (hov:X.ov=false) {ns:Path} (h0:ns≠ []) (hns: ∀x∈ns,Qy x) (h8:ns.length≤8) {b x:Blk} {a:Nat} {C:List Nat} (hm:OU X A ι C ns b a x) {ai bb bo vc:Nat} (hv:rs[ai]?=some (byt (.slice (some ⟨bb,bo,none⟩) x.length vc) x)):
 Calls prog 194 #[.pointer (some ⟨F.fb,0,none⟩),.string (Qd ns),.int .i64 a,.slice (some ⟨bb,bo,none⟩) x.length vc] w fun e w'=>e= .returned (.int .i64 0)∧∃W A' C',Fs w0 w' F W A' ι rs∧Ed X W A A' C C' ns b (Yg b a x):=by
 have h1:=((h.newArr #[.pointer (some ⟨F.fb,0,none⟩)] 24 Jc).newArr #[.int .i64 a] 3 Jj).newArr #[.slice (some ⟨bb,bo,none⟩) x.length vc] 76 QeN;have HC:=hid (E7 h1 hb ho hd hov h0 hns h8 hm.file 259 #[.pointer (some ⟨_,0,none⟩),.pointer (some ⟨_,0,none⟩),.pointer (some ⟨_,0,none⟩)] Qfx (K:=fun W A'=> ∃C',Ed X W A A' C C' ns b (Yg b a x)) (fun y rs' hy=>
  QhO hy (i1:=rs'.length+2) (i2:=rs'.length+1) (i3:=rs'.length+0) (by rw [List.getElem?_append_right (by omega),Nat.add_sub_cancel_left];rfl) (by rw [List.getElem?_append_right (by omega),Nat.add_sub_cancel_left];rfl) (by rw [List.getElem?_append_right (by omega),Nat.add_sub_cancel_left];rfl) rfl (fun z rs2 hz=>
   (Qeo hz hop hm (ai:=rs2.length+(rs'.length+(3+ai))) (by
    rw [List.getElem?_append_right (by omega),Nat.add_sub_cancel_left,List.getElem?_append_right (by omega),Nat.add_sub_cancel_left,Nat.add_comm 3 ai];exact hv)).mono fun e w' ⟨he,W,A',C',q1,q2⟩=>⟨he,W,A',q1,q2.goes.wr,fun hh=>⟨W,A',hh.sub (List.sublist_append_right rs2 _),q2.goes.wr,C',q2⟩⟩)))
 have c0:=(h1.arrCell (i:=2) rfl 0).trans (show (#[Value.pointer (some ⟨F.fb,0,none⟩)]:Array Value)[0]?=some (.pointer (some ⟨F.fb,0,none⟩)) from rfl);simp only [size_alloc] at HC c0;clear h hb ho hd hop hov h0 hns h8 hm hv h1;generalize Qd ns=path at*
 obtain ⟨n,hn⟩: ∃n,x.length=n:=⟨_,rfl⟩;rw [hn] at HC ⊢;clear hn;go_enter func194,ntmps194;go_wp2_with fail;refine HC.out.mono ?_;rintro e w2 ⟨rfl,W,A',h2,q1,C',q2⟩;have H2:=hid (h2.drop 3);have HQ:=hid q2;clear h2 q1 q2;go_wp2;go_ret;exact ⟨rfl,W,A',C',H2.out,HQ.out⟩
theorem QfT (b x:Blk):Yg b b.length x=b++x:=by
 unfold Yg;rw [List.take_length,List.drop_of_length_le (by omega),List.append_nil]
theorem QbO (h:Fs w0 w F X A ι rs) (hb:F.begun=true) (ho:F.QH=false) (hd:F.dead=false) (hop:X.op=true) (hov:X.ov=false) {ns:Path} (h0:ns≠ []) (hns: ∀x∈ns,Qy x) (h8:ns.length≤8) {b x:Blk} {C:List Nat} (hm:OU X A ι C ns b b.length x) {ai bb bo vc:Nat} (hv:rs[ai]?=some (byt (.slice (some ⟨bb,bo,none⟩) x.length vc) x)):
 Calls prog 99 #[.pointer (some ⟨F.fb,0,none⟩),.string (Qd ns),.slice (some ⟨bb,bo,none⟩) x.length vc] w fun e w'=>e= .returned (.int .i64 0)∧∃W A' C',Fs w0 w' F W A' ι rs∧Ed X W A A' C C' ns b (b++x):=by
 have h1:=(h.newArr #[.pointer (some ⟨F.fb,0,none⟩)] 24 Jc).newArr #[.slice (some ⟨bb,bo,none⟩) x.length vc] 76 QeN;have HC:=hid (E7 h1 hb ho hd hov h0 hns h8 hm.file 189 #[.pointer (some ⟨_,0,none⟩),.pointer (some ⟨_,0,none⟩)] QdZ (K:=fun W A'=> ∃C',Ed X W A A' C C' ns b (b++x)) (fun y rs' hy=>
  QhG hy (i1:=rs'.length+1) (i3:=rs'.length+0) (by rw [List.getElem?_append_right (by omega),Nat.add_sub_cancel_left];rfl) (by rw [List.getElem?_append_right (by omega),Nat.add_sub_cancel_left];rfl) (fun z rs2 hz=>
   (Qeo hz hop hm (ai:=rs2.length+(rs'.length+(2+ai))) (by
    rw [List.getElem?_append_right (by omega),Nat.add_sub_cancel_left,List.getElem?_append_right (by omega),Nat.add_sub_cancel_left,Nat.add_comm 2 ai];exact hv)).mono fun e w' ⟨he,W,A',C',q1,q2⟩=>⟨he,W,A',q1,q2.goes.wr,fun hh=>⟨W,A',hh.sub (List.sublist_append_right rs2 _),q2.goes.wr,C',QfT b x▸q2⟩⟩)))
 have c0:=(h1.arrCell (i:=1) rfl 0).trans (show (#[Value.pointer (some ⟨F.fb,0,none⟩)]:Array Value)[0]?=some (.pointer (some ⟨F.fb,0,none⟩)) from rfl);simp only [size_alloc] at HC c0;clear h hb ho hd hop hov h0 hns h8 hm hv h1;generalize Qd ns=path at*
 obtain ⟨n,hn⟩: ∃n,x.length=n:=⟨_,rfl⟩;rw [hn] at HC ⊢;clear hn;go_enter func99,ntmps99;go_wp2_with fail;refine HC.out.mono ?_;rintro e w2 ⟨rfl,W,A',h2,q1,C',q2⟩;have H2:=hid (h2.drop 2);have HQ:=hid q2;clear h2 q1 q2;go_wp2;go_ret;exact ⟨rfl,W,A',C',H2.out,HQ.out⟩
theorem Qac (h:Fs w0 w F X A ι rs) (hb:F.begun=true) (ho:F.QH=false) (hd:F.dead=false) (hop:X.op=true) (hov:X.ov=false) {ns:Path} (h0:ns≠ []) (hns: ∀x∈ns,Qy x) (h8:ns.length≤8) {b:Blk} (hp:A ns=some (.file b)) {S:Nat} (hS:S≤b.length) {C:List Nat} (hC:Cov X C) (hbm:X.P.bm∈C) (hh:JW X C (ι ns)) (h60:C.length≤60):
 Calls prog 158 #[.pointer (some ⟨F.fb,0,none⟩),.string (Qd ns),.int .i64 S] w fun e w'=>e= .returned (.int .i64 0)∧∃W A' C',Fs w0 w' F W A' ι rs∧Ed X W A A' C C' ns b (b.take S):=by
 have h1:=(h.newArr #[.pointer (some ⟨F.fb,0,none⟩)] 24 Jc).newArr #[.int .i64 S] 3 Jj;have HC:=hid (E7 h1 hb ho hd hov h0 hns h8 hp 235 #[.pointer (some ⟨_,0,none⟩),.pointer (some ⟨_,0,none⟩)] Qfe (K:=fun W A'=> ∃C',Ed X W A A' C C' ns b (b.take S)) (fun y rs' hy=>
  Qdp hy (i1:=rs'.length+1) (i2:=rs'.length+0) (by rw [List.getElem?_append_right (by omega),Nat.add_sub_cancel_left];rfl) (by rw [List.getElem?_append_right (by omega),Nat.add_sub_cancel_left];rfl) (fun z rs2 hz=>
   (Qdo hz hop hp hS hC hbm hh h60).mono fun e w' ⟨he,W,A',C',q1,q2⟩=>⟨he,W,A',q1,q2.goes.wr,fun hh=>⟨W,A',hh.sub (List.sublist_append_right rs2 _),q2.goes.wr,C',q2⟩⟩)))
 have c0:=(h1.arrCell (i:=1) rfl 0).trans (show (#[Value.pointer (some ⟨F.fb,0,none⟩)]:Array Value)[0]?=some (.pointer (some ⟨F.fb,0,none⟩)) from rfl);simp only [size_alloc] at HC c0;clear h hb ho hd hop hov h0 hns h8 hp hS hC hbm hh h60 h1;generalize Qd ns=path at*
 go_enter func158,ntmps158;go_wp2_with fail;refine HC.out.mono ?_;rintro e w2 ⟨rfl,W,A',h2,q1,C',q2⟩;have H2:=hid (h2.drop 2);have HQ:=hid q2;clear h2 q1 q2;go_wp2;go_ret;exact ⟨rfl,W,A',C',H2.out,HQ.out⟩
def Qbo (d:Int):Int:=Go.bits .xor .u32 (d/2) (Go.bits .and .u32 2197175160 (-Go.bits .and .u32 d 1%4294967296))
def Qal:Nat→Int→Int
 | 0,c=>c
 | k+1,c=>Qbo (Qal k c)
def W6 (b:Blk):Int:=b.foldl (fun c x=>Qal 8 (Go.bits .xor .u32 c ((x.toNat:Int)%4294967296))) (Go.bits .xor .u32 IntKind.u32.max 0)
def OK (b:Blk):Nat:=(Go.bits .xor .u32 IntKind.u32.max (W6 b)).toNat
theorem Qgm (o:BinOp) (ho:o= .xor) (x y:Int):0≤Go.bits o .u32 x y∧Go.bits o .u32 x y<4294967296:=by
 subst ho;have: ∀z,0≤IntKind.u32.wrap z∧IntKind.u32.wrap z<4294967296:=fun z=>by
  simp [IntKind.wrap,IntKind.bits,IntKind.signed];omega
 exact this _
theorem QeA (b:Blk):((OK b:Nat):Int)=Go.bits .xor .u32 IntKind.u32.max (W6 b)∧OK b<4294967296:=by
 have:=Qgm .xor rfl IntKind.u32.max (W6 b);unfold OK;omega
theorem Qfk (b:Blk) (x:UInt8):W6 (b++ [x])=Qal 8 (Go.bits .xor .u32 (W6 b) ((x.toNat:Int)%4294967296)):=by
 unfold W6;rw [List.foldl_append];rfl
theorem Qgj (w:World) (v:Value) (b:Blk) (hv:Jw w v b) (hl:b.length≤100000):
 Calls prog 246 #[.int .u32 0,v] w fun e w'=>w=w'∧e= .returned (.int .u32 (OK b:Nat)):=by
 have HV:=hid hv;obtain ⟨a,cap,rfl,-⟩:=hv;have HE:=hid (QeA b).1;go_enter func246,ntmps246;go_wp2_with fail;go_loop [0,6,11,19] (fun t0 _ t _=> ∃(i:Nat) (c:Int),i≤b.length∧t= .int .i64 i∧t0= .int .u32 c∧Hid (c=W6 (b.take i))) (fun _ _ t _=>b.length-(intOf t).toNat)
 case atStart=>exact ⟨0,_,Nat.zero_le _,rfl,rfl,hid rfl⟩
 case round=>
  obtain ⟨i,c,hi,rfl,rfl,HC⟩:=hrel;have hi0:(0:Int)≤(i:Int):=Qk _;by_cases hlt:i<b.length
  ·have hi1:(i:Int)<(b.length:Int):=by omega
   obtain ⟨x,hx⟩: ∃x,b[i]?=some x:=⟨_,List.getElem?_eq_getElem hlt⟩;obtain ⟨blk,off,cap',e,hc⟩:=HV.out.at hx;cases e;have HCN:Hid (W6 (b.take (i+1))=Qal 8 (Go.bits .xor .u32 c ((x.toNat:Int)%4294967296))):=hid (by
    rw [HC.out,←Qfk]
    congr 1
    obtain ⟨h1,h2⟩:=List.getElem?_eq_some_iff.1 hx;rw [List.take_succ_eq_append_getElem h1,h2])
   clear hx HC;go_wp2_with fail;go_loop [0,19] (fun t0 t=> ∃(k:Nat) (d:Int),k≤8∧t= .int .i64 k∧t0= .int .u32 d∧Hid (d=Qal k (Go.bits .xor .u32 c ((x.toNat:Int)%4294967296)))) (fun _ t=>8-(intOf t).toNat)
   case atStart=>exact ⟨0,_,Nat.zero_le _,rfl,rfl,hid rfl⟩
   case round=>
    obtain ⟨k,d,hk,rfl,rfl,HD⟩:=hrel;have hk0:(0:Int)≤(k:Int):=Qk _;by_cases hk8:k<8
    ·have hk8':(k:Int)<8:=by omega
     have HD2:Hid (Qbo d=Qal (k+1) (Go.bits .xor .u32 c ((x.toNat:Int)%4294967296))):=hid (by rw [HD.out];rfl);go_wp2;exact ⟨⟨k+1,Qbo d,hk8,by go_num,rfl,HD2⟩,by simp [intOf];omega⟩
    ·have hk8': ¬(k:Int)<8:=by omega
     obtain rfl:k=8:=by omega
     have HD2:Hid (d=W6 (b.take (i+1))):=hid (by rw [HD.out,HCN.out]);go_wp2;exact ⟨⟨i+1,d,hlt,by go_num,rfl,HD2⟩,by simp [intOf];omega⟩
  ·have hi1: ¬(i:Int)<(b.length:Int):=by omega
   have HX:Hid (c=W6 b):=hid (by rw [HC.out,List.take_of_length_le (by omega)]);go_wp2;go_ret;refine ⟨rfl,?_⟩;have:=HX.out;subst this;exact congrArg (fun z=>Ending.returned (Value.int .u32 z)) HE.out.symm
theorem Qiq (w:World) (v:Value) (b:Blk) (hv:Jw w v b) (hl:b.length≤100000):
 Calls prog 179 #[v] w fun e w'=>w=w'∧e= .returned (.int .u32 (OK b:Nat)):=by
 have HC:=hid (Qgj w v b hv hl);clear hv hl;go_enter func179,ntmps179;go_wp2_with fail;refine HC.out.mono ?_;rintro e w2 ⟨rfl,rfl⟩;go_wp2;go_ret;exact ⟨rfl,rfl⟩
def Qq (n ni:Nat):Pl:= { n:=n,ni:=ni,im:=246,bm:=247,tb:=248,da:=248+(ni+7)/8,dc:=n-248-(ni+7)/8 }
structure Ve (n ni:Nat):Prop where
 h1:1≤ni∧ni≤4096
 h2:249+(ni+7)/8≤n
 h3:n≤4344+(ni+7)/8
theorem Ve.ok {n ni:Nat} (h:Ve n ni):Qdh (Qq n ni):=by
 have h1:=h.h1;have h2:=h.h2;have h3:=h.h3;refine ⟨by show n≤65536;omega,h1,⟨by show 1≤n-248-(ni+7)/8;omega,by show n-248-(ni+7)/8≤4096;omega⟩,rfl,rfl,rfl,rfl,by show 248+(ni+7)/8+(n-248-(ni+7)/8)=n;omega⟩
def plC (P:Pl):Array Value:=P.cells.toArray
theorem Jy: ¬U8T (135:TypeId):=by decide
def plz (a b c d e f g:Int):Array Value:= #[.int .i64 a,.int .i64 b,.int .i64 c,.int .i64 d,.int .i64 e,.int .i64 f,.int .i64 g]
theorem UP (W:World):(zeroValue 135).run prog W= .ok (.agg (plz 0 0 0 0 0 0 0)) W:=by kernel_rfl
theorem OV (a b c d e f g:Int):(prog.info? 135).map (·.size)=some (plz a b c d e f g).size:=by kernel_rfl
theorem QjF (a b c d e f g:Int):((plz a b c d e f g).all fun x=>x.oneCell')=true:=by simp [plz,Value.oneCell']
theorem Kb {ops:Array Oper} {rest:List Oper} {o:Oper} {a:Act} {w:World} {Q:Exit→Act→World→Prop} (hgd:o.guard=none) (x y:Operand) (ho:o.op= .store 135 x y) (g:Nat) (p1 p2 p3 p4 p5 p6 p7:Int) (hx:a.eval x= .pointer (some ⟨g,0,none⟩)) (hy:a.eval y= .agg (plz p1 p2 p3 p4 p5 p6 p7)) (old:Array Value) (hold:old.size=7)
 (hg:w.heap[g]?=some (.cells old 135 (0,0))) (h:wpList prog ops Q rest (a.put o.dst undef) (w.setRow g (plz p1 p2 p3 p4 p5 p6 p7))):wpList prog ops Q (o::rest) a w:=
 wpList_store_row hgd _ x y ho g (plz p1 p2 p3 p4 p5 p6 p7) hx hy _ old hg (OV _ _ _ _ _ _ _) (by rw [hold];rfl) (QjF _ _ _ _ _ _ _) h
theorem Kw {ops:Array Oper} {rest:List Oper} {o:Oper} {a:Act} {w:World} {Q:Exit→Act→World→Prop} (hw:Region.wanted o (yielded ops a.tmps)=true) (x:Operand) (ho:o.op= .load 135 x) (g:Nat) (hx:a.eval x= .pointer (some ⟨g,0,none⟩)) (p1 p2 p3 p4 p5 p6 p7:Int)
 (hg:w.heap[g]?=some (.cells (plz p1 p2 p3 p4 p5 p6 p7) 135 (0,0))) (h:wpList prog ops Q rest (a.put o.dst (.agg (plz p1 p2 p3 p4 p5 p6 p7))) w):wpList prog ops Q (o::rest) a w:=
 BigFrame.wpList_want hw fun K hK=>wp_load_row _ x ho g hx _ _ _ _ hg underlying135 rfl (OV _ _ _ _ _ _ _) (hK _ _ h)
theorem l_up (w:World) (n b:Nat) (hb:1≤b) (hb2:b≤4096) (hn:n≤100000):Calls prog 174 #[.int .i64 n,.int .i64 b] w fun e w'=>w=w'∧e= .returned (.int .i64 ((n+b-1)/b:Nat)):=by
 have h1:(n:Int)+(b:Int)-1=((n+b-1:Nat):Int):=by omega
 have h2:((n+b-1:Nat):Int)/(b:Int)=(((n+b-1)/b:Nat):Int):=by norm_cast
 have b0: ¬(b:Int)=0:=by omega
 have b1:(1:Int)≤(b:Int):=by omega
 have b2:(b:Int)≤4096:=by omega
 have n0:(0:Int)≤(n:Int):=Qk _;have n1:(n:Int)≤100000:=by omega
 have H1:=hid h1;have H2:=hid h2;clear h1 h2;go_enter func174,ntmps174;go_wp2_with fail;go_ret;refine ⟨rfl,?_⟩;show Ending.returned (Value.int .i64 (((n:Int)+(b:Int)-1)/(b:Int)))=_;rw [H1.out,H2.out]
def plk (n ni t dc:Int) (k:Nat):Array Value:=plz n ni (if 0<k then 246 else 0) (if 1<k then 247 else 0) (if 2<k then 248 else 0) (if 3<k then 248+t else 0) dc
def arC (g:Nat) (t dc:Int):Array Value:= #[.pointer (some ⟨g,2,none⟩),.int .i64 1,.pointer (some ⟨g,3,none⟩),.int .i64 1,.pointer (some ⟨g,4,none⟩),.int .i64 t,.pointer (some ⟨g,5,none⟩),.int .i64 dc]
end
end Go.Proofs.YtlemndledcmhiaaGreatDoor
