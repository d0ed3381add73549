/-
  The catalog, from the device up, part 18.
-/
import Derived.Test.YtlemndledcmhiaaGreatDoorU17
import Derived.Laws.Runes
namespace Go.Proofs.YtlemndledcmhiaaGreatDoor
set_option linter.unusedVariables false
set_option linter.unusedSimpArgs false
section
open Go.ChangeMaps Go.MapKept Go.RowKit
variable {w0:Gnd} {w:World} {rs:List Res} {X:Sys} {F:FH} {A:Path→Option Nd} {ι:Path→Nat}
theorem tpV_some {L:List Tp} (hL:CatL L) {t:Tp} (ht:t∈L):tpV (mapL L) (keyB t.nm)=some (.agg t.cells):=by
  have:mapL L (keyB t.nm)=some t:=(hL.map_iff _ _).2 ⟨ht,rfl⟩
  unfold tpV
  rw [this]
  rfl
theorem Fs.catAt (h:Fs w0 w F X A ι rs) {i mb:Nat} {L:List Tp} (hr:rs[i]?=some (catM mb L)):MapAt KeyK okK w mb L.length (tpV (mapL L)):=by
  obtain ⟨⟨k,l,ha,-⟩,-⟩:=h
  exact ha.mapAt (i:=i+2) hr
theorem Fs.catPut (h:Fs w0 w F X A ι rs) (i:Nat) {mb:Nat} {L:List Tp} (hr:rs[i]?=some (catM mb L)) (hL:CatL L) (t:Tp) (ht:t.nm.size≤50) (hno: ∀x∈L,x.nm≠t.nm):
    ∃o,(Instr.mapUpdate 91 (.map (some mb)) (.agg ((keyB t.nm).map B8).toArray) (.agg t.cells)).run Tryz.prog w= .ok () (setBlock w mb o)∧Fs w0 (setBlock w mb o) F X A ι (rs.set i (catM mb (insT t L))):=by
  obtain ⟨⟨k,l,ha,hl⟩,hrep⟩:=h
  obtain ⟨o,q1,q2⟩:=ha.mapPut (i+2) hr kindCKey Tryz.underlying91 (a:=keyB t.nm) (keyB_length _ ht) (.agg t.cells)
  have e:mapR KeyK okK mb (if (tpV (mapL L) (keyB t.nm)).isSome then L.length else L.length+1) (upd (tpV (mapL L)) (keyB t.nm) (some (.agg t.cells)))=catM mb (insT t L):=by
    unfold catM
    rw [insT_length,tpV_none hL ht hno]
    have e2:upd (tpV (mapL L)) (keyB t.nm) (some (.agg t.cells))=tpV (mapL (insT t L)):=by
      funext a
      unfold upd tpV
      rw [hL.map_ins t ht hno]
      by_cases e:a=keyB t.nm
      · rw [if_pos e,if_pos e];rfl
      · rw [if_neg e,if_neg e]
    rw [e2];rfl
  rw [e] at q2
  exact ⟨o,q1 w rfl,⟨k,l,q2,hl⟩,hrep⟩
theorem Fs.catDel (h:Fs w0 w F X A ι rs) (i:Nat) {mb:Nat} {L:List Tp} (hr:rs[i]?=some (catM mb L)) (hL:CatL L) {t:Tp} (ht:t∈L):
    ∃o,(∀ty,(Builtin.delete_ #[91,95] ty #[.map (some mb),.agg ((keyB t.nm).map B8).toArray]).run Tryz.prog w= .ok (.tuple #[]) (setBlock w mb o))∧Fs w0 (setBlock w mb o) F X A ι (rs.set i (catM mb (delT t.nm L))):=by
  have hm:=h.catAt hr
  obtain ⟨⟨k,l,ha,hl⟩,hrep⟩:=h
  obtain ⟨o,q1,q2⟩:=hm.delete kindCKey Tryz.underlying91 (a:=keyB t.nm) (keyB_length _ (hL.nm t ht)) (by rw [tpV_some hL ht];rfl)
  have e2:upd (tpV (mapL L)) (keyB t.nm) none=tpV (mapL (delT t.nm L)):=by
    funext a
    unfold upd tpV
    rw [hL.map_del (hL.nm t ht)]
    by_cases e:a=keyB t.nm
    · rw [if_pos e,if_pos e];rfl
    · rw [if_neg e,if_neg e]
  have hl1:L.length-1=(delT t.nm L).length:=by have:=hL.del_length ht;omega
  rw [e2,hl1] at q2
  exact ⟨o,fun ty=>q1 ty w rfl,⟨k,l,⟨ha.1.write (i+3) hr ((Frm.refl (Only mb) w).setBlock (.inl (Only.self mb)) o) (catM mb (delT t.nm L)) (q2 w hm.lt) fun _ hx=> .inl hx,ha.2⟩,hl⟩,hrep⟩
end
section
open Go.ChangeMaps Go.MapKept Go.RowKit
structure Roomy (X:Sys) (A:Path→Option Nd) (next used ops n:Nat) (L:List Tp) (D:List ByteArray):Prop where
  tree:CatT A (encC next L) n D
  cat:CatL L
  num:CatR next L
  old:OldD next D
  new: ∀d∈D,NewD A d
  dlen:D.length=used
  m:X.m≤3+ops
  fi:X.fi+3*used=597
  fb:875≤X.fb+dat n+dat (8+107*L.length)+used
  few:L.length≤20
  top: ∀t∈L,∃id P:Nat,t.id=id∧t.parts=P∧id<next∧∀p,p<P→partN id p∈D
theorem Roomy.may {X:Sys} {A:Path→Option Nd} {next used ops n:Nat} {L:List Tp} {D:List ByteArray} (h:Roomy X A next used ops n L D) {P:Nat} (hL:L.length<20) (hn:next<100) (hP:1≤P∧P≤8) (hu:used+P≤70):MayCr X A next L n D P:=by
  have a1:=h.tree.size
  rw [h.dlen] at a1
  have a2:=h.fi
  have a3:=h.fb
  have d1:dat n≤10:=dat_le (by omega)
  have d2:dat (8+107*L.length)≤5:=by unfold dat;omega
  have d3:dat (8+107*(L.length+1))≤5:=by unfold dat;omega
  have d4:dat (n+64*P)≤10:=dat_le (by omega)
  exact ⟨h.tree,h.cat,hL,hn,hP,h.old,by omega,by omega,by omega⟩
theorem i64_small {k:Nat} (h:k<1000000):I64 (k:Int):=by constructor<;>omega
theorem Roomy.made {X Y:Sys} {A A':Path→Option Nd} {next used ops n n' P:Nat} {L:List Tp} {D:List ByteArray} (h:Roomy X A next used ops n L D) (hL:L.length<20) (hn:next<100) (hP:1≤P∧P≤8) {t:Tp} (h1:t.id=next) (h2:t.parts=P) (hnm:t.nm.size≤50) (hno: ∀x∈L,x.nm≠t.nm) (hnum: ∀x∈t.nums,I64 x)
    (hm:CrMade X Y A A' (encC next L) (encC ((next:Int)+1) (insT t L)) next n n' P):Roomy Y A' (next+1) (used+P) (ops+1) n' (insT t L) (D++partNs next P):=by
  have hc:=h.cat.ins t hnm hno
  have e1:(encC ((next:Int)+1) (insT t L)).length=8+107*(insT t L).length:=encC_length _ _ hc.nm
  have e2:=encC_length (next:Int) L h.cat.nm
  have hsN:((next:Int)+1)=((next+1:Nat):Int):=by omega
  refine ⟨?_,hc,⟨i64_small (by omega),fun x hx=>?_⟩,h.old.more hP.2,fun d hd=>?_,?_,?_,?_,?_,?_,fun x hx=>?_⟩
  · have:=hm.tree h.tree
    rw [hsN] at this
    exact this
  · rcases (mem_insT t x L).1 hx with rfl | hx
    · exact hnum
    · exact h.num.nums x hx
  · rcases List.mem_append.1 hd with hd | hd
    · refine (h.new d hd).keep hm ?_
      obtain ⟨id,p,q1,q2,rfl⟩:=h.old d hd
      exact partN_ne_ls id (by omega) p (by omega)
    · obtain ⟨q,hq,rfl⟩:=mem_partNs.1 hd
      exact hm.born q hq
  · rw [List.length_append,partNs_length,h.dlen]
  · have a1:=hm.m;have a2:=h.m;omega
  · have a1:=hm.fi;have a2:=h.fi;omega
  · have a1:=hm.fb;have a2:=h.fb
    rw [e1,e2] at a1
    omega
  · rw [insT_length];omega
  · rcases (mem_insT t x L).1 hx with rfl | hx
    · exact ⟨next,P,h1,h2,by omega,fun p hp=>List.mem_append_right _ (mem_partNs.2 ⟨p,hp,rfl⟩)⟩
    · obtain ⟨id,Q,q1,q2,q3,q4⟩:=h.top x hx
      exact ⟨id,Q,q1,q2,by omega,fun p hp=>List.mem_append_left _ (q4 p hp)⟩
structure Gone (X Y:Sys) (A A':Path→Option Nd) (old new:Blk):Prop where
  same:Same X Y
  op:Y.op=false
  l:Y.l= []
  m:Y.m=X.m+1
  tree:A'=setT A [cN,lsN] (some (.file new))
  fi:Y.fi=X.fi
  fb:Y.fb+dat new.length=X.fb+dat old.length
theorem gone {X X' Y:Sys} {A A':Path→Option Nd} {C C1:List Nat} {old new:Blk} (hs:Saved X.open' X' C C1 old new) (hA:A'=setT A [cN,lsN] (some (.file new))) (hx:X'=X.open'.wr X'.l) (hc:Comm X' Y):Gone X Y A A' old new:=by
  have e1:Y.fi=X'.fi:=by unfold Sys.fi;rw [hc.v,hc.same.P]
  have e2:Y.fb=X'.fb:=by unfold Sys.fb;rw [hc.v,hc.same.P]
  have f1:X.open'.fi=X.fi:=rfl
  have f2:X.open'.fb=X.fb:=rfl
  refine ⟨Same.trans (by rw [hx];exact ⟨rfl,rfl,rfl,rfl,rfl,rfl,rfl⟩) hc.same,hc.op,hc.l,hc.m.trans (by rw [hx];rfl),hA,?_,?_⟩
  · have a2:=hs.fi;omega
  · have a2:=hs.fb;omega
theorem Roomy.gone {X Y:Sys} {A A':Path→Option Nd} {next used ops n:Nat} {L:List Tp} {D:List ByteArray} (h:Roomy X A next used ops n L D) {t:Tp} (ht:t∈L) (hg:Gone X Y A A' (encC next L) (encC next (delT t.nm L))):Roomy Y A' next used (ops+1) n (delT t.nm L) D:=by
  have hc:=h.cat.del t.nm
  have e1:=encC_length (next:Int) (delT t.nm L) hc.nm
  have e2:=encC_length (next:Int) L h.cat.nm
  have hk: ∀p,p≠ [cN,lsN]→A' p=A p:=fun p hp=>by rw [hg.tree];exact if_neg hp
  refine ⟨⟨?_,?_,fun s hs=>?_,h.tree.size⟩,hc,⟨h.num.next,fun x hx=>h.num.nums x (mem_delT.1 hx).1⟩,h.old,fun d hd=>?_,h.dlen,?_,?_,?_,?_,fun x hx=>h.top x (mem_delT.1 hx).1⟩
  · rw [hk _ (by simp)];exact h.tree.c
  · rw [hg.tree];exact if_pos rfl
  · by_cases e:s=lsN
    · exact .inl e
    · exact h.tree.kids s (by rw [←hk _ (by simp [e])];exact hs)
  · obtain ⟨id,p,q1,q2,rfl⟩:=h.old d hd
    obtain ⟨⟨m,a1⟩,a2,a3⟩:=h.new _ hd
    have hne:partN id p≠lsN:=fun e=>by
      have h1:=congrArg (fun b:ByteArray=>b.data.toList[0]?) e
      simp [partN,lsN] at h1
    exact ⟨⟨m,by rw [hk _ (by simp [hne])];exact a1⟩,by rw [hk _ (by simp)];exact a2,by rw [hk _ (by simp)];exact a3⟩
  · have a1:=hg.m;have a2:=h.m;omega
  · have a1:=hg.fi;have a2:=h.fi;omega
  · have a1:=hg.fb;have a2:=h.fb
    rw [e1,e2] at a1
    omega
  · have:=h.cat.del_length ht;have:=h.few;omega
theorem Roomy.saveDel {X:Sys} {A:Path→Option Nd} {ι:Path→Nat} {next used ops n:Nat} {L:List Tp} {D:List ByteArray} (h:Roomy X A next used ops n L D) (hA:Rep X A ι) (hl:X.l= []) (nm:ByteArray):
    MaySave X.open' A ι (X.P.bm::heldL X (ι [cN,lsN])) (encC next L) (encC next (delT nm L)):=by
  have e1:=encC_length (next:Int) (delT nm L) (h.cat.del nm).nm
  have e2:=encC_length (next:Int) L h.cat.nm
  have s2:X.nd (ι [cN,lsN]) 1=(encC next L).length:=(hA.live _ _ h.tree.ls).2.2
  have hle:(delT nm L).length≤L.length:=List.length_filter_le _ _
  have hd:dat (encC next (delT nm L)).length≤dat (encC next L).length:=dat_mono (by rw [e1,e2];omega)
  have hf:=h.few
  have d2:dat (encC next L).length≤5:=by rw [e2];unfold dat;omega
  refine ⟨h.tree.ls,by rw [e2];omega,?_,List.mem_cons_self ..,heldL_held (X:=X) fun c hc=>List.mem_cons_of_mem _ hc,by omega,?_⟩
  · intro k hk
    have:X.l= []:=hl
    simp [Sys.keys,Sys.open',this] at hk
  · rw [List.length_cons,heldL_length,s2]
    omega
def CatI (w0:Gnd) (w:World) (fb cb next used ops:Nat) (L:List Tp) (rs:List Res):Prop:=
  ∃F X A ι mb n D,F.fb=fb∧Fs w0 w F X A ι (catS cb fb next mb::catM mb L::rs)∧Calm F X∧Roomy X A next used ops n L D
theorem ci_fresh {w0:Gnd} {w:World} {rs:List Res} (h:St w0 w rs):
    Calls Tryz.prog 10 #[] w fun e w'=> ∃hb fb cb,e= .returned (.tuple #[.pointer (some ⟨hb,0,none⟩),.pointer (some ⟨fb,0,none⟩),.pointer (some ⟨cb,0,none⟩),.bool true])∧CatI w0 w' fb cb 1 0 0 [] rs:=by
  refine (c_fresh h).mono ?_
  rintro e w' ⟨hb,F,X,A,ι,cb,mb,n,he,hf,hc,ht,-,hm,hfi,hfb⟩
  refine ⟨hb,F.fb,cb,he,F,X,A,ι,mb,n,[],rfl,hf,hc,?_⟩
  have d8:dat (8+107*([]:List Tp).length)=1:=rfl
  exact ⟨ht,catL0,catR0,(fun s hs=>by cases hs),(fun d hd=>by cases hd),rfl,by omega,by omega,by rw [d8];omega,by simp,fun t ht=>by cases ht⟩
theorem CatI.frm {w0:Gnd} {w w':World} {fb cb next used ops:Nat} {L:List Tp} {rs:List Res} (h:CatI w0 w fb cb next used ops L rs) (hf:Frm NoB w w'):CatI w0 w' fb cb next used ops L rs:=by
  obtain ⟨F,X,A,ι,mb,n,D,h1,h2,h3,h4⟩:=h
  exact ⟨F,X,A,ι,mb,n,D,h1,h2.frm hf,h3,h4⟩
def Named (nm:ByteArray) (b:Bool):Prop:= ∀W,Calls Tryz.prog 40 #[.string nm] W fun e w'=>e= .returned (.bool b)∧Frm NoB W w'
theorem named {nm:ByteArray} (h:NameOk nm):Named nm true:=fun W=>d_Name W nm h
def findT (o:Option Tp):Value:=match o with
  | some t=> .tuple #[.agg t.cells,.bool true]
  | none=> .tuple #[.agg (tpz ByteArray.empty 0 0 0 0 0 false 0),.bool false]
end
section
open Go.ChangeMaps Go.MapKept Go.RowKit
variable {w0:Gnd} {w:World} {rs:List Res} {X:Sys} {F:FH} {A:Path→Option Nd} {ι:Path→Nat}
set_option maxHeartbeats 1000000 in
set_option maxRecDepth 100000 in
theorem c_Find0 (h:Fs w0 w F X A ι rs) {cb mb i:Nat} {next:Int} (hr:rs[i]?=some (catS cb F.fb next mb)) {nm:ByteArray} (hn:nm.size≤50) (hN:Named nm true) (q0:ByteArray) (q1 q2 q3 q4 q5:Int) (q6:Bool) (q7:Int) (ok:Bool)
    (hlk: ∀z rs',Fs w0 z F X A ι (rs'++rs)→(Instr.lookup 91 (.map (some mb)) (.agg ((keyB nm).map B8).toArray) true).run Tryz.prog z= .ok (.tuple #[.agg #[.string q0,.int .i64 q1,.int .i64 q2,.int .i64 q3,.int .i64 q4,.int .i64 q5,.bool q6,.int .i64 q7],.bool ok]) z):
    Calls Tryz.prog 23 #[.pointer (some ⟨cb,0,none⟩),.string nm] w fun e w'=>e= .returned (.tuple #[.agg (tpz q0 q1 q2 q3 q4 q5 q6 q7),.bool ok])∧Fs w0 w' F X A ι rs:=by
  have hh:=h.newArr (tpz ByteArray.empty 0 0 0 0 0 false 0) 31 neTp
  obtain ⟨y,hy⟩: ∃y,w.alloc (.cells (tpz ByteArray.empty 0 0 0 0 0 false 0) 31 (0,0))=y:=⟨_,rfl⟩
  obtain ⟨b1,hb1⟩: ∃b1,w.heap.size=b1:=⟨_,rfl⟩
  rw [hy,hb1] at hh
  have HY:=Lib.hid (And.intro hy hb1)
  have HN:=Lib.hid (hN y)
  have HH:=Lib.hid hh
  have KL:Hid (∀W,Fs w0 W F X A ι (arr b1 (tpz ByteArray.empty 0 0 0 0 0 false 0) 31 neTp::rs)→W.cell? ⟨cb,3,none⟩=some (.map (some mb))∧(Instr.lookup 91 (.map (some mb)) (.agg ((keyB nm).map B8).toArray) true).run Tryz.prog W= .ok (.tuple #[.agg #[.string q0,.int .i64 q1,.int .i64 q2,.int .i64 q3,.int .i64 q4,.int .i64 q5,.bool q6,.int .i64 q7],.bool ok]) W):=Lib.hid fun W hW=>
    ⟨(hW.arrCell (i:=i+1) hr 3).trans rfl,hlk W [_] hW⟩
  have KO:Hid (∀W,Calls Tryz.prog 42 #[.string nm] W fun e w'=>e= .returned (.agg ((keyB nm).map B8).toArray)∧Frm NoB W w'):=Lib.hid fun W=>c_of W nm hn
  clear h hr hn hN hlk hh hy hb1
  go_enter Tryz.func23,Tryz.ntmps23
  go_upto_region 1 with (refine allocRow rfl _ _ zeroTp rfl ?_)
  rw [HY.out.1,HY.out.2]
  clear HY
  go_wp2_with fail
  refine HN.out.mono ?_
  clear HN
  rintro e w3 ⟨rfl,hf⟩
  have HH3:=Lib.hid (HH.out.frm hf)
  have HHd:=Lib.hid (HH3.out.frm (Frm.refl NoB w3).drew)
  clear hf HH
  obtain ⟨k1,k2⟩:=KL.out _ HH3.out
  go_upto_region 3 with fail
  go_cut [6,7] from 16 (fun t6 t7 wx=> ∃g,t6= .pointer (some ⟨g,0,none⟩)∧t7= .bool ok∧Fs w0 wx F X A ι (arr g (tpz q0 q1 q2 q3 q4 q5 q6 q7) 31 neTp::arr b1 (tpz ByteArray.empty 0 0 0 0 0 false 0) 31 neTp::rs))
  case first=>
    refine wp_region_held_drew (S:=(fun y=>y.cell? ⟨cb,3,none⟩=some (.map (some mb))∧(Instr.lookup 91 (.map (some mb)) (.agg ((keyB nm).map B8).toArray) true).run Tryz.prog y= .ok (.tuple #[.agg #[.string q0,.int .i64 q1,.int .i64 q2,.int .i64 q3,.int .i64 q4,.int .i64 q5,.bool q6,.int .i64 q7],.bool ok]) y)) (by kernel_rfl) (KL.out _ HHd.out) (fun hHeld=>?_)
    refine wpAnyH_take (i:=0) (v:=?v0_1) rfl (by kernel_rfl) (by kernel_rfl) (by kernel_rfl) (fun _ _ _ h=>h) (Or.inl ⟨by rfl,?hy0_1⟩) (by assumption) ?rest0_1
    case hy0_1=>(intro w hSw;(try dsimp only at hSw);go_simp;(try with_reducible rfl))
    try simp only [Act.put,List.setIfInBounds_toArray,List.set_cons_zero,List.set_cons_succ]
    refine wpAnyH_take (i:=1) (v:=?v1_2) rfl (by kernel_rfl) (by kernel_rfl) (by kernel_rfl) (fun _ _ _ h=>h) (Or.inl ⟨by rfl,?hy1_2⟩) (by assumption) ?rest1_2
    case hy1_2=>(intro w hSw;(try dsimp only at hSw);go_simp;(try with_reducible rfl))
    try simp only [Act.put,List.setIfInBounds_toArray,List.set_cons_zero,List.set_cons_succ]
    refine wpAnyH_take (i:=2) (v:=?v2_3) rfl (by kernel_rfl) (by kernel_rfl) (by kernel_rfl) (fun _ _ _ h=>h) (Or.inl ⟨by rfl,?hy2_3⟩) (by assumption) ?rest2_3
    case hy2_3=>(intro w hSw;(try dsimp only at hSw);go_simp;(try with_reducible rfl))
    try simp only [Act.put,List.setIfInBounds_toArray,List.set_cons_zero,List.set_cons_succ]
    refine wpAnyH_take (i:=3) (v:=?v3_4) rfl (by kernel_rfl) (by kernel_rfl) (by kernel_rfl) (fun _ _ _ h=>h) (Or.inl ⟨by rfl,?hy3_4⟩) (by assumption) ?rest3_4
    case hy3_4=>(intro w hSw;(try dsimp only at hSw);go_simp;(try with_reducible rfl))
    try simp only [Act.put,List.setIfInBounds_toArray,List.set_cons_zero,List.set_cons_succ]
    refine wpAnyH_take (i:=4) (v:=?v4_5) rfl (by kernel_rfl) (by kernel_rfl) (by kernel_rfl) (fun _ _ _ h=>h) (Or.inl ⟨by rfl,?hy4_5⟩) (by assumption) ?rest4_5
    case hy4_5=>(intro w hSw;(try dsimp only at hSw);go_simp;(try with_reducible rfl))
    try simp only [Act.put,List.setIfInBounds_toArray,List.set_cons_zero,List.set_cons_succ]
    refine wpAnyH_ready (rs:= [5,10]) (by kernel_rfl) (by simp) ?_
    refine AllReadyH.cons rfl (fun K hK=>?_) ?_
    · go_simp
      refine (KO.out _).mono ?_
      rintro e w4 ⟨rfl,hf4⟩
      go_wp2_with fail
      have HH4:=Lib.hid (HHd.out.frm hf4)
      clear hf4
      refine hK.out _ _ (KL.out _ HH4.out) (fun hHeld=>?_)
      clear hK K
      try simp only [Act.put,List.setIfInBounds_toArray,List.set_cons_zero,List.set_cons_succ]
      refine wpAnyH_take (i:=6) (v:=?v6_6) rfl (by kernel_rfl) (by kernel_rfl) (by kernel_rfl) (fun _ _ _ h=>h) (Or.inl ⟨by rfl,?hy6_6⟩) (by assumption) ?rest6_6
      case hy6_6=>(intro w hSw;(try dsimp only at hSw);go_simp;(try with_reducible rfl))
      try simp only [Act.put,List.setIfInBounds_toArray,List.set_cons_zero,List.set_cons_succ]
      refine wpAnyH_take (i:=7) (v:=?v7_7) rfl (by kernel_rfl) (by kernel_rfl) (by kernel_rfl) (fun _ _ _ h=>h) (Or.inl ⟨by rfl,?hy7_7⟩) (by assumption) ?rest7_7
      case hy7_7=>(intro w hSw;(try dsimp only at hSw);go_simp;(try with_reducible rfl))
      try simp only [Act.put,List.setIfInBounds_toArray,List.set_cons_zero,List.set_cons_succ]
      refine wpAnyH_take (i:=8) (v:=?v8_8) rfl (by kernel_rfl) (by kernel_rfl) (by kernel_rfl) (fun _ _ _ h=>h) (Or.inl ⟨by rfl,?hy8_8⟩) (by assumption) ?rest8_8
      case hy8_8=>(intro w hSw;(try dsimp only at hSw);go_simp;(try with_reducible rfl))
      try simp only [Act.put,List.setIfInBounds_toArray,List.set_cons_zero,List.set_cons_succ]
      refine wpAnyH_take (i:=9) (v:=?v9_9) rfl (by kernel_rfl) (by kernel_rfl) (by kernel_rfl) (fun _ _ _ h=>h) (Or.inl ⟨by rfl,?hy9_9⟩) (by assumption) ?rest9_9
      case hy9_9=>(intro w hSw;(try dsimp only at hSw);go_simp;(try with_reducible rfl))
      change wpAnyH _ _ _ _ _ _ _ (Act.put _ (some 25) _) _
      try simp only [Act.put,List.setIfInBounds_toArray,List.set_cons_zero,List.set_cons_succ]
      refine wpAnyH_ready (rs:= [10]) (by kernel_rfl) (by simp) ?_
      refine AllReadyH.cons rfl (fun K hK=>?_) AllReadyH.nil
      go_simp
      have HA:=Lib.hid (HH4.out.newArr (tpz ByteArray.empty 0 0 0 0 0 false 0) 31 neTp)
      refine hK.out _ _ (KL.out _ (HA.out.drop 1)) (fun hHeld=>?_)
      clear hK K
      try simp only [Act.put,List.setIfInBounds_toArray,List.set_cons_zero,List.set_cons_succ]
      refine wpAnyH_ready (rs:= [11]) (by kernel_rfl) (by simp) ?_
      refine AllReadyH.cons rfl (fun K hK=>?_) AllReadyH.nil
      rw [if_pos (by rfl)]
      refine wp_store_row 31 _ _ rfl w4.heap.size (tpz q0 q1 q2 q3 q4 q5 q6 q7) rfl rfl _ _ (HA.out.block (i:=0) rfl) (infoTp _ _ _ _ _ _ _ _) rfl (oneTp _ _ _ _ _ _ _ _) ?_
      have HB:=Lib.hid (HA.out.setRow 0 (c':=(tpz q0 q1 q2 q3 q4 q5 q6 q7)) rfl)
      refine hK.out _ _ (KL.out _ (HB.out.drop 1)) (fun hHeld=>?_)
      clear hK K
      try simp only [Act.put,List.setIfInBounds_toArray,List.set_cons_zero,List.set_cons_succ]
      refine wpAnyH_take (i:=12) (v:=?v12_10) rfl (by kernel_rfl) (by kernel_rfl) (by kernel_rfl) (fun _ _ _ h=>h) (Or.inl ⟨by rfl,?hy12_10⟩) (by assumption) ?rest12_10
      case hy12_10=>(intro w hSw;(try dsimp only at hSw);go_simp;(try with_reducible rfl))
      change wpAnyH _ _ _ _ _ _ _ (Act.put _ (some 7) _) _
      try simp only [Act.put,List.setIfInBounds_toArray,List.set_cons_zero,List.set_cons_succ]
      refine wpAnyH_done (by kernel_rfl) ?_ _
      go_wp2_with fail
      go_meet
      exact ⟨_,rfl,rfl,HB.out⟩
    · refine AllReadyH.cons rfl (fun K hK=>?_) AllReadyH.nil
      go_simp
      have HA:=Lib.hid ((HH3.out.newArr (tpz ByteArray.empty 0 0 0 0 0 false 0) 31 neTp).frm (Frm.refl NoB _).drew)
      refine hK.out _ _ (KL.out _ (HA.out.drop 1)) (fun hHeld=>?_)
      clear hK K
      try simp only [Act.put,List.setIfInBounds_toArray,List.set_cons_zero,List.set_cons_succ]
      obtain ⟨wa,hwa⟩: ∃wa,(w3.alloc (.cells (tpz ByteArray.empty 0 0 0 0 0 false 0) 31 (0,0))).drew=wa:=⟨_,rfl⟩
      obtain ⟨ga,hga⟩: ∃ga,w3.heap.size=ga:=⟨_,rfl⟩
      change wpAnyH _ _ _ _ _ _ _ _ ((w3.alloc (.cells (tpz ByteArray.empty 0 0 0 0 0 false 0) 31 (0,0))).drew)
      have hHeld2:=hHeld
      clear hHeld
      have hHeld:=KL.out _ (HA.out.drop 1)
      clear hHeld2
      rw [hwa,hga] at HA
      rw [hwa] at hHeld
      rw [hwa,hga]
      clear hwa hga
      refine wpAnyH_ready (rs:= [5]) (by kernel_rfl) (by simp) ?_
      refine AllReadyH.cons rfl (fun K hK=>?_) AllReadyH.nil
      go_simp
      refine (KO.out _).mono ?_
      rintro e w4 ⟨rfl,hf4⟩
      go_wp2_with fail
      have HH4:=Lib.hid (HA.out.frm hf4)
      clear hf4 HA
      refine hK.out _ _ (KL.out _ (HH4.out.drop 1)) (fun hHeld=>?_)
      clear hK K
      try simp only [Act.put,List.setIfInBounds_toArray,List.set_cons_zero,List.set_cons_succ]
      refine wpAnyH_take (i:=6) (v:=?v6_11) rfl (by kernel_rfl) (by kernel_rfl) (by kernel_rfl) (fun _ _ _ h=>h) (Or.inl ⟨by rfl,?hy6_11⟩) (by assumption) ?rest6_11
      case hy6_11=>(intro w hSw;(try dsimp only at hSw);go_simp;(try with_reducible rfl))
      try simp only [Act.put,List.setIfInBounds_toArray,List.set_cons_zero,List.set_cons_succ]
      refine wpAnyH_take (i:=7) (v:=?v7_12) rfl (by kernel_rfl) (by kernel_rfl) (by kernel_rfl) (fun _ _ _ h=>h) (Or.inl ⟨by rfl,?hy7_12⟩) (by assumption) ?rest7_12
      case hy7_12=>(intro w hSw;(try dsimp only at hSw);go_simp;(try with_reducible rfl))
      try simp only [Act.put,List.setIfInBounds_toArray,List.set_cons_zero,List.set_cons_succ]
      refine wpAnyH_take (i:=8) (v:=?v8_13) rfl (by kernel_rfl) (by kernel_rfl) (by kernel_rfl) (fun _ _ _ h=>h) (Or.inl ⟨by rfl,?hy8_13⟩) (by assumption) ?rest8_13
      case hy8_13=>(intro w hSw;(try dsimp only at hSw);go_simp;(try with_reducible rfl))
      try simp only [Act.put,List.setIfInBounds_toArray,List.set_cons_zero,List.set_cons_succ]
      refine wpAnyH_take (i:=9) (v:=?v9_14) rfl (by kernel_rfl) (by kernel_rfl) (by kernel_rfl) (fun _ _ _ h=>h) (Or.inl ⟨by rfl,?hy9_14⟩) (by assumption) ?rest9_14
      case hy9_14=>(intro w hSw;(try dsimp only at hSw);go_simp;(try with_reducible rfl))
      change wpAnyH _ _ _ _ _ _ _ (Act.put _ (some 25) _) _
      try simp only [Act.put,List.setIfInBounds_toArray,List.set_cons_zero,List.set_cons_succ]
      refine wpAnyH_ready (rs:= [11]) (by kernel_rfl) (by simp) ?_
      refine AllReadyH.cons rfl (fun K hK=>?_) AllReadyH.nil
      rw [if_pos (by rfl)]
      refine wp_store_row 31 _ _ rfl ga (tpz q0 q1 q2 q3 q4 q5 q6 q7) rfl rfl _ _ (HH4.out.block (i:=0) rfl) (infoTp _ _ _ _ _ _ _ _) rfl (oneTp _ _ _ _ _ _ _ _) ?_
      have HB:=Lib.hid (HH4.out.setRow 0 (c':=(tpz q0 q1 q2 q3 q4 q5 q6 q7)) rfl)
      refine hK.out _ _ (KL.out _ (HB.out.drop 1)) (fun hHeld=>?_)
      clear hK K
      try simp only [Act.put,List.setIfInBounds_toArray,List.set_cons_zero,List.set_cons_succ]
      refine wpAnyH_take (i:=12) (v:=?v12_15) rfl (by kernel_rfl) (by kernel_rfl) (by kernel_rfl) (fun _ _ _ h=>h) (Or.inl ⟨by rfl,?hy12_15⟩) (by assumption) ?rest12_15
      case hy12_15=>(intro w hSw;(try dsimp only at hSw);go_simp;(try with_reducible rfl))
      change wpAnyH _ _ _ _ _ _ _ (Act.put _ (some 7) _) _
      try simp only [Act.put,List.setIfInBounds_toArray,List.set_cons_zero,List.set_cons_succ]
      refine wpAnyH_done (by kernel_rfl) ?_ _
      go_wp2_with fail
      go_meet
      exact ⟨_,rfl,rfl,HB.out⟩
  case rest=>
    obtain ⟨g,rfl,rfl,hcut⟩:=hcut
    have HG:=Lib.hid (hcut.block (i:=0) rfl)
    have HB1:=Lib.hid (hcut.block (i:=1) rfl)
    have HB:=Lib.hid (hcut.setRow 1 (c':=tpz q0 q1 q2 q3 q4 q5 q6 q7) rfl)
    clear hcut KL KO HH3 HHd k1 k2
    go_wp2_with (first | (refine loadTp rfl _ rfl g rfl q0 q1 q2 q3 q4 q5 q6 q7 HG.out ?_) | (refine storeTp rfl _ _ rfl b1 q0 q1 q2 q3 q4 q5 q6 q7 rfl rfl _ rfl HB1.out ?_))
    have hld:=run_loadVar_row (P:=Tryz.prog) _ b1 31 31 (tpz q0 q1 q2 q3 q4 q5 q6 q7) (0,0) _ (HB.out.block (i:=1) rfl) Tryz.underlying31 rfl (infoTp _ _ _ _ _ _ _ _)
    (try simp only [Exit.inBlock,Exit.then])
    exact bodyPost_ret (v:= .tuple #[.agg (tpz q0 q1 q2 q3 q4 q5 q6 q7),.bool ok]) (results_ct Tryz.results23 _ _ ⟨b1,0,none⟩ rfl _ hld) rfl ⟨rfl,HB.out.drop 2⟩
theorem c_Find (h:Fs w0 w F X A ι rs) {cb mb i j:Nat} {next:Int} {L:List Tp} (hr:rs[i]?=some (catS cb F.fb next mb)) (hr2:rs[j]?=some (catM mb L)) {nm:ByteArray} (hn:nm.size≤50) (hN:Named nm true) {o:Option Tp} (ho:mapL L (keyB nm)=o):
    Calls Tryz.prog 23 #[.pointer (some ⟨cb,0,none⟩),.string nm] w fun e w'=>e= .returned (findT o)∧Fs w0 w' F X A ι rs:=by
  have hm: ∀z rs',Fs w0 z F X A ι (rs'++rs)→(Instr.lookup 91 (.map (some mb)) (.agg ((keyB nm).map B8).toArray) true).run Tryz.prog z= .ok (.tuple #[((o.map fun t=>Value.agg t.cells).getD (.agg (tpz ByteArray.empty 0 0 0 0 0 false 0))),.bool (o.map fun t=>Value.agg t.cells).isSome]) z:=fun z rs' hz=>by
    have hz:=hz.sub (List.sublist_append_right rs' rs)
    have this:=(hz.catAt hr2).lookup_ok kindCKey Tryz.underlying91 (a:=keyB nm) (keyB_length nm hn) zeroTp z rfl
    have e:tpV (mapL L) (keyB nm)=o.map fun t=>Value.agg t.cells:=by unfold tpV;rw [ho]
    rw [e] at this
    exact this
  cases o with
  | none=>exact c_Find0 h hr hn hN ByteArray.empty 0 0 0 0 0 false 0 false hm
  | some t=>
    obtain ⟨a,b,c,d,e,f,g,k⟩:=t
    exact c_Find0 h hr hn hN a b c d e f g k true hm
end
section
open Go.ChangeMaps Go.MapKept Go.RowKit
theorem neStg2: ¬U8T (29:TypeId):=by decide
end
section
open Go.ChangeMaps Go.MapKept Go.RowKit
variable {w0:Gnd} {w:World} {rs:List Res} {X:Sys} {F:FH} {A:Path→Option Nd} {ι:Path→Nat}
set_option maxHeartbeats 1000000 in
set_option maxRecDepth 100000 in
theorem c_CreateArg {cb mb i:Nat} {next:Int} (h:Fs w0 w F X A ι rs) (hr:rs[i]?=some (catS cb F.fb next mb)) {nm:ByteArray} {b:Bool} (hN:Named nm b) (P:Int) (hb:b=false∨P<1∨8<P) (p3 p4 p5:Int) (p6:Bool) (p7:Int):
    Calls Tryz.prog 11 #[.pointer (some ⟨cb,0,none⟩),.string nm,.int .i64 P,.agg (stz p3 p4 p5 p6 p7)] w fun e w'=>e= .returned (.tuple #[.agg (tpz ByteArray.empty 0 0 0 0 0 false 0),.int .i64 1])∧Fs w0 w' F X A ι rs:=by
  have hh:=(((h.newArr #[.pointer (some ⟨cb,0,none⟩)] 25 neCatp).newArr (stz p3 p4 p5 p6 p7) 29 neStg2).newArr (tpz ByteArray.empty 0 0 0 0 0 false 0) 31 neTp)
  simp only [size_alloc] at hh
  obtain ⟨y,hy⟩: ∃y,((w.alloc (.cells #[.pointer (some ⟨cb,0,none⟩)] 25 (0,0))).alloc (.cells (stz p3 p4 p5 p6 p7) 29 (0,0))).alloc (.cells (tpz ByteArray.empty 0 0 0 0 0 false 0) 31 (0,0))=y:=⟨_,rfl⟩
  obtain ⟨b1,hb1⟩: ∃b1,w.heap.size=b1:=⟨_,rfl⟩
  rw [hy,hb1] at hh
  obtain ⟨b2,hb2⟩: ∃b2,b1+1=b2:=⟨_,rfl⟩
  rw [hb2] at hh
  obtain ⟨b3,hb3⟩: ∃b3,b2+1=b3:=⟨_,rfl⟩
  rw [hb3] at hh
  have c0:y.cell? ⟨b1,0,none⟩=some (.pointer (some ⟨cb,0,none⟩)):=(hh.arrCell (i:=2) rfl 0).trans rfl
  have HR:=Lib.hid (c_ready hh (i:=i+3) hr)
  have HN:=Lib.hid (hN y)
  have HY:=Lib.hid (And.intro hy (And.intro hb1 (And.intro hb2 hb3)))
  have HH:=Lib.hid hh
  have HBD:=Lib.hid hb
  clear h hr hN hb hh hy hb1 hb2 hb3
  go_enter Tryz.func11,Tryz.ntmps11
  go_upto_region 1 with (refine allocRow rfl _ _ zeroTp rfl ?_)
  rw [HY.out.1,HY.out.2.1,HY.out.2.2.1,HY.out.2.2.2]
  clear HY
  go_wp2_with fail
  refine HR.out.mono ?_
  clear HR
  rintro e w2 ⟨rfl,rfl⟩
  go_wp2_with fail
  refine HN.out.mono ?_
  clear HN
  rintro e w2 ⟨rfl,hf⟩
  have HH2:=Lib.hid (HH.out.frm hf)
  have HB3:=Lib.hid (HH2.out.block (i:=0) rfl)
  have HX:=Lib.hid (HH2.out.setRow 0 (c':=tpz ByteArray.empty 0 0 0 0 0 false 0) rfl)
  clear HH hf c0
  cases b with
  | false=>
    clear HBD
    go_wp2_with (refine storeTp rfl _ _ rfl b3 ByteArray.empty 0 0 0 0 0 false 0 rfl rfl _ rfl HB3.out ?_)
    have hld:=run_loadVar_row (P:=Tryz.prog) _ b3 31 31 (tpz ByteArray.empty 0 0 0 0 0 false 0) (0,0) _ (HX.out.block (i:=0) rfl) Tryz.underlying31 rfl (infoTp _ _ _ _ _ _ _ _)
    (try simp only [Exit.inBlock,Exit.then])
    exact bodyPost_ret (v:= .tuple #[.agg (tpz ByteArray.empty 0 0 0 0 0 false 0),.int .i64 1]) (results_ct Tryz.results11 _ _ ⟨b3,0,none⟩ rfl _ hld) rfl ⟨rfl,HX.out.drop 3⟩
  | true=>
    by_cases h1:P<1
    · clear HBD
      go_wp2_with (refine storeTp rfl _ _ rfl b3 ByteArray.empty 0 0 0 0 0 false 0 rfl rfl _ rfl HB3.out ?_)
      have hld:=run_loadVar_row (P:=Tryz.prog) _ b3 31 31 (tpz ByteArray.empty 0 0 0 0 0 false 0) (0,0) _ (HX.out.block (i:=0) rfl) Tryz.underlying31 rfl (infoTp _ _ _ _ _ _ _ _)
      (try simp only [Exit.inBlock,Exit.then])
      exact bodyPost_ret (v:= .tuple #[.agg (tpz ByteArray.empty 0 0 0 0 0 false 0),.int .i64 1]) (results_ct Tryz.results11 _ _ ⟨b3,0,none⟩ rfl _ hld) rfl ⟨rfl,HX.out.drop 3⟩
    · have h8:8<P:=by
        rcases HBD.out with e | e | e
        · cases e
        · omega
        · exact e
      clear HBD
      go_wp2_with (refine storeTp rfl _ _ rfl b3 ByteArray.empty 0 0 0 0 0 false 0 rfl rfl _ rfl HB3.out ?_)
      have hld:=run_loadVar_row (P:=Tryz.prog) _ b3 31 31 (tpz ByteArray.empty 0 0 0 0 0 false 0) (0,0) _ (HX.out.block (i:=0) rfl) Tryz.underlying31 rfl (infoTp _ _ _ _ _ _ _ _)
      (try simp only [Exit.inBlock,Exit.then])
      exact bodyPost_ret (v:= .tuple #[.agg (tpz ByteArray.empty 0 0 0 0 0 false 0),.int .i64 1]) (results_ct Tryz.results11 _ _ ⟨b3,0,none⟩ rfl _ hld) rfl ⟨rfl,HX.out.drop 3⟩
end
section
open Go.ChangeMaps Go.MapKept Go.RowKit
set_option maxRecDepth 100000 in
theorem p_SettingsNo (w:World) (c d e:Int) (f:Bool) (g:Int) (hbad: ¬(512≤c∧c≤8192∧ -1≤d∧d≤1099511627776∧ -1≤e∧e≤1125899906842624∧0≤g∧g≤1125899906842624)):
    Calls Tryz.prog 41 #[.agg (stz c d e f g)] w fun r w'=>r= .returned (.bool false)∧Frm NoB w w':=by
  have hb0:=block_alloc_new w (.cells (stz c d e f g) 29 (0,0))
  have hf0:=(Frm.refl NoB w).alloc (.cells (stz c d e f g) 29 (0,0))
  obtain ⟨y,hy⟩: ∃y,w.alloc (.cells (stz c d e f g) 29 (0,0))=y:=⟨_,rfl⟩
  obtain ⟨k,hk⟩: ∃k,w.heap.size=k:=⟨_,rfl⟩
  rw [hy,hk] at hb0
  rw [hy] at hf0
  have c0:y.cell? ⟨k,0,none⟩=some (.int .i64 c):=(cell_of_block hb0).trans rfl
  have c1:y.cell? ⟨k,1,none⟩=some (.int .i64 d):=(cell_of_block hb0).trans rfl
  have c2:y.cell? ⟨k,2,none⟩=some (.int .i64 e):=(cell_of_block hb0).trans rfl
  have c4:y.cell? ⟨k,4,none⟩=some (.int .i64 g):=(cell_of_block hb0).trans rfl
  have HF:=Lib.hid hf0
  have HY:=Lib.hid (And.intro hy hk)
  have HBD:=Lib.hid hbad
  clear hb0 hf0 hy hk hbad
  by_cases k0:512≤c
  case neg=>
    have k0': ¬(512≤c):=k0
    clear HBD
    go_enter Tryz.func41,Tryz.ntmps41
    go_upto_region 1 with fail
    rw [HY.out.1,HY.out.2]
    go_wp2_with fail
    go_ret
    exact ⟨rfl,HF.out⟩
  by_cases k1:c≤8192
  case neg=>
    have k1': ¬(c≤8192):=k1
    clear HBD
    go_enter Tryz.func41,Tryz.ntmps41
    go_upto_region 1 with fail
    rw [HY.out.1,HY.out.2]
    go_wp2_with fail
    go_ret
    exact ⟨rfl,HF.out⟩
  by_cases k2: -1≤d
  case neg=>
    have k2': ¬(-1≤d):=k2
    clear HBD
    go_enter Tryz.func41,Tryz.ntmps41
    go_upto_region 1 with fail
    rw [HY.out.1,HY.out.2]
    go_wp2_with fail
    go_ret
    exact ⟨rfl,HF.out⟩
  by_cases k3:d≤1099511627776
  case neg=>
    have k3': ¬(d≤1099511627776):=k3
    clear HBD
    go_enter Tryz.func41,Tryz.ntmps41
    go_upto_region 1 with fail
    rw [HY.out.1,HY.out.2]
    go_wp2_with fail
    go_ret
    exact ⟨rfl,HF.out⟩
  by_cases k4: -1≤e
  case neg=>
    have k4': ¬(-1≤e):=k4
    clear HBD
    go_enter Tryz.func41,Tryz.ntmps41
    go_upto_region 1 with fail
    rw [HY.out.1,HY.out.2]
    go_wp2_with fail
    go_ret
    exact ⟨rfl,HF.out⟩
  by_cases k5:e≤1125899906842624
  case neg=>
    have k5': ¬(e≤1125899906842624):=k5
    clear HBD
    go_enter Tryz.func41,Tryz.ntmps41
    go_upto_region 1 with fail
    rw [HY.out.1,HY.out.2]
    go_wp2_with fail
    go_ret
    exact ⟨rfl,HF.out⟩
  by_cases k6:0≤g
  case neg=>
    have k6': ¬(0≤g):=k6
    clear HBD
    go_enter Tryz.func41,Tryz.ntmps41
    go_upto_region 1 with fail
    rw [HY.out.1,HY.out.2]
    go_wp2_with fail
    go_ret
    exact ⟨rfl,HF.out⟩
  have k7: ¬(g≤1125899906842624):=fun k7=>HBD.out ⟨k0,k1,k2,k3,k4,k5,k6,k7⟩
  clear HBD
  go_enter Tryz.func41,Tryz.ntmps41
  go_upto_region 1 with fail
  rw [HY.out.1,HY.out.2]
  go_wp2_with fail
  go_ret
  exact ⟨rfl,HF.out⟩
end
section
open Go.ChangeMaps Go.MapKept Go.RowKit
variable {w0:Gnd} {w:World} {rs:List Res} {X:Sys} {F:FH} {A:Path→Option Nd} {ι:Path→Nat}
set_option maxHeartbeats 1000000 in
set_option maxRecDepth 100000 in
theorem c_CreateSet {cb mb i:Nat} {next:Int} (h:Fs w0 w F X A ι rs) (hr:rs[i]?=some (catS cb F.fb next mb)) {nm:ByteArray} (hN:Named nm true) (P:Int) (hP1:1≤P) (hP8:P≤8) (p3 p4 p5:Int) (p6:Bool) (p7:Int) (hb: ¬(512≤p3∧p3≤8192∧ -1≤p4∧p4≤1099511627776∧ -1≤p5∧p5≤1125899906842624∧0≤p7∧p7≤1125899906842624)):
    Calls Tryz.prog 11 #[.pointer (some ⟨cb,0,none⟩),.string nm,.int .i64 P,.agg (stz p3 p4 p5 p6 p7)] w fun e w'=>e= .returned (.tuple #[.agg (tpz ByteArray.empty 0 0 0 0 0 false 0),.int .i64 1])∧Fs w0 w' F X A ι rs:=by
  have hh:=(((h.newArr #[.pointer (some ⟨cb,0,none⟩)] 25 neCatp).newArr (stz p3 p4 p5 p6 p7) 29 neStg2).newArr (tpz ByteArray.empty 0 0 0 0 0 false 0) 31 neTp)
  simp only [size_alloc] at hh
  obtain ⟨y,hy⟩: ∃y,((w.alloc (.cells #[.pointer (some ⟨cb,0,none⟩)] 25 (0,0))).alloc (.cells (stz p3 p4 p5 p6 p7) 29 (0,0))).alloc (.cells (tpz ByteArray.empty 0 0 0 0 0 false 0) 31 (0,0))=y:=⟨_,rfl⟩
  obtain ⟨b1,hb1⟩: ∃b1,w.heap.size=b1:=⟨_,rfl⟩
  rw [hy,hb1] at hh
  obtain ⟨b2,hb2⟩: ∃b2,b1+1=b2:=⟨_,rfl⟩
  rw [hb2] at hh
  obtain ⟨b3,hb3⟩: ∃b3,b2+1=b3:=⟨_,rfl⟩
  rw [hb3] at hh
  have c0:y.cell? ⟨b1,0,none⟩=some (.pointer (some ⟨cb,0,none⟩)):=(hh.arrCell (i:=2) rfl 0).trans rfl
  have HR:=Lib.hid (c_ready hh (i:=i+3) hr)
  have HN:=Lib.hid (hN y)
  have HY:=Lib.hid (And.intro hy (And.intro hb1 (And.intro hb2 hb3)))
  have HH:=Lib.hid hh
  have KS:Hid (∀W,Calls Tryz.prog 41 #[.agg (stz p3 p4 p5 p6 p7)] W fun r w'=>r= .returned (.bool false)∧Frm NoB W w'):=Lib.hid fun W=>p_SettingsNo W p3 p4 p5 p6 p7 hb
  clear h hr hN hb hh hy hb1 hb2 hb3
  go_enter Tryz.func11,Tryz.ntmps11
  go_upto_region 1 with (refine allocRow rfl _ _ zeroTp rfl ?_)
  rw [HY.out.1,HY.out.2.1,HY.out.2.2.1,HY.out.2.2.2]
  clear HY
  go_wp2_with fail
  refine HR.out.mono ?_
  clear HR
  rintro e w2 ⟨rfl,rfl⟩
  go_wp2_with fail
  refine HN.out.mono ?_
  clear HN
  rintro e w2 ⟨rfl,hf⟩
  have HH2:=Lib.hid (HH.out.frm hf)
  have s0:w2.cell? ⟨b2,0,none⟩=some (.int .i64 p3):=(HH2.out.arrCell (i:=1) rfl 0).trans rfl
  have s1:w2.cell? ⟨b2,1,none⟩=some (.int .i64 p4):=(HH2.out.arrCell (i:=1) rfl 1).trans rfl
  have s2:w2.cell? ⟨b2,2,none⟩=some (.int .i64 p5):=(HH2.out.arrCell (i:=1) rfl 2).trans rfl
  have s3:w2.cell? ⟨b2,3,none⟩=some (.bool p6):=(HH2.out.arrCell (i:=1) rfl 3).trans rfl
  have s4:w2.cell? ⟨b2,4,none⟩=some (.int .i64 p7):=(HH2.out.arrCell (i:=1) rfl 4).trans rfl
  clear HH hf c0
  go_wp2_with fail
  refine (KS.out _).mono ?_
  clear KS s0 s1 s2 s3 s4
  rintro e w3 ⟨rfl,hf3⟩
  have HH3:=Lib.hid (HH2.out.frm hf3)
  have HB3:=Lib.hid (HH3.out.block (i:=0) rfl)
  have HX:=Lib.hid (HH3.out.setRow 0 (c':=tpz ByteArray.empty 0 0 0 0 0 false 0) rfl)
  clear hf3 HH2
  go_wp2_with (refine storeTp rfl _ _ rfl b3 ByteArray.empty 0 0 0 0 0 false 0 rfl rfl _ rfl HB3.out ?_)
  have hld:=run_loadVar_row (P:=Tryz.prog) _ b3 31 31 (tpz ByteArray.empty 0 0 0 0 0 false 0) (0,0) _ (HX.out.block (i:=0) rfl) Tryz.underlying31 rfl (infoTp _ _ _ _ _ _ _ _)
  (try simp only [Exit.inBlock,Exit.then])
  exact bodyPost_ret (v:= .tuple #[.agg (tpz ByteArray.empty 0 0 0 0 0 false 0),.int .i64 1]) (results_ct Tryz.results11 _ _ ⟨b3,0,none⟩ rfl _ hld) rfl ⟨rfl,HX.out.drop 3⟩
set_option maxRecDepth 100000 in
theorem f_Free (h:Fs w0 w F X A ι rs):Calls Tryz.prog 16 #[.pointer (some ⟨F.fb,0,none⟩)] w fun e w'=>e= .returned (.tuple #[.int .i64 X.fb,.int .i64 X.fi])∧Fs w0 w' F X A ι rs:=by
  have c0:w.cell? ⟨F.fb,0,none⟩=some (.pointer (some ⟨X.cb,0,none⟩)):=(h.cells 0).trans rfl
  have c1:w.cell? ⟨F.fb,1,none⟩=some (.pointer (some ⟨X.ab,0,none⟩)):=(h.cells 1).trans rfl
  have HA:Hid (Calls Tryz.prog 49 #[.pointer (some ⟨X.ab,0,none⟩)] w fun e w'=>e= .returned (.tuple #[.int .i64 X.fb,.int .i64 X.fi])∧Fs w0 w' F X A ι rs):=Lib.hid (by
    obtain ⟨⟨k,l,ha,hl⟩,hr⟩:=h
    exact (a_Free ha).mono fun e w' ⟨he,h'⟩=>⟨he,⟨k,l,h',hl⟩,hr⟩)
  clear h
  go_enter Tryz.func16,Tryz.ntmps16
  go_wp2_with fail
  refine HA.out.mono ?_
  clear HA
  rintro e w2 ⟨rfl,h2⟩
  have H2:=Lib.hid h2
  clear h2
  go_wp2
  go_ret2
  exact ⟨rfl,H2.out⟩
end
section
open Go.ChangeMaps Go.MapKept Go.RowKit
set_option maxRecDepth 100000 in
theorem r_Settings (w:World) (c d e:Int) (f:Bool) (g:Int) (h1:512≤c∧c≤8192) (h2: -1≤d∧d≤1099511627776) (h3: -1≤e∧e≤1125899906842624) (h4:0≤g∧g≤1125899906842624):
    Calls Tryz.prog 51 #[.agg (stz c d e f g)] w fun r w'=>r= .returned (.bool true)∧Frm NoB w w':=by
  have hb0:=block_alloc_new w (.cells (stz c d e f g) 29 (0,0))
  have hf0:=(Frm.refl NoB w).alloc (.cells (stz c d e f g) 29 (0,0))
  obtain ⟨y,hy⟩: ∃y,w.alloc (.cells (stz c d e f g) 29 (0,0))=y:=⟨_,rfl⟩
  obtain ⟨k,hk⟩: ∃k,w.heap.size=k:=⟨_,rfl⟩
  rw [hy,hk] at hb0
  rw [hy] at hf0
  have c0:y.cell? ⟨k,0,none⟩=some (.int .i64 c):=(cell_of_block hb0).trans rfl
  have c1:y.cell? ⟨k,1,none⟩=some (.int .i64 d):=(cell_of_block hb0).trans rfl
  have c2:y.cell? ⟨k,2,none⟩=some (.int .i64 e):=(cell_of_block hb0).trans rfl
  have c4:y.cell? ⟨k,4,none⟩=some (.int .i64 g):=(cell_of_block hb0).trans rfl
  have HF:=Lib.hid hf0
  have HY:=Lib.hid (And.intro hy hk)
  obtain ⟨a1,a2⟩:=h1
  obtain ⟨b1,b2⟩:=h2
  obtain ⟨e1,e2⟩:=h3
  obtain ⟨g1,g2⟩:=h4
  clear hb0 hf0 hy hk
  go_enter Tryz.func51,Tryz.ntmps51
  go_upto_region 1 with fail
  rw [HY.out.1,HY.out.2]
  go_wp2_with fail
  go_ret
  exact ⟨rfl,HF.out⟩
set_option maxRecDepth 100000 in
theorem r_SettingsNo (w:World) (c d e:Int) (f:Bool) (g:Int) (hbad: ¬(512≤c∧c≤8192∧ -1≤d∧d≤1099511627776∧ -1≤e∧e≤1125899906842624∧0≤g∧g≤1125899906842624)):
    Calls Tryz.prog 51 #[.agg (stz c d e f g)] w fun r w'=>r= .returned (.bool false)∧Frm NoB w w':=by
  have hb0:=block_alloc_new w (.cells (stz c d e f g) 29 (0,0))
  have hf0:=(Frm.refl NoB w).alloc (.cells (stz c d e f g) 29 (0,0))
  obtain ⟨y,hy⟩: ∃y,w.alloc (.cells (stz c d e f g) 29 (0,0))=y:=⟨_,rfl⟩
  obtain ⟨k,hk⟩: ∃k,w.heap.size=k:=⟨_,rfl⟩
  rw [hy,hk] at hb0
  rw [hy] at hf0
  have c0:y.cell? ⟨k,0,none⟩=some (.int .i64 c):=(cell_of_block hb0).trans rfl
  have c1:y.cell? ⟨k,1,none⟩=some (.int .i64 d):=(cell_of_block hb0).trans rfl
  have c2:y.cell? ⟨k,2,none⟩=some (.int .i64 e):=(cell_of_block hb0).trans rfl
  have c4:y.cell? ⟨k,4,none⟩=some (.int .i64 g):=(cell_of_block hb0).trans rfl
  have HF:=Lib.hid hf0
  have HY:=Lib.hid (And.intro hy hk)
  have HBD:=Lib.hid hbad
  clear hb0 hf0 hy hk hbad
  by_cases k0:512≤c
  case neg=>
    have k0': ¬(512≤c):=k0
    clear HBD
    go_enter Tryz.func51,Tryz.ntmps51
    go_upto_region 1 with fail
    rw [HY.out.1,HY.out.2]
    go_wp2_with fail
    go_ret
    exact ⟨rfl,HF.out⟩
  by_cases k1:c≤8192
  case neg=>
    have k1': ¬(c≤8192):=k1
    clear HBD
    go_enter Tryz.func51,Tryz.ntmps51
    go_upto_region 1 with fail
    rw [HY.out.1,HY.out.2]
    go_wp2_with fail
    go_ret
    exact ⟨rfl,HF.out⟩
  by_cases k2: -1≤d
  case neg=>
    have k2': ¬(-1≤d):=k2
    clear HBD
    go_enter Tryz.func51,Tryz.ntmps51
    go_upto_region 1 with fail
    rw [HY.out.1,HY.out.2]
    go_wp2_with fail
    go_ret
    exact ⟨rfl,HF.out⟩
  by_cases k3:d≤1099511627776
  case neg=>
    have k3': ¬(d≤1099511627776):=k3
    clear HBD
    go_enter Tryz.func51,Tryz.ntmps51
    go_upto_region 1 with fail
    rw [HY.out.1,HY.out.2]
    go_wp2_with fail
    go_ret
    exact ⟨rfl,HF.out⟩
  by_cases k4: -1≤e
  case neg=>
    have k4': ¬(-1≤e):=k4
    clear HBD
    go_enter Tryz.func51,Tryz.ntmps51
    go_upto_region 1 with fail
    rw [HY.out.1,HY.out.2]
    go_wp2_with fail
    go_ret
    exact ⟨rfl,HF.out⟩
  by_cases k5:e≤1125899906842624
  case neg=>
    have k5': ¬(e≤1125899906842624):=k5
    clear HBD
    go_enter Tryz.func51,Tryz.ntmps51
    go_upto_region 1 with fail
    rw [HY.out.1,HY.out.2]
    go_wp2_with fail
    go_ret
    exact ⟨rfl,HF.out⟩
  by_cases k6:0≤g
  case neg=>
    have k6': ¬(0≤g):=k6
    clear HBD
    go_enter Tryz.func51,Tryz.ntmps51
    go_upto_region 1 with fail
    rw [HY.out.1,HY.out.2]
    go_wp2_with fail
    go_ret
    exact ⟨rfl,HF.out⟩
  have k7: ¬(g≤1125899906842624):=fun k7=>HBD.out ⟨k0,k1,k2,k3,k4,k5,k6,k7⟩
  clear HBD
  go_enter Tryz.func51,Tryz.ntmps51
  go_upto_region 1 with fail
  rw [HY.out.1,HY.out.2]
  go_wp2_with fail
  go_ret
  exact ⟨rfl,HF.out⟩
theorem decode_hi (s:ByteArray) (pos:Nat) (h:pos<s.size) (ha: ¬(s.get! pos).toNat<128):
    ∃r k,Utf8.decode s pos=(r,k)∧(r=65533∨(128≤r∧Utf8.valid r=true))∧1≤k∧pos+k≤s.size∧∀j,j<k→¬(s.get! (pos+j)).toNat<128:=by
  have h0: ¬(s.get! (pos+0)).toNat<128:=ha
  have one: ∀j,j<1→¬(s.get! (pos+j)).toNat<128:=fun j hj=>by
    obtain rfl:j=0:=by omega
    exact h0
  have ct: ∀k,(decide (pos+k<s.size) && ((s.get! (pos+k)).toNat/64==2))=true→pos+k<s.size∧¬(s.get! (pos+k)).toNat<128:=fun k hk=>by
    simp only [Bool.and_eq_true,decide_eq_true_eq,beq_iff_eq] at hk
    exact ⟨hk.1,by omega⟩
  unfold Utf8.decode Utf8.runeError
  simp only [if_neg h0]
  split
  · rename_i hc
    simp only [Bool.and_eq_true] at hc
    obtain ⟨-,hc⟩:=hc
    have c1:=ct 1 (by simpa using hc)
    split
    · rename_i hv
      refine ⟨_,_,rfl,.inr ⟨hv,?_⟩,by omega,by omega,fun j hj=>?_⟩
      · have:(s.get! (pos+0)).toNat%32<32:=Nat.mod_lt _ (by omega)
        have:(s.get! (pos+1)).toNat%64<64:=Nat.mod_lt _ (by omega)
        unfold Utf8.valid
        simp only [Bool.or_eq_true,Bool.and_eq_true,decide_eq_true_eq]
        omega
      · obtain rfl | rfl:j=0∨j=1:=by omega
        · exact h0
        · exact c1.2
    · exact ⟨_,_,rfl,.inl rfl,by omega,by omega,one⟩
  · split
    · rename_i hc
      simp only [Bool.and_eq_true] at hc
      obtain ⟨⟨-,hc1⟩,hc2⟩:=hc
      have c1:=ct 1 (by simpa using hc1)
      have c2:=ct 2 (by simpa using hc2)
      split
      · rename_i hv
        simp only [Bool.and_eq_true,decide_eq_true_eq] at hv
        refine ⟨_,_,rfl,.inr ⟨by omega,hv.2⟩,by omega,by omega,fun j hj=>?_⟩
        obtain rfl | rfl | rfl:j=0∨j=1∨j=2:=by omega
        · exact h0
        · exact c1.2
        · exact c2.2
      · exact ⟨_,_,rfl,.inl rfl,by omega,by omega,one⟩
    · split
      · rename_i hc
        simp only [Bool.and_eq_true] at hc
        obtain ⟨⟨⟨-,hc1⟩,hc2⟩,hc3⟩:=hc
        have c1:=ct 1 (by simpa using hc1)
        have c2:=ct 2 (by simpa using hc2)
        have c3:=ct 3 (by simpa using hc3)
        split
        · rename_i hv
          simp only [Bool.and_eq_true,decide_eq_true_eq] at hv
          refine ⟨_,_,rfl,.inr ⟨by omega,hv.2⟩,by omega,by omega,fun j hj=>?_⟩
          obtain rfl | rfl | rfl | rfl:j=0∨j=1∨j=2∨j=3:=by omega
          · exact h0
          · exact c1.2
          · exact c2.2
          · exact c3.2
        · exact ⟨_,_,rfl,.inl rfl,by omega,by omega,one⟩
      · exact ⟨_,_,rfl,.inl rfl,by omega,by omega,one⟩
theorem get!_at (s:ByteArray) (i:Nat) (h:i<s.size):s.get! i=s[i]'h:=by
  show s.get! i=_
  simp [ByteArray.get!,getElem!_pos,h]
  rfl
theorem run_next_any {P:Program} (w:World) (s:ByteArray) (pos:Nat) (ty:TypeId) (h:pos<s.size) {r k:Nat} (hd:Utf8.decode s pos=(r,k)):
    (Instr.next (.pointer (some ⟨w.heap.size,0,none⟩)) true ty).run P (w.iter s pos)= .ok (.tuple #[.bool true,.int .i64 pos,.int .i32 r]) (w.iter s (pos+k)):=by
  simp only [Instr.next,getObj,setObj,Sem.run_bind,Sem.run,World.iter_heap,Result.andThen,h,if_true,hd,World.iter_set]
  simp [goInt,Sem.run,World.iter_heap,World.iter_set]
theorem frm_iter (w:World) (s:ByteArray) (i:Nat):Frm NoB w (w.iter s i):=(Frm.refl NoB w).alloc _
def sl0:ByteArray:=⟨#[47,0]⟩
set_option maxHeartbeats 1000000 in
set_option maxRecDepth 100000 in
theorem u_valid (w:World) (r:Int) (h:Utf8.valid r=true) (h1:128≤r):Calls Tryz.prog 306 #[.int .i32 r] w fun e w'=>w=w'∧e= .returned (.bool true):=by
  unfold Utf8.valid at h
  simp only [Bool.or_eq_true,Bool.and_eq_true,decide_eq_true_eq] at h
  by_cases h2:r<55296
  · have h0:(0:Int)≤r:=by omega
    clear h
    go_enter Tryz.func306,Tryz.ntmps306
    go_wp2_with fail
    go_ret
    exact ⟨rfl,rfl⟩
  · have h0:(0:Int)≤r:=by omega
    have h3:(57343:Int)<r:=by omega
    have h4:r≤1114111:=by omega
    clear h
    go_enter Tryz.func306,Tryz.ntmps306
    go_wp2_with fail
    go_ret
    exact ⟨rfl,rfl⟩
set_option maxHeartbeats 1000000 in
set_option maxRecDepth 100000 in
theorem i_runeErr (w:World):Calls Tryz.prog 255 #[.string sl0,.int .i32 65533] w fun e w'=>e= .returned (.int .i64 (-1))∧Frm NoB w w':=by
  have hs:sl0.size=2:=rfl
  have hn0: ∀ty,(Instr.next (.pointer (some ⟨w.heap.size,0,none⟩)) true ty).run Tryz.prog (w.iter sl0 0)= .ok (.tuple #[.bool true,.int .i64 0,.int .i32 47]) (w.iter sl0 1):=fun ty=>run_next_any (P:=Tryz.prog) w sl0 0 ty (by decide) (r:=47) (k:=1) (by decide+kernel)
  have hn1: ∀ty,(Instr.next (.pointer (some ⟨w.heap.size,0,none⟩)) true ty).run Tryz.prog (w.iter sl0 1)= .ok (.tuple #[.bool true,.int .i64 1,.int .i32 0]) (w.iter sl0 2):=fun ty=>run_next_any (P:=Tryz.prog) w sl0 1 ty (by decide) (r:=0) (k:=1) (by decide+kernel)
  have hn2:=fun ty=>run_next_end (P:=Tryz.prog) w sl0 2 ty (by decide)
  have HF:=Lib.hid (frm_iter w sl0)
  generalize sl0=s at*
  go_enter Tryz.func255,Tryz.ntmps255
  go_wp2_with fail
  go_loopg [5,6] 2 (fun g _ _ wx=> ∃i:Nat,i+g=2∧wx=w.iter s i)
  case atStart=>exact ⟨0,by omega,rfl⟩
  case round=>
    obtain ⟨i,hig,rfl⟩:=hrel
    match gk,hig with
    | 0,hig=>
      obtain rfl:i=2:=by omega
      go_wp2
      go_ret
      exact ⟨rfl,HF.out 2⟩
    | 1,hig=>
      obtain rfl:i=1:=by omega
      go_wp2_with fail
      go_roundg 0
      case measure=>omega
      case rel=>exact ⟨2,rfl,rfl⟩
    | 2,hig=>
      obtain rfl:i=0:=by omega
      go_wp2_with fail
      go_roundg 1
      case measure=>omega
      case rel=>exact ⟨1,rfl,rfl⟩
    | g+3,hig=>exact absurd hig (by omega)
theorem enc_two (r:Nat) (h1:128≤r) (h2:r<2048): ∃a c:UInt8,Utf8.encode (r:Int)=⟨#[a,c]⟩∧128≤c.toNat:=by
  have hv:Utf8.valid (r:Int)=true:=by
    unfold Utf8.valid
    simp only [Bool.or_eq_true,Bool.and_eq_true,decide_eq_true_eq]
    omega
  refine ⟨UInt8.ofNat (192+r/64),UInt8.ofNat (128+r%64),?_,?_⟩
  · unfold Utf8.encode
    simp only [hv,if_true,Int.toNat_natCast]
    rw [if_neg (by omega),if_pos (by omega)]
  · have:r%64<64:=Nat.mod_lt _ (by omega)
    rw [UInt8.toNat_ofNat']
    omega
theorem enc_big (r:Nat) (h1:2048≤r) (hv:Utf8.valid (r:Int)=true):3≤(Utf8.encode (r:Int)).size∧(Utf8.encode (r:Int)).size≤4:=by
  unfold Utf8.encode
  simp only [hv,if_true,Int.toNat_natCast]
  rw [if_neg (by omega),if_neg (by omega)]
  split
  · exact ⟨by show 3≤3;omega,by show 3≤4;omega⟩
  · exact ⟨by show 3≤4;omega,by show 4≤4;omega⟩
set_option maxHeartbeats 2000000 in
set_option maxRecDepth 100000 in
theorem i_runeHi (w:World) (r:Nat) (h1:128≤r) (hv:Utf8.valid (r:Int)=true) (hne:r≠65533):Calls Tryz.prog 255 #[.string sl0,.int .i32 r] w fun e w'=>e= .returned (.int .i64 (-1))∧Frm NoB w w':=by
  have HV:=Lib.hid (u_valid w (r:Int) hv (by omega))
  have r1: ¬(r:Int)<128:=by omega
  have r2: ¬(r:Int)=65533:=by omega
  have r0:(0:Int)≤(r:Int):=by omega
  by_cases h2:r<2048
  · obtain ⟨a,c,he,hc⟩:=enc_two r h1 h2
    have hcv: ∀W,(convert 21 9 (.int .i32 r)).run Tryz.prog W= .ok (.string ⟨#[a,c]⟩) W:=fun W=>by
      rw [←he];exact run_convert_int_string W _ _ .i32 r (by rw [Tryz.underlying21];rfl) Tryz.underlying9
    have hi0: ∀W,(Instr.index 9 (.string ⟨#[a,c]⟩) (.int .i64 1)).run Tryz.prog W= .ok (.int .u8 c.toNat) W:=fun W=>rfl
    have hi1: ∀W,(Instr.index 9 (.string sl0) (.int .i64 1)).run Tryz.prog W= .ok (.int .u8 0) W:=fun W=>rfl
    have hz: ¬(0:Int)=(c.toNat:Int):=by omega
    have HI:Hid (∀W,Calls Tryz.prog 305 #[.string ByteArray.empty,.int .u8 c.toNat] W fun e w'=>e= .returned (.int .i64 (-1))∧w'=W):=Lib.hid fun W=>Any.strings_IndexByte (ρ:=Tryz.containsAny_ren) { Tryz.containsAny with } ByteArray.empty (c.toNat:Int) W
    have hs2:sl0.size=2:=rfl
    have ha2:(⟨#[a,c]⟩:ByteArray).size=2:=rfl
    have hle:(2:Int)≤(sl0.size:Int):=by decide
    have hwr:IntKind.i64.wrap 2=2:=by decide
    generalize sl0=s at*
    generalize (⟨#[a,c]⟩:ByteArray)=rs at*
    generalize (c.toNat:Int)=cz at*
    clear he hv h1 h2 hc hne
    go_enter Tryz.func255,Tryz.ntmps255
    go_wp2_with fail
    refine HV.out.mono ?_
    rintro e w1 ⟨rfl,rfl⟩
    go_wp2_with fail
    go_step3
    go_wp2_with fail
    go_loopw [9,10,11,12] (fun t9 _ _ _ wr=>t9= .int .i64 1∧w=wr) (fun _ _ _ _ _=>0)
    case atStart=>exact ⟨rfl,rfl⟩
    case round=>
      obtain ⟨rfl,rfl⟩:=hrel
      go_wp2_with fail
      go_step3
      go_wp2_with fail
      go_region
      go_wp2_with fail
      go_quiet ((go_at_call 305;exact (HI.out _).mono fun e w' h=>⟨h.1,_,h.2⟩))
      go_wp2_with fail
      simp (zetaDelta:=true) only [Exit.noGoto,Exit.inBlock,Exit.then]
      go_ret
      exact ⟨rfl,(Frm.refl NoB w).drewN _⟩
  · obtain ⟨b1,b2⟩:=enc_big r (by omega) hv
    have hcv: ∀W,(convert 21 9 (.int .i32 r)).run Tryz.prog W= .ok (.string (Utf8.encode (r:Int))) W:=fun W=>run_convert_int_string W _ _ .i32 r (by rw [Tryz.underlying21];rfl) Tryz.underlying9
    have hs2:sl0.size=2:=rfl
    obtain ⟨k,hk⟩: ∃k,(Utf8.encode (r:Int)).size=k:=⟨_,rfl⟩
    rw [hk] at b1 b2
    have z1:(3:Int)≤(k:Int):=by omega
    have z2:(k:Int)≤4:=by omega
    have z3: ¬((k:Int)-1<2):=by omega
    generalize sl0=s at*
    generalize Utf8.encode (r:Int)=rs at*
    clear hv h1 h2 hne b1 b2
    go_enter Tryz.func255,Tryz.ntmps255
    go_wp2_with fail
    refine HV.out.mono ?_
    rintro e w1 ⟨rfl,rfl⟩
    go_wp2_with fail
    go_step3
    go_wp2_with fail
    go_loopw [9,10,11,12] (fun t9 _ _ _ wr=>t9= .int .i64 ((k:Int)-1)∧w=wr) (fun _ _ _ _ _=>0)
    case atStart=>exact ⟨by go_num,rfl⟩
    case round=>
      obtain ⟨rfl,rfl⟩:=hrel
      go_wp2_with fail
      simp only [Exit.noGoto,Exit.inBlock,Exit.then]
      go_ret
      exact ⟨rfl,Frm.refl _ _⟩
theorem i_rune (w:World) (r:Nat) (h:r=65533∨(128≤r∧Utf8.valid (r:Int)=true)):Calls Tryz.prog 255 #[.string sl0,.int .i32 r] w fun e w'=>e= .returned (.int .i64 (-1))∧Frm NoB w w':=by
  by_cases e:r=65533
  · subst e;exact i_runeErr w
  · rcases h with h | h
    · exact absurd h e
    · exact i_runeHi w r h.1 h.2 e
theorem not_in (x:UInt8) (h: ¬x.toNat<128):([47,0]:List UInt8).contains x=false:=by
  have h1:x≠47:=fun e=>h (by rw [e];decide)
  have h2:x≠0:=fun e=>h (by rw [e];decide)
  simp [h1,h2]
theorem run_next_str {P:Program} (W:World) (b:Nat) (s:ByteArray) (pos:Nat) (ty:TypeId) (hb:W.heap[b]?=some (.stringIter s pos)) (h:pos<s.size) {r k:Nat} (hd:Utf8.decode s pos=(r,k)):
    (Instr.next (.pointer (some ⟨b,0,none⟩)) true ty).run P W= .ok (.tuple #[.bool true,.int .i64 pos,.int .i32 r]) (setBlock W b (.stringIter s (pos+k))):=by
  simp [Instr.next,getObj,setObj,Sem.run_bind,Sem.run,hb,Result.andThen,h,hd,setBlock,goInt]
theorem run_next_strEnd {P:Program} (W:World) (b:Nat) (s:ByteArray) (pos:Nat) (ty:TypeId) (hb:W.heap[b]?=some (.stringIter s pos)) (h: ¬pos<s.size):
    (Instr.next (.pointer (some ⟨b,0,none⟩)) true ty).run P W= .ok (.tuple #[.bool false]) W:=by
  simp [Instr.next,getObj,Sem.run,hb,h]
set_option maxHeartbeats 2000000 in
set_option maxRecDepth 100000 in
theorem i_anyShort (w:World) (s:ByteArray) (h8:s.size≤8):Calls Tryz.prog 193 #[.string s,.string sl0] w fun e w'=>e= .returned (.int .i64 (Lib.indexAny s.data.toList [47,0]))∧Frm NoB w w':=by
  have hs2:sl0.size=2:=rfl
  have hemp:sl0.toList.isEmpty=false:=by decide+kernel
  have hn1:((sl0.size:Int)==1)=false:=by decide+kernel
  have hAS:Hid (Calls Tryz.prog 256 #[.int .i64 s.size] w fun e w'=>w=w'∧e= .returned (.bool false)):=Lib.hid ((Any.strings_shouldUseASCIISet (ρ:=Tryz.containsAny_ren) { Tryz.containsAny with } _ w).mono fun e w' ⟨q1,q2⟩=>⟨q2.symm,by rw [q1];simp;omega⟩)
  have KA:Hid (∀W (x:UInt8),x.toNat<128→Calls Tryz.prog 255 #[.string sl0,.int .i32 x.toNat] W fun e w'=>W=w'∧e= .returned (.int .i64 (Lib.indexByte [47,0] x))):=Lib.hid fun W x hx=>by
    have:=Any.strings_IndexRune_ascii (ρ:=Tryz.containsAny_ren) { Tryz.containsAny with } sl0 (x.toNat:Int) W (by omega) (by omega)
    have hback:((x.toNat:Int)).toNat.toUInt8=x:=by simp
    rw [hback] at this
    exact this.mono fun e w' ⟨q1,q2⟩=>⟨q2.symm,q1⟩
  have KH:Hid (∀W (r:Nat),(r=65533∨(128≤r∧Utf8.valid (r:Int)=true))→Calls Tryz.prog 255 #[.string sl0,.int .i32 r] W fun e w'=>e= .returned (.int .i64 (-1))∧Frm NoB W w'):=Lib.hid fun W r h=>i_rune W r h
  have hF0:Frm NoB w (w.alloc (.stringIter s 0)):=(Frm.refl NoB w).alloc _
  have HF0:=Lib.hid hF0
  have HB0:=Lib.hid (block_alloc_new w (.stringIter s 0))
  have hrg:(Instr.range 9 (.string s)).run Tryz.prog w= .ok (.pointer (some ⟨w.heap.size,0,none⟩)) (w.alloc (.stringIter s 0)):=run_range_string w _ s Tryz.underlying9
  obtain ⟨y,hy⟩: ∃y,w.alloc (.stringIter s 0)=y:=⟨_,rfl⟩
  obtain ⟨b,hb⟩: ∃b,w.heap.size=b:=⟨_,rfl⟩
  rw [hy,hb] at hrg HB0
  rw [hy] at HF0
  have HBW:=Lib.hid (show w.heap.size≤b by omega)
  clear hF0 hy hb
  generalize sl0=sl at*
  go_enter Tryz.func193,Tryz.ntmps193
  go_wp2_with fail
  refine hAS.out.mono ?_
  clear hAS
  rintro e w1 ⟨rfl,rfl⟩
  go_wp2_with fail
  go_loopg [9,10] s.size (fun g _ _ wx=> ∃i:Nat,i+g=s.size∧Hid (wx.heap[b]?=some (.stringIter s i))∧Hid (Frm NoB w wx)∧Hid (Lib.NoAny s.data.toList [47,0] i))
  case atStart=>exact ⟨0,by omega,HB0,HF0,Lib.hid (Lib.NoAny.zero _ _)⟩
  case round=>
    clear HB0 HF0 hrg
    obtain ⟨i,hig,HB,HF,HN⟩:=hrel
    by_cases hi:i<s.size
    · by_cases ha:(s.get! i).toNat<128
      · have hd:Utf8.decode s i=((s.get! i).toNat,1):=by
          rw [get!_at s i hi] at ha ⊢
          exact decode_ascii s i hi ha
        have hnx:=fun ty=>run_next_str (P:=Tryz.prog) wr b s i ty HB.out hi hd
        have hx:s.data.toList[i]?=some (s.get! i):=by rw [get!_at s i hi];exact Lib.data_getElem? s i hi
        obtain ⟨x,hx0⟩: ∃x,s.get! i=x:=⟨_,rfl⟩
        rw [hx0] at hnx hx ha
        have hlt:=lt_of_block HB.out
        obtain ⟨y2,hy2⟩: ∃y2,setBlock wr b (.stringIter s (i+1))=y2:=⟨_,rfl⟩
        have HB2:Hid (y2.heap[b]?=some (.stringIter s (i+1))):=Lib.hid (by rw [←hy2];exact (heap_set (o':= .stringIter s (i+1)) HB.out).1)
        have HF2:Hid (Frm NoB w y2):=Lib.hid (by
          rw [←hy2]
          exact HF.out.trans ((Frm.refl (Only b) wr).setBlock (.inl (Only.self b)) _) fun z hz e=>by have:z=b:=e;have:=HBW.out;omega)
        rw [hy2] at hnx
        have HKA:=Lib.hid (KA.out y2 x ha)
        have Hx:=Lib.hid hx
        have hcon:=Lib.contains_iff_indexByte [47,0] x
        clear hd ha hx hx0 hy2 HB HF
        cases hin:([47,0]:List UInt8).contains x
        · rw [hin] at hcon
          have hlt: ¬((0:Int)≤Lib.indexByte [47,0] x):=of_decide_eq_false hcon.symm
          have HN2:=Lib.hid (HN.out.succ Hx.out hin)
          clear hcon hin HN
          generalize Lib.indexByte [47,0] x=q at*
          go_wp2_with fail
          refine HKA.out.mono ?_
          rintro e w3 ⟨rfl,rfl⟩
          go_wp2_with fail
          go_roundg (s.size-(i+1))
          case measure=>omega
          case rel=>exact ⟨i+1,by omega,HB2,HF2,HN2⟩
        · rw [hin] at hcon
          have hge:(0:Int)≤Lib.indexByte [47,0] x:=of_decide_eq_true hcon.symm
          have HI:=Lib.hid (Lib.indexAny_hit HN.out Hx.out hin)
          clear hcon hin HN
          generalize Lib.indexByte [47,0] x=q at*
          go_wp2_with fail
          refine HKA.out.mono ?_
          rintro e w3 ⟨rfl,rfl⟩
          go_wp2_with fail
          go_ret
          exact ⟨by rw [HI.out];rfl,HF2.out⟩
      · obtain ⟨r,k,hd,hr,hk1,hk2,hk3⟩:=decode_hi s i hi ha
        have hnx:=fun ty=>run_next_str (P:=Tryz.prog) wr b s i ty HB.out hi hd
        obtain ⟨y2,hy2⟩: ∃y2,setBlock wr b (.stringIter s (i+k))=y2:=⟨_,rfl⟩
        have HB2:Hid (y2.heap[b]?=some (.stringIter s (i+k))):=Lib.hid (by rw [←hy2];exact (heap_set (o':= .stringIter s (i+k)) HB.out).1)
        have HF2:Hid (Frm NoB w y2):=Lib.hid (by
          rw [←hy2]
          exact HF.out.trans ((Frm.refl (Only b) wr).setBlock (.inl (Only.self b)) _) fun z hz e=>by have:z=b:=e;have:=HBW.out;omega)
        rw [hy2] at hnx
        have HKH:=Lib.hid (KH.out y2 r hr)
        have HN2:Hid (Lib.NoAny s.data.toList [47,0] (i+k)):=Lib.hid fun j x hj hx=>by
          by_cases hji:j<i
          · exact HN.out j x hji hx
          · have h3:=hk3 (j-i) (by omega)
            rw [show i+(j-i)=j by omega] at h3
            have hjs:j<s.size:=by omega
            have:s.data.toList[j]?=some (s.get! j):=by rw [get!_at s j hjs];exact Lib.data_getElem? s j hjs
            rw [this] at hx
            cases hx
            exact not_in _ h3
        have HK:=Lib.hid (And.intro hk1 hk2)
        clear ha hd hr hk1 hk2 hk3 hy2 HB HF HN
        go_wp2_with fail
        refine HKH.out.mono ?_
        rintro e w3 ⟨rfl,hf3⟩
        have HB3:Hid (w3.heap[b]?=some (.stringIter s (i+k))):=Lib.hid ((hf3.block b (lt_of_block HB2.out) (fun e=>e)).trans HB2.out)
        have HF3:=Lib.hid (HF2.out.trans hf3 fun _ _ e=>e)
        clear hf3 HB2 HF2
        go_wp2_with fail
        go_roundg (s.size-(i+k))
        case measure=>have:=HK.out;omega
        case rel=>exact ⟨i+k,by have:=HK.out;omega,HB3,HF3,HN2⟩
    · have hnx:=fun ty=>run_next_strEnd (P:=Tryz.prog) wr b s i ty HB.out hi
      have HI:=Lib.hid (Lib.indexAny_none (s:=s.data.toList) (chars:= [47,0]) (by rw [←Lib.size_eq,show s.size=i by omega];exact HN.out))
      clear HN
      go_wp2
      go_ret
      exact ⟨by rw [HI.out];rfl,HF.out⟩
theorem sl0_ascii (j:Nat) (b:UInt8) (hb:sl0.data.toList[j]?=some b):b.toNat<128:=by
  match j,hb with
  | 0,hb=>cases hb;decide
  | 1,hb=>cases hb;decide
  | j+2,hb=>cases hb
theorem i_any (w:World) (s:ByteArray) (h:s.size≤300):Calls Tryz.prog 193 #[.string s,.string sl0] w fun e w'=>e= .returned (.int .i64 (Lib.indexAny s.data.toList [47,0]))∧Frm NoB w w':=by
  by_cases h8:s.size≤8
  · exact i_anyShort w s h8
  · have h116:(Tryz.prog.info? (Tryz.containsAny_ren.t 116)).map (fun i=>(i.zero,i.size))=some (some (.agg (Array.replicate 256 (.bool false))),256):=by kernel_rfl
    refine (Any.strings_IndexAny_long (ρ:=Tryz.containsAny_ren) { Tryz.containsAny with } (zero_of_info h116).1 (zero_of_info h116).2 s sl0 w (by decide) (by omega) (by omega) (by decide) sl0_ascii).mono ?_
    rintro e w' ⟨he,hw⟩
    exact ⟨he,by rw [hw];exact ((Frm.refl NoB w).alloc _).alloc _⟩
set_option maxRecDepth 100000 in
theorem c_any (w:World) (s:ByteArray) (h:s.size≤300):Calls Tryz.prog 101 #[.string s,.string sl0] w fun e w'=>e= .returned (.bool (Lib.containsAny s.data.toList [47,0]))∧Frm NoB w w':=by
  have HI:=Lib.hid (i_any w s h)
  unfold Lib.containsAny
  generalize Lib.indexAny s.data.toList [47,0]=q at*
  generalize sl0=sl at*
  go_enter Tryz.func101,Tryz.ntmps101
  go_wp2_with fail
  refine HI.out.mono ?_
  rintro e w2 ⟨rfl,hf⟩
  have HF:=Lib.hid hf
  clear hf
  go_wp2
  go_ret
  exact ⟨rfl,HF.out⟩
def nmB (s:ByteArray):Bool:=decide (1≤s.size) && decide (s.size≤50) && !Lib.containsAny s.data.toList [47,0] && !(s.data.toList== [46]) && !(s.data.toList== [46,46])
set_option maxHeartbeats 1000000 in
set_option maxRecDepth 100000 in
theorem d_NameAny (s:ByteArray) (h:s.size≤300):Named s (nmB s):=fun w=>by
  unfold nmB
  have hc:=c_any w s h
  rw [←Go.Lib.toList_data] at hc
  have HC:=Lib.hid hc
  clear hc
  rw [←Go.Lib.toList_data]
  have hsz:s.size=s.toList.length:=by rw [Go.Lib.size_eq,Go.Lib.toList_data]
  by_cases h0:s.size=0
  · have h1:s.toList= []:=List.eq_nil_of_length_eq_zero (by omega)
    rw [decide_eq_false (show¬1≤s.size by omega)]
    clear HC hsz h h0
    go_enter Tryz.func40,Tryz.ntmps40
    go_wp2_with fail
    go_ret
    exact ⟨rfl,Frm.refl _ _⟩
  · have h1: ¬s.toList= []:=fun e=>by rw [e] at hsz;exact h0 hsz
    rw [decide_eq_true (show 1≤s.size by omega)]
    by_cases h5:s.size≤50
    · rw [decide_eq_true h5]
      have h4:(s.size:Int)≤50:=by omega
      have hsl:sl0=⟨#[47,0]⟩:=rfl
      rw [hsl] at HC
      generalize Lib.containsAny s.toList [47,0]=ca at*
      clear hsz h h0 h5 hsl
      go_enter Tryz.func40,Tryz.ntmps40
      go_wp2_with fail
      refine HC.out.mono ?_
      clear HC
      rintro e w2 ⟨rfl,hf⟩
      have HF:=Lib.hid hf
      clear hf
      cases ca
      · by_cases k1:s.toList= [46]
        · go_wp2_with fail
          go_ret
          exact ⟨by simp [k1],HF.out⟩
        · go_wp2_with fail
          go_ret
          have h1':s.toList.isEmpty=false:=by cases h:s.toList with | nil=>exact absurd h h1 | cons a l=>rfl
          exact ⟨by simp [h1',k1],HF.out⟩
      · go_wp2_with fail
        go_ret
        exact ⟨by simp,HF.out⟩
    · rw [decide_eq_false h5]
      have h4: ¬(s.size:Int)≤50:=by omega
      clear HC hsz h h0 h5
      go_enter Tryz.func40,Tryz.ntmps40
      go_wp2_with fail
      go_ret
      exact ⟨by simp,Frm.refl _ _⟩
set_option maxHeartbeats 1000000 in
set_option maxRecDepth 100000 in
theorem r_Name (w:World) (s:ByteArray):Calls Tryz.prog 50 #[.string s] w fun e w'=>w=w'∧e= .returned (.bool (nmB s)):=by
  unfold nmB
  rw [←Go.Lib.toList_data]
  have hsz:s.size=s.toList.length:=by rw [Go.Lib.size_eq,Go.Lib.toList_data]
  by_cases h0:s.toList= []
  · rw [decide_eq_false (show¬1≤s.size by rw [hsz,h0];decide)]
    clear hsz
    go_enter Tryz.func50,Tryz.ntmps50
    go_wp2_with fail
    go_ret
    exact ⟨rfl,by simp⟩
  · rw [decide_eq_true (show 1≤s.size by rw [hsz];cases h:s.toList with | nil=>exact absurd h h0 | cons a l=>simp)]
    by_cases h5:s.size≤50
    · rw [decide_eq_true h5]
      have h4: ¬(50:Int)<(s.size:Int):=by omega
      by_cases k1:s.toList= [46]
      · clear hsz h5
        go_enter Tryz.func50,Tryz.ntmps50
        go_wp2_with fail
        go_ret
        exact ⟨rfl,by simp [k1]⟩
      · by_cases k2:s.toList= [46,46]
        · clear hsz h5
          go_enter Tryz.func50,Tryz.ntmps50
          go_wp2_with fail
          go_ret
          exact ⟨rfl,by simp [k2]⟩
        · have b1:(s.toList== [46])=false:=beq_eq_false_iff_ne.2 k1
          have b2:(s.toList== [46,46])=false:=beq_eq_false_iff_ne.2 k2
          have b0:s.toList.isEmpty=false:=by cases h:s.toList with | nil=>exact absurd h h0 | cons a l=>rfl
          have HK:Hid (∀b:Bool,(true && true && !b && !(s.toList== [46]) && !(s.toList== [46,46]))=!b):=Lib.hid fun b=>by rw [b1,b2];cases b<;>rfl
          rw [HK.out]
          clear hsz h5 HK
          go_enter Tryz.func50,Tryz.ntmps50
          go_wp2_with fail
          clear k1 k2 h0 b0 b1 b2
          go_loopg [3] s.size (fun g t3 wx=> ∃i:Nat,i+g=s.size∧t3= .int .i64 i∧w=wx∧Hid (Lib.NoAny s.data.toList [47,0] i))
          case atStart=>exact ⟨0,by omega,rfl,rfl,Lib.hid (Lib.NoAny.zero _ _)⟩
          case round=>
            obtain ⟨i,hig,rfl,rfl,HN⟩:=hrel
            cases gk with
            | zero=>
              obtain rfl:i=s.size:=by omega
              have hiz: ¬((s.size:Int)<(s.size:Int)):=by omega
              have HI:Hid (Lib.containsAny s.toList [47,0]=false):=Lib.hid (by
                unfold Lib.containsAny
                rw [Go.Lib.toList_data,Lib.indexAny_none (by rw [←Lib.size_eq];exact HN.out)]
                decide)
              clear HN
              go_wp2
              go_ret
              exact ⟨rfl,by rw [HI.out];rfl⟩
            | succ g=>
              have hi:i<s.size:=by omega
              have hiz:(i:Int)<(s.size:Int):=by omega
              obtain ⟨x,hx⟩: ∃x:UInt8,s[i]'hi=x:=⟨_,rfl⟩
              have hxl:s.data.toList[i]?=some x:=by rw [←hx];exact Lib.data_getElem? s i hi
              have Hx:=Lib.hid hxl
              clear hxl
              have HHIT:Hid (([47,0]:List UInt8).contains x=true→Lib.containsAny s.toList [47,0]=true):=Lib.hid fun hin=>by
                unfold Lib.containsAny
                rw [Go.Lib.toList_data,Lib.indexAny_hit HN.out Hx.out hin]
                exact decide_eq_true (by omega)
              by_cases x0:x=0
              · subst x0
                have HR:=Lib.hid (HHIT.out (by decide))
                clear HHIT HN Hx
                go_wp2
                go_ret
                exact ⟨rfl,by rw [HR.out];rfl⟩
              · by_cases x1:x=47
                · subst x1
                  have HR:=Lib.hid (HHIT.out (by decide))
                  clear HHIT HN Hx x0
                  go_wp2
                  go_ret
                  exact ⟨rfl,by rw [HR.out];rfl⟩
                · have HN2:=Lib.hid (HN.out.succ Hx.out (by simp [x0,x1]))
                  have z0:((x.toNat:Int)==0)=false:=beq_eq_false_iff_ne.2 fun e=>x0 (UInt8.toNat_inj.1 (by have:(0:UInt8).toNat=0:=rfl;omega))
                  have z1:((x.toNat:Int)==47)=false:=beq_eq_false_iff_ne.2 fun e=>x1 (UInt8.toNat_inj.1 (by have:(47:UInt8).toNat=47:=rfl;omega))
                  clear HHIT HN Hx x0 x1
                  go_wp2
                  go_roundg g
                  case measure=>omega
                  case rel=>exact ⟨i+1,by omega,by first | rfl | simp,rfl,HN2⟩
    · have h4:(50:Int)<(s.size:Int):=by omega
      rw [decide_eq_false h5]
      clear hsz h5
      go_enter Tryz.func50,Tryz.ntmps50
      go_wp2_with fail
      go_ret
      exact ⟨rfl,by simp⟩
theorem neRC: ¬U8T (111:TypeId):=by decide
set_option maxRecDepth 100000 in
theorem r_New (w:World):Calls Tryz.prog 17 #[] w fun e w'=>e= .returned (.pointer (some ⟨w.heap.size,0,none⟩))∧w'=w.alloc (.cells #[.slice none 0 0,.int .i64 1] 111 (0,0)):=by
  go_enter Tryz.func17,Tryz.ntmps17
  go_wp2_with fail
  go_ret
  exact ⟨rfl,rfl⟩
theorem zeroRT (W:World):(zeroValue 45).run Tryz.prog W= .ok (.agg (tpz ByteArray.empty 0 0 0 0 0 false 0)) W:=by kernel_rfl
theorem infoRT (nm:ByteArray) (p1 p2 p3 p4 p5:Int) (p6:Bool) (p7:Int):(Tryz.prog.info? 45).map (·.size)=some (tpz nm p1 p2 p3 p4 p5 p6 p7).size:=by
  show _=some 8
  kernel_rfl
theorem storeRT {ops:Array Oper} {rest:List Oper} {o:Oper} {a:Act} {w:World} {Q:Exit→Act→World→Prop} (hgd:o.guard=none) (x y:Operand) (ho:o.op= .store 45 x y) (g:Nat) (nm:ByteArray) (p1 p2 p3 p4 p5:Int) (p6:Bool) (p7:Int) (hx:a.eval x= .pointer (some ⟨g,0,none⟩)) (hy:a.eval y= .agg (tpz nm p1 p2 p3 p4 p5 p6 p7)) (old:Array Value) (hold:old.size=8)
    (hg:w.heap[g]?=some (.cells old 45 (0,0))) (h:wpList Tryz.prog ops Q rest (a.put o.dst undef) (w.setRow g (tpz nm p1 p2 p3 p4 p5 p6 p7))):wpList Tryz.prog ops Q (o::rest) a w:=
  wpList_store_row hgd _ x y ho g (tpz nm p1 p2 p3 p4 p5 p6 p7) hx hy _ old hg (infoRT _ _ _ _ _ _ _ _) (by rw [hold];rfl) (oneTp _ _ _ _ _ _ _ _) h
end
end Go.Proofs.YtlemndledcmhiaaGreatDoor
