/-
  The catalog, from the device up, part 5.
-/
import Derived.Test.YtlemndledcmhiaaGreatDoorU4
import Derived.Laws.OwnMore
import Derived.Deep.CutRange
import Derived.Deep.RegionLaw
namespace Go.Proofs.YtlemndledcmhiaaGreatDoor
set_option linter.unusedVariables false
set_option linter.unusedSimpArgs false
section
open Go.ChangeMaps Go.MapKept Go.RowKit
set_option maxRecDepth 100000 in
theorem S_wr1 {w0:Gnd} {w:World} {rs:List Res} (h:St w0 w rs) (a ij i1 i2 i3 i4:Nat) {H:Hdl} {D:DSt} {jb bj bn bi bc n s i:Nat} {c:Array Value} {x:Int} {u:Value} {d:Blk} {t1: ¬U8T (219:TypeId)} {t2: ¬U8T (130:TypeId)}
    {t3: ¬U8T (101:TypeId)} {t4: ¬U8T (3:TypeId)} {t5: ¬U8T (274:TypeId)}
    (hr:rs[a]?=some (dev H D)) (hj:rs[ij]?=some (arr jb c 219 t1)) (hc0:c[0]?=some (.pointer (some ⟨H.b,0,none⟩))) (h1:rs[i1]?=some (arr bj #[.pointer (some ⟨jb,0,none⟩)] 130 t2))
    (h2:rs[i2]?=some (arr bn #[.int .u64 n] 101 t3)) (h3:rs[i3]?=some (arr bi #[.int .i64 i] 3 t4)) (h4:rs[i4]?=some (arr bc #[.int .i64 x,u] 274 t5))
    (hu:BytesAt w u d AnyB) (hd:d.length=512) (hn:n<18446744073709551616) (hs:n%4=s) (hi:i<60) (hD:246≤D.n) (ho:D.ops<2000000000)
    (q1:ij≠a) (q2:i1≠a) (q3:i2≠a) (q4:i3≠a) (q5:i4≠a):
    Calls Tryz.prog 345 #[.pointer (some ⟨bj,0,none⟩),.pointer (some ⟨bn,0,none⟩),.pointer (some ⟨bi,0,none⟩),.pointer (some ⟨bc,0,none⟩)] w (OpsRet w0 rs a H [.wr (slotB s+1+i) d] D):=by
  have H0:=Lib.hid h
  have HS:Hid (∀W,Calls Tryz.prog 138 #[.int .u64 n] W fun e w'=>e= .returned (.int .i64 s)∧w'=W):=Lib.hid fun W=>slot_is W n s hn hs
  have hs4:s<4:=by omega
  have hs5:(0:Int)≤(s:Int):=Int.natCast_nonneg _
  have hs6:(s:Int)≤1000:=by omega
  obtain ⟨j,hjj⟩: ∃j:Int,(i:Int)+1=j:=⟨_,rfl⟩
  have b1:0≤j:=by omega
  have b2:j≤1000:=by omega
  have b4:0≤1+(s:Int)*61+j:=by omega
  have b5:1+(s:Int)*61+j<(D.n:Int):=by omega
  have b6:(1+(s:Int)*61+j).toNat=slotB s+1+i:=by unfold slotB;omega
  have B6:=Lib.hid b6
  have HO:Hid (D.ops<4611686018427387904):=Lib.hid (by omega)
  have hwr:IntKind.i64.wrap ((i:Int)+1)=j:=by rw [IntWalk.i64_in _ (by omega)];exact hjj
  have cells: ∀y rs',(∀i,i≠a+1→rs'[i]?=(byt u d::rs)[i]?)→St w0 y rs'→y.cell? ⟨bj,0,none⟩=some (.pointer (some ⟨jb,0,none⟩))∧y.cell? ⟨jb,0,none⟩=some (.pointer (some ⟨H.b,0,none⟩))∧y.cell? ⟨bn,0,none⟩=some (.int .u64 n)∧y.cell? ⟨bi,0,none⟩=some (.int .i64 i)∧y.cell? ⟨bc,1,none⟩=some u:=fun y rs' he hy=>
    ⟨(hy.arrCell (i:=i1+1) ((he _ (by omega)).trans h1) 0).trans rfl,(hy.arrCell (i:=ij+1) ((he _ (by omega)).trans hj) 0).trans hc0,(hy.arrCell (i:=i2+1) ((he _ (by omega)).trans h2) 0).trans rfl,(hy.arrCell (i:=i3+1) ((he _ (by omega)).trans h3) 0).trans rfl,(hy.arrCell (i:=i4+1) ((he _ (by omega)).trans h4) 1).trans rfl⟩
  have H1:=Lib.hid (h.make (Frm.refl _ _) (byt u d) hu (fun _ h=>h.elim))
  have KA:Hid (∀y,Frm NoB w y→y.cell? ⟨bj,0,none⟩=some (.pointer (some ⟨jb,0,none⟩))∧y.cell? ⟨jb,0,none⟩=some (.pointer (some ⟨H.b,0,none⟩))∧y.cell? ⟨bn,0,none⟩=some (.int .u64 n)∧y.cell? ⟨bi,0,none⟩=some (.int .i64 i)∧y.cell? ⟨bc,1,none⟩=some u):=Lib.hid fun y hy=>cells y _ (fun _ _=>rfl) (H1.out.frm0 hy)
  have KB:Hid (∀y X,St w0 y ((byt u d::rs).set (a+1) X)→y.cell? ⟨bj,0,none⟩=some (.pointer (some ⟨jb,0,none⟩))∧y.cell? ⟨jb,0,none⟩=some (.pointer (some ⟨H.b,0,none⟩))∧y.cell? ⟨bn,0,none⟩=some (.int .u64 n)∧y.cell? ⟨bi,0,none⟩=some (.int .i64 i)∧y.cell? ⟨bc,1,none⟩=some u):=Lib.hid fun y X hy=>cells y _ (fun i hi=>List.getElem?_set_ne (Ne.symm hi)) hy
  obtain ⟨c1,c2,c3,c4,c5⟩:=KA.out w (Frm.refl _ _)
  have HR:=Lib.hid hr
  have HDL:=Lib.hid hd
  clear h hr hj hc0 h1 h2 h3 h4 hu hd hn hs hi hD ho cells hjj b6 q1 q2 q3 q4 q5 hs4
  go_enter Tryz.func345,Tryz.ntmps345
  go_wp2_with fail
  go_region_held3 (fun y=>y.cell? ⟨bj,0,none⟩=some (.pointer (some ⟨jb,0,none⟩))∧y.cell? ⟨jb,0,none⟩=some (.pointer (some ⟨H.b,0,none⟩))∧y.cell? ⟨bn,0,none⟩=some (.int .u64 n)∧y.cell? ⟨bi,0,none⟩=some (.int .i64 i)∧y.cell? ⟨bc,1,none⟩=some u)
    (first | exact hS7 | (refine KA.out _ ?_;first | assumption | exact (Frm.refl NoB w).drew | exact ⟨rfl,rfl,rfl,Nat.le_refl _,fun _ _ _=>rfl⟩))
    (first
      | (go_at_call 138;refine (HS.out _).mono ?_;rintro e w3 ⟨rfl,rfl⟩)
      | (go_at_call 140;refine (at_any w.drew (s:Int) j hs5 hs6 b1 b2).mono ?_;rintro e w6 ⟨hf6,rfl⟩;have hf6':Frm NoB w w6:=((Frm.refl NoB w).drew).trans hf6 (fun _ _ e=>e))
      | (go_at_call 227;refine (S_WriteOp (H1.out.frm0 hf6') (a+1) 0 HR.out rfl (1+(s:Int)*61+j) HO.out b4 b5 HDL.out).mono ?_;rintro e w7 ⟨he7,h7⟩;have hS7:=KB.out _ _ h7;rw [B6.out] at he7 h7;subst he7))
  all_goals
   have H7:=Lib.hid (h7.drop 1)
   clear h7 hS7 hwr
   go_wp2
   go_ret
   exact ⟨rfl,H7.out⟩
set_option maxRecDepth 100000 in
theorem S_wr2 {w0:Gnd} {w:World} {rs:List Res} (h:St w0 w rs) (a ij i1 i2 i3 i4:Nat) {H:Hdl} {D:DSt} {jb bj bn bh n s:Nat} {c:Array Value} {u:Value} {d:Blk} {t1: ¬U8T (219:TypeId)} {t2: ¬U8T (130:TypeId)}
    {t3: ¬U8T (101:TypeId)} {t4: ¬U8T (76:TypeId)}
    (hr:rs[a]?=some (dev H D)) (hj:rs[ij]?=some (arr jb c 219 t1)) (hc0:c[0]?=some (.pointer (some ⟨H.b,0,none⟩))) (h1:rs[i1]?=some (arr bj #[.pointer (some ⟨jb,0,none⟩)] 130 t2))
    (h2:rs[i2]?=some (arr bn #[.int .u64 n] 101 t3)) (h3:rs[i3]?=some (arr bh #[u] 76 t4)) (hu:rs[i4]?=some (byt u d)) (hd:d.length=512) (hn:n<18446744073709551616) (hs:n%4=s) (hD:246≤D.n) (ho:D.ops<2000000000)
    (q1:ij≠a) (q2:i1≠a) (q3:i2≠a) (q4:i3≠a):
    Calls Tryz.prog 346 #[.pointer (some ⟨bj,0,none⟩),.pointer (some ⟨bn,0,none⟩),.pointer (some ⟨bh,0,none⟩)] w (OpsRet w0 rs a H [.wr (slotB s) d] D):=by
  have H0:=Lib.hid h
  have HS:Hid (∀W,Calls Tryz.prog 138 #[.int .u64 n] W fun e w'=>e= .returned (.int .i64 s)∧w'=W):=Lib.hid fun W=>slot_is W n s hn hs
  have hs4:s<4:=by omega
  have hs5:(0:Int)≤(s:Int):=Int.natCast_nonneg _
  have hs6:(s:Int)≤1000:=by omega
  have b1:(0:Int)≤0:=by omega
  have b2:(0:Int)≤1000:=by omega
  have b4:0≤1+(s:Int)*61:=by omega
  have b5:1+(s:Int)*61<(D.n:Int):=by omega
  have b6:(1+(s:Int)*61).toNat=slotB s:=by unfold slotB;omega
  have B6:=Lib.hid b6
  have B12:=Lib.hid (And.intro b1 b2)
  have HO:Hid (D.ops<4611686018427387904):=Lib.hid (by omega)
  have cells: ∀y rs',(∀i,i≠a→rs'[i]?=rs[i]?)→St w0 y rs'→y.cell? ⟨bj,0,none⟩=some (.pointer (some ⟨jb,0,none⟩))∧y.cell? ⟨jb,0,none⟩=some (.pointer (some ⟨H.b,0,none⟩))∧y.cell? ⟨bn,0,none⟩=some (.int .u64 n)∧y.cell? ⟨bh,0,none⟩=some u:=fun y rs' he hy=>
    ⟨(hy.arrCell (i:=i1) ((he _ q2).trans h1) 0).trans rfl,(hy.arrCell (i:=ij) ((he _ q1).trans hj) 0).trans hc0,(hy.arrCell (i:=i2) ((he _ q3).trans h2) 0).trans rfl,(hy.arrCell (i:=i3) ((he _ q4).trans h3) 0).trans rfl⟩
  have KA:Hid (∀y,Frm NoB w y→y.cell? ⟨bj,0,none⟩=some (.pointer (some ⟨jb,0,none⟩))∧y.cell? ⟨jb,0,none⟩=some (.pointer (some ⟨H.b,0,none⟩))∧y.cell? ⟨bn,0,none⟩=some (.int .u64 n)∧y.cell? ⟨bh,0,none⟩=some u):=Lib.hid fun y hy=>cells y _ (fun _ _=>rfl) (H0.out.frm0 hy)
  have KB:Hid (∀y X,St w0 y (rs.set a X)→y.cell? ⟨bj,0,none⟩=some (.pointer (some ⟨jb,0,none⟩))∧y.cell? ⟨jb,0,none⟩=some (.pointer (some ⟨H.b,0,none⟩))∧y.cell? ⟨bn,0,none⟩=some (.int .u64 n)∧y.cell? ⟨bh,0,none⟩=some u):=Lib.hid fun y X hy=>cells y _ (fun i hi=>List.getElem?_set_ne (Ne.symm hi)) hy
  obtain ⟨c1,c2,c3,c4⟩:=KA.out w (Frm.refl _ _)
  have HR:=Lib.hid hr
  have HDL:=Lib.hid hd
  have HUU:=Lib.hid hu
  clear h hr hj hc0 h1 h2 h3 hu hd hn hs hD ho cells b6 q1 q2 q3 q4 hs4 b1 b2
  go_enter Tryz.func346,Tryz.ntmps346
  go_wp2_with fail
  go_region_held3 (fun y=>y.cell? ⟨bj,0,none⟩=some (.pointer (some ⟨jb,0,none⟩))∧y.cell? ⟨jb,0,none⟩=some (.pointer (some ⟨H.b,0,none⟩))∧y.cell? ⟨bn,0,none⟩=some (.int .u64 n)∧y.cell? ⟨bh,0,none⟩=some u)
    (first | exact hS7 | (refine KA.out _ ?_;first | assumption | exact (Frm.refl NoB w).drew | exact ⟨rfl,rfl,rfl,Nat.le_refl _,fun _ _ _=>rfl⟩))
    (first
      | (go_at_call 138;refine (HS.out _).mono ?_;rintro e w3 ⟨rfl,rfl⟩)
      | (go_at_call 140;refine (at_any w.drew (s:Int) 0 hs5 hs6 B12.out.1 B12.out.2).mono ?_;rintro e w6 ⟨hf6,rfl⟩;have hf6':Frm NoB w w6:=((Frm.refl NoB w).drew).trans hf6 (fun _ _ e=>e))
      | (go_at_call 227;refine (S_WriteOp (H0.out.frm0 hf6') a i4 HR.out HUU.out (1+(s:Int)*61) HO.out b4 b5 HDL.out).mono ?_;rintro e w7 ⟨he7,h7⟩;have hS7:=KB.out _ _ h7;rw [B6.out] at he7 h7;subst he7))
  all_goals
   have H7:=Lib.hid h7
   clear h7 hS7
   go_wp2
   go_ret
   exact ⟨rfl,H7.out⟩
end
section
open Go.ChangeMaps Go.MapKept Go.RowKit
variable {P:Program}
theorem run_append_rows (w:World) (base base2:Nat) (t ty e:TypeId) (i:TypeInfo) (z:Value) (size bytes:Nat) (ht:P.underlying t=some (.slice e)) (hi:P.info? e=some i) (hz:i.zero=some z) (hsize:i.size=size) (hby:i.bytes=bytes)
    (hzs:z.cells.size=size) (hsz:0<size) (v:Value) (n:Nat) (xs:List Value) (hown:w.ownsRow base e size v n xs) (u:Value) (m:Nat) (ys:List Value) (hu:w.ownsRow base2 e size u m ys) (h1: ∀y∈ys,y.oneCell'=true)
    (h63:n+m≤maxLen) (hbytes:(n+m)*bytes≤140737488355328) (hbase:base≤w.heap.size):
    ∃v' w',(Builtin.append_ #[t,t] ty #[v,u]).run P w= .ok v' w'∧w'.ownsRow base e size v' (n+m) (xs++ys)∧w.grownBy w' v.ownBlock∧(v'.ownBlock=v.ownBlock∨v'.ownBlock=some w.heap.size):=by
  rcases hu.2 with ⟨rfl,rfl⟩ | ⟨g,cap,cur,rfl,_⟩
  · have hys:ys= []:=List.eq_nil_of_length_eq_zero (by simpa using hu.1)
    subst hys
    refine ⟨v,w,?_,by simpa using hown,World.grownBy.refl w _,.inl rfl⟩
    rcases hown.2 with ⟨rfl,rfl⟩ | ⟨g,cap,cur,rfl,_,_,hnc,_⟩
    · simp [Builtin.append_,run_underlying ht,sizeOf,typeInfo,hi,Builtin.lenOf,Builtin.firstCells]
    · simp [Builtin.append_,run_underlying ht,sizeOf,typeInfo,hi,Builtin.lenOf,Builtin.firstCells,hnc,storeCells]
  · obtain ⟨v',w',h,h2,h3,_,h5⟩:=run_append_own_at (P:=P) w base t ty e i z size bytes ht hi hz hsize hby hzs hsz v n xs hown ⟨g,0,none⟩ m cap ys hu.1 (hu.cells (g:=g) rfl) h1 h63 hbytes hbase
    exact ⟨v',w',h,h2,h3,h5⟩
theorem wpList_append_rows {w:World} {ops:Array Oper} {rest:List Oper} {o:Oper} {a:Act} {Q:Exit→Act→World→Prop} (hgd:o.guard=none) (s x:Operand) (t:TypeId)
    (ho:o.op= .call { callee:= .builtin .append,args:= #[s,x],argTypes:= #[t,t] })
    (base base2:Nat) (e:TypeId) (i:TypeInfo) (z:Value) (size bytes:Nat) (ht:P.underlying t=some (.slice e)) (hi:P.info? e=some i) (hz:i.zero=some z) (hsize:i.size=size) (hby:i.bytes=bytes)
    (hzs:z.cells.size=size) (hsz:0<size) (v:Value) (n:Nat) (xs:List Value) (hs:a.eval s=v) (hown:w.ownsRow base e size v n xs) (u:Value) (m:Nat) (ys:List Value) (hx:a.eval x=u) (hu:w.ownsRow base2 e size u m ys) (h1: ∀y∈ys,y.oneCell'=true)
    (h63:n+m≤maxLen) (hbytes:(n+m)*bytes≤140737488355328) (hbase:base≤w.heap.size)
    (h: ∀v' w',w'.ownsRow base e size v' (n+m) (xs++ys)→w.grownBy w' v.ownBlock→(v'.ownBlock=v.ownBlock∨v'.ownBlock=some w.heap.size)→wpList P ops Q rest (a.put o.dst v') w'):wpList P ops Q (o::rest) a w:=by
  refine wpList_plain hgd fun K hK=>?_
  obtain ⟨v',w',hr,h2,h3,h5⟩:=run_append_rows (P:=P) w base base2 t o.type e i z size bytes ht hi hz hsize hby hzs hsz v n xs hown u m ys hu h1 h63 hbytes hbase
  unfold Oper.wp execOp
  simp only [ho,resolve,invoke,builtin,Sem.run_bind,Sem.run_pure,Result.andThen_ok,List.map_toArray,List.map_cons,List.map_nil,hs,hx,hr]
  exact hK _ _ (h v' w' h2 h3 h5)
end
section
open Go.ChangeMaps Go.MapKept Go.RowKit
theorem step_append_own {P:Program} {ops:Array Oper} {o:Oper} {a:Act} {w:World} {K:Act→World→Prop} {Q:Exit→Act→World→Prop} {E:Prop} (hgd:o.guard=none) (s x:Operand) (t:TypeId)
    (ho:o.op= .call { callee:= .builtin .append,args:= #[s,x],argTypes:= #[t,t] })
    (base:Nat) (e:TypeId) (i:TypeInfo) (z:Value) (size bytes:Nat) (ht:P.underlying t=some (.slice e)) (hi:P.info? e=some i) (hz:i.zero=some z) (hsize:i.size=size) (hby:i.bytes=bytes) (hzs:z.cells.size=size) (hsz:0<size)
    (v:Value) (n:Nat) (xs:List Value) (hs:a.eval s=v) (hown:w.ownsRow base e size v n xs) (ad:Addr) (m c:Nat) (news:List Value) (hx:a.eval x= .slice (some ad) m c) (hl:news.length=m*size)
    (hnews: ∀j u,news[j]?=some u→w.cell? (ad.add j)=some u) (h1: ∀u∈news,u.oneCell'=true) (h63:n+m≤maxLen) (hbytes:(n+m)*bytes≤140737488355328) (hbase:base≤w.heap.size)
    (h: ∀v' w',w'.ownsRow base e size v' (n+m) (xs++news)→w.grownBy w' v.ownBlock→(v'.ownBlock=v.ownBlock∨v'.ownBlock=some w.heap.size)→K (a.put o.dst v') w'):
    if Region.wanted o (yielded ops a.tmps)=true then Oper.wp P o a w K Q else E:=by
  rw [if_pos (show Region.wanted o (yielded ops a.tmps)=true by simp [Region.wanted,hgd])]
  obtain ⟨v',w',hr,h2,h3,h4,h5⟩:=run_append_own_at (P:=P) w base t o.type e i z size bytes ht hi hz hsize hby hzs hsz v n xs hown ad m c news hl hnews h1 h63 hbytes hbase
  unfold Oper.wp execOp
  simp only [ho,resolve,invoke,builtin,Sem.run_bind,Sem.run_pure,Result.andThen_ok,List.map_toArray,List.map_cons,List.map_nil,hs,hx,hr]
  exact h v' w' h2 h3 h5
theorem St.rowLit {w0:Gnd} {w:World} {rs:List Res} (h:St w0 w rs) (t:TypeId) (ht: ¬U8T t) (s:Nat) (c:Array Value) (n:Nat) (hm:n≤maxLen) (hs:c.size=n*s):
    St w0 (w.alloc (.cells c t (0,0))) (rowR t ht s (.slice (some ⟨w.heap.size,0,none⟩) n n) n c.toList::rs):=
  h.make ((Frm.refl _ _).alloc _) (rowR t ht s _ _ _) (World.ownsRow_lit w c n (Nat.zero_le _) hm hs) (fun x hx=>by
    have e:some w.heap.size=some x:=hx
    injection e with e
    omega)
theorem set_pre (pre rs:List Res) (a:Nat) (X Y:Res):(pre++rs.set a X).set (pre.length+a) Y=pre++rs.set a Y:=by
  rw [List.set_append_right _ _ (by omega),show pre.length+a-pre.length=a from by omega,List.set_set]
theorem get_pre (pre rs:List Res) (a:Nat) (X:Res) (h:a<rs.length):(pre++rs.set a X)[pre.length+a]?=some X:=by
  rw [List.getElem?_append_right (by omega),show pre.length+a-pre.length=a from by omega,List.getElem?_set_self h]
theorem tries_ops {w0:Gnd} {w:World} {pre rs:List Res} (h:St w0 w (pre++rs)) (a i0:Nat) {H:Hdl} {D:DSt} (hr:rs[a]?=some (dev H D)) {blk cap n:Nat} {xs:List Value} {ht: ¬U8T (100:TypeId)}
    (hrow:pre[i0]?=some (rowR 100 ht 1 (.slice (some ⟨blk,0,none⟩) n cap) n xs)) (g:Nat→FuncId) (fst cp:Nat→Array Value) (hx: ∀i,i<n→xs[i]?=some (.func (.func (g i)) (fst i) (cp i)))
    (he: ∀i,i<n→EntersF Tryz.prog (g i)) (hn:n≤1000000) (L:List (List DOp)) (hL:L.length=n)
    (hs: ∀i E W,i<n→E.n=D.n→E.ops≤D.ops+(L.take i).flatten.length→St w0 W (pre++rs.set a (dev H E))→Calls Tryz.prog (g i) (fst i++cp i) W (OpsRet w0 (pre++rs.set a (dev H E)) (pre.length+a) H (L.getD i []) E)):
    Calls Tryz.prog 141 #[.slice (some ⟨blk,0,none⟩) n cap] w fun e w'=>e= .returned (.int .i64 (endD L.flatten D))∧St w0 w' (pre++rs.set a (dev H (runD L.flatten D))):=by
  have ha:a<rs.length:=(List.getElem?_eq_some_iff.1 hr).1
  refine (tries_any w blk 0 n cap (fun i W=>endD (L.take i).flatten D=0∧St w0 W (pre++rs.set a (dev H (runD (L.take i).flatten D))))
    (fun x W=>x=endD L.flatten D∧St w0 W (pre++rs.set a (dev H (runD L.flatten D)))) g fst cp ?_ ?_ he hn ?_).mono ?_
  · refine ⟨rfl,?_⟩
    have e:rs.set a (dev H D)=rs:=by
      obtain ⟨h1,h2⟩:=List.getElem?_eq_some_iff.1 hr
      rw [←h2];exact List.set_getElem_self h1
    show St w0 w (pre++rs.set a (dev H D))
    rw [e];exact h
  · intro i W hi hW
    have hi0:i0<pre.length:=(List.getElem?_eq_some_iff.1 hrow).1
    have ho:W.ownsRow 0 100 1 (.slice (some ⟨blk,0,none⟩) n cap) n xs:=hW.2.get (i:=i0) (by rw [List.getElem?_append_left hi0];exact hrow)
    have h1:=ho.cells (g:=blk) rfl i _ (hx i hi)
    rw [show (⟨blk,0,none⟩:Addr).add i=⟨blk,0+i,none⟩ from by unfold Addr.add;split<;>simp_all] at h1
    exact h1
  · intro i W hi hW
    have hsplit:(L.take (i+1)).flatten=(L.take i).flatten++L.getD i []:=by
      rw [List.take_succ_eq_append_getElem (by omega),List.flatten_append,List.getD_eq_getElem?_getD,List.getElem?_eq_getElem (by omega)]
      simp
    obtain ⟨e1,e2⟩:=runD_append (L.take i).flatten (L.getD i []) D hW.1
    rw [←hsplit] at e1 e2
    refine (hs i _ W hi (runD_n _ _) (runD_ops _ _) hW.2).mono fun e w' hret=>⟨_,hret.1,fun h0=>⟨e2.trans h0,?_⟩,fun h0=>?_⟩
    · have:=hret.2
      rw [set_pre,←e1] at this
      exact this
    · have h9:=(endD_cases (L.getD i []) (runD (L.take i).flatten D)).resolve_left h0
      have hst:=runD_stop (L.take (i+1)).flatten (L.drop (i+1)).flatten D (e2.trans h9)
      rw [←List.flatten_append,List.take_append_drop] at hst
      have:=hret.2
      rw [set_pre,←e1,←hst.1] at this
      exact ⟨h9.trans hst.2.symm,this⟩
  · rintro e w' (⟨h1,h2,h3⟩ | ⟨x,hx,h1,h2,h3⟩)
    · rw [List.take_of_length_le (by omega)] at h2 h3
      exact ⟨by rw [h1,h2],h3⟩
    · exact ⟨by rw [h1,h2],h3⟩
theorem tries_ops1 {w0:Gnd} {w:World} {pre rs:List Res} (h:St w0 w (pre++rs)) (a i0:Nat) {H:Hdl} {D:DSt} (hr:rs[a]?=some (dev H D)) {blk cap n:Nat} {xs:List Value} {ht: ¬U8T (100:TypeId)}
    (hrow:pre[i0]?=some (rowR 100 ht 1 (.slice (some ⟨blk,0,none⟩) n cap) n xs)) (hn:n≤1000000) (L:List (List DOp)) (hL:L.length=n)
    (hs: ∀i,i<n→∃(g:FuncId) (fst cp:Array Value),xs[i]?=some (.func (.func g) fst cp)∧EntersF Tryz.prog g∧∀E W,E.n=D.n→E.ops≤D.ops+(L.take i).flatten.length→St w0 W (pre++rs.set a (dev H E))→Calls Tryz.prog g (fst++cp) W (OpsRet w0 (pre++rs.set a (dev H E)) (pre.length+a) H (L.getD i []) E)):
    Calls Tryz.prog 141 #[.slice (some ⟨blk,0,none⟩) n cap] w fun e w'=>e= .returned (.int .i64 (endD L.flatten D))∧St w0 w' (pre++rs.set a (dev H (runD L.flatten D))):=by
  have hch: ∃G:Nat→FuncId×Array Value×Array Value,∀i,i<n→xs[i]?=some (.func (.func (G i).1) (G i).2.1 (G i).2.2)∧EntersF Tryz.prog (G i).1∧∀E W,E.n=D.n→E.ops≤D.ops+(L.take i).flatten.length→St w0 W (pre++rs.set a (dev H E))→Calls Tryz.prog (G i).1 ((G i).2.1++(G i).2.2) W (OpsRet w0 (pre++rs.set a (dev H E)) (pre.length+a) H (L.getD i []) E):=
    ⟨fun i=>if h:i<n then ((hs i h).choose,(hs i h).choose_spec.choose,(hs i h).choose_spec.choose_spec.choose) else (0,#[],#[]),fun i hi=>by
      simp only [dif_pos hi]
      exact (hs i hi).choose_spec.choose_spec.choose_spec⟩
  obtain ⟨G,hG⟩:=hch
  exact tries_ops h a i0 hr hrow (fun i=>(G i).1) (fun i=>(G i).2.1) (fun i=>(G i).2.2) (fun i hi=>(hG i hi).1) (fun i hi=>(hG i hi).2.1) hn L hL (fun i E W hi h1 h2 h3=>(hG i hi).2.2 E W h1 h2 h3)
theorem flatten_take_le (L:List (List DOp)) (i:Nat):(L.take i).flatten.length≤L.flatten.length:=by
  have e:L.flatten=(L.take i).flatten++(L.drop i).flatten:=by rw [←List.flatten_append,List.take_append_drop]
  rw [e,List.length_append];omega
theorem flatten_ones: ∀l:List DOp,(l.map fun o=> [o]).flatten=l
  | []=>rfl
  | o::r=>by
    show [o]++(r.map fun o=> [o]).flatten=_
    rw [flatten_ones r];rfl
theorem dataFrom_get (t:Nat): ∀(l:List Blk) (i j:Nat) (b:Blk),l[j]?=some b→(dataFrom t i l)[j]?=some (.wr (slotB t+1+(i+j)) b)
  | [],_,_,_,h=>by simp at h
  | c::r,i,0,b,h=>by simp at h;subst h;rfl
  | c::r,i,j+1,b,h=>by
    have:=dataFrom_get t r (i+1) j b (by simpa using h)
    rw [show i+1+j=i+(j+1) from by omega] at this
    exact this
theorem St.rowAppend0 {w0:Gnd} {w:World} {rs:List Res} (h:St w0 w rs) (i:Nat) {t:TypeId} {ht: ¬U8T t} {s n:Nat} {v:Value} {xs:List Value} (hr:rs[i]?=some (rowR t ht s v n xs)) {v':Value} {w':World} {m:Nat} {ys:List Value}
    (ho:w'.ownsRow 0 t s v' m ys) (hg:w.grownBy w' v.ownBlock) (hat:v'.ownBlock=v.ownBlock∨v'.ownBlock=some w.heap.size):
    St w0 w' (rs.set i (rowR t ht s v' m ys)):=by
  refine h.write i hr ((Frm.ofGrown hg).mono (fun y _ e=>e)) (rowR t ht s v' m ys) ho (fun x hx=>?_)
  rcases hat with e | e
  · exact .inl (show v.ownBlock=some x from e▸(show v'.ownBlock=some x from hx))
  · have hx:v'.ownBlock=some x:=hx
    rw [e] at hx
    have e':w.heap.size=x:=by injection hx
    exact .inr (by omega)
def capW (ks:List Nat) (vs:List Value):List (Nat×Nat)→List Res
  | []=> []
  | p::r=>arr p.1 #[.int .i64 (r.length:Int)] 3 neI8::arr p.2 #[.int .i64 (ks.getD r.length 0:Nat),vs.getD r.length undef] 274 neChg::capW ks vs r
def wFns (bj bn:Nat):List (Nat×Nat)→List Value
  | []=> []
  | p::r=>wFns bj bn r++ [.func (.func 345) #[] #[.pointer (some ⟨bj,0,none⟩),.pointer (some ⟨bn,0,none⟩),.pointer (some ⟨p.1,0,none⟩),.pointer (some ⟨p.2,0,none⟩)]]
theorem wFns_length (bj bn:Nat): ∀l,(wFns bj bn l).length=l.length
  | []=>rfl
  | p::r=>by rw [wFns,List.length_append,wFns_length bj bn r];rfl
theorem wFns_one (bj bn:Nat): ∀l,∀u∈wFns bj bn l,u.oneCell'=true
  | [],u,h=>by cases h
  | p::r,u,h=>by
    rw [wFns] at h
    rcases List.mem_append.1 h with h | h
    · exact wFns_one bj bn r u h
    · simp at h;subst h;rfl
theorem capW_get (ks:List Nat) (vs:List Value) (bj bn:Nat): ∀(l:List (Nat×Nat)) (i:Nat),i<l.length→∃p:Nat×Nat,
    (wFns bj bn l)[i]?=some (.func (.func 345) #[] #[.pointer (some ⟨bj,0,none⟩),.pointer (some ⟨bn,0,none⟩),.pointer (some ⟨p.1,0,none⟩),.pointer (some ⟨p.2,0,none⟩)])∧
    arr p.1 #[.int .i64 (i:Int)] 3 neI8∈capW ks vs l∧arr p.2 #[.int .i64 (ks.getD i 0:Nat),vs.getD i undef] 274 neChg∈capW ks vs l
  | [],i,h=>by simp at h
  | p::r,i,h=>by
    rcases Nat.lt_or_ge i r.length with hi | hi
    · obtain ⟨q,h1,h2,h3⟩:=capW_get ks vs bj bn r i hi
      refine ⟨q,?_,List.mem_cons_of_mem _ (List.mem_cons_of_mem _ h2),List.mem_cons_of_mem _ (List.mem_cons_of_mem _ h3)⟩
      rw [wFns,List.getElem?_append_left (by rw [wFns_length];exact hi)]
      exact h1
    · obtain rfl:i=r.length:=by simp at h;omega
      refine ⟨p,?_,?_,?_⟩
      · rw [wFns,List.getElem?_append_right (by rw [wFns_length];omega),wFns_length,Nat.sub_self];rfl
      · unfold capW;exact List.mem_cons_self ..
      · unfold capW;exact List.mem_cons_of_mem _ (List.mem_cons_self ..)
theorem laidM_any (W:World) (nb g n m:Nat) (hb:W.heap[nb]?=some (.cells #[.int .u64 g,.int .u64 n,.int .u64 m] 101 (0,0))) (hg:g<18446744073709551616) (hn:n<18446744073709551616) (hm:m<18446744073709551616):
    Calls Tryz.prog 245 #[.string { data:= #[66,79,76,76,65,82,68,72] },.slice (some ⟨nb,0,none⟩) 3 3] W fun e w'=> ∃vb vo vc,e= .returned (.slice (some ⟨vb,vo,none⟩) 512 vc)∧Frm NoB W w'∧BytesAt w' (.slice (some ⟨vb,vo,none⟩) 512 vc) (laidB markL [g,n,m]) (Fresh W):=
  (laid_any W { data:= #[66,79,76,76,65,82,68,72] } _ [g,n,m] ⟨_,_,rfl,fun i x hx=>by
      obtain ⟨h1,h2⟩:=List.getElem?_eq_some_iff.1 hx
      have h3:i<3:=by simpa using h1
      refine ⟨nb,0,rfl,lt_of_block hb,?_⟩
      rw [cell_of_block hb,←h2]
      rcases (by omega:i=0∨i=1∨i=2) with rfl | rfl | rfl<;>rfl⟩ (by decide) (by simp) (fun x hx=>by simp at hx;rcases hx with rfl | rfl | rfl<;>assumption)).mono fun _ _ ⟨hf,v,e,hb⟩=>by
    obtain ⟨vb,vo,vc,rfl,_⟩:=hb.cells
    have hL:(laidB ({ data:= #[66,79,76,76,65,82,68,72] }:ByteArray).data.toList [g,n,m]).length=512:=mark3_length g n m
    rw [hL] at e hb
    exact ⟨vb,vo,vc,e,hf,hb⟩
theorem entWr1:EntersF Tryz.prog 345:=entersF_of Tryz.func345 (by kernel_rfl) rfl
theorem entWr2:EntersF Tryz.prog 346:=entersF_of Tryz.func346 (by kernel_rfl) rfl
set_option maxHeartbeats 1000000 in
set_option maxRecDepth 100000 in
theorem S_write {w0:Gnd} {w:World} {rs:List Res} (h:St w0 w rs) (a ij iv io iq:Nat) {H:Hdl} {D:DSt} {jb mb last g:Nat} {ov:Value} {om:List Nat} {dm:List Blk} {c:Array Value} {t1: ¬U8T (219:TypeId)}
    (hr:rs[a]?=some (dev H D)) (hj:rs[ij]?=some (arr jb c 219 t1)) (hov:rs[io]?=some (rowI ov om)) (hmb:rs[iq]?=some (chg mb (last%4) dm)) (hc0:c[0]?=some (.pointer (some ⟨H.b,0,none⟩))) (hc1:c[1]?=some (.int .u64 g)) (hc2:c[2]?=some (.int .u64 last)) (hc4:c[4]?=some ov) (hc5:c[5]?=some (.map (some mb)))
    {v:Value} {ks:List Nat} {vs:List Value} {ds:List Blk} (hl:rs[iv]?=some (chgs v (ks.map fun k:Nat=>(k:Int)) vs ds)) (hmay:MayL D.n ks ds) (hd512: ∀d∈ds,d.length=512)
    (hlen:dm.length=om.length) (ho60:om.length≤60) (hho: ∀k∈om,k<D.n) (hb512: ∀b∈dm,b.length=512) (hla:last+1<18446744073709551616) (hg:g<18446744073709551616) (hD:246≤D.n) (hn:D.n≤65536) (ho:D.ops<1000000000)
    (q1:ij≠a) (q2:io≠a) (q3:iq≠a) (q4:iv≠a):
    Calls Tryz.prog 302 #[.pointer (some ⟨jb,0,none⟩),v] w (OpsRet w0 rs a H (writeOps g last om dm ks ds) D):=by
  obtain ⟨va,vc,rfl⟩:=h.chgsLen hl
  rw [List.length_map] at hl ⊢
  have hkl:((ks.length:Nat):Int)≤60:=by have:=hmay.few;omega
  have hkl0:(0:Int)≤((ks.length:Nat):Int):=Int.natCast_nonneg _
  obtain ⟨n,hnn⟩: ∃n,last+1=n:=⟨_,rfl⟩
  have hla0:(0:Int)≤(last:Int):=Int.natCast_nonneg _
  have hwn:IntKind.u64.wrap ((last:Int)+1)=(n:Int):=by rw [u64_in (by omega) (by omega)];omega
  have H1:=Lib.hid (h.newArr #[.pointer (some ⟨jb,0,none⟩)] 130 neJp)
  have c2:w.cell? ⟨jb,2,none⟩=some (.int .u64 last):=(h.arrCell hj 2).trans hc2
  have hjl:jb<w.heap.size:=lt_of_block (h.get hj)
  have hwk:IntKind.u64.wrap ((ks.length:Nat):Int)=((ks.length:Nat):Int):=u64_in (by omega) (by omega)
  have H2:=Lib.hid (H1.out.newArr #[.int .u64 n] 101 neU64)
  have HLD:Hid (∀W nb,(W.heap[nb]?=some (.cells #[.int .u64 g,.int .u64 n,.int .u64 (ks.length:Nat)] 101 (0,0))∧∀x,w0.Z x→x<W.heap.size)→Calls Tryz.prog 245 #[.string { data:= #[66,79,76,76,65,82,68,72] },.slice (some ⟨nb,0,none⟩) 3 3] W fun e w'=> ∃vb vo vc,e= .returned (.slice (some ⟨vb,vo,none⟩) 512 vc)∧Frm NoB W w'∧BytesAt w' (.slice (some ⟨vb,vo,none⟩) 512 vc) (laidB markL [g,n,ks.length]) AnyB):=
    Lib.hid fun W nb hb=>(laidM_any W nb g n _ hb.1 hg (by omega) (by have:=hmay.few;omega)).mono fun _ _ ⟨vb,vo,vc,a,b,c⟩=>⟨vb,vo,vc,a,b,c.any⟩
  have HR:=Lib.hid hr
  have HJ:=Lib.hid hj
  have HOV:=Lib.hid hov
  have HMB:=Lib.hid hmb
  have HC:=Lib.hid (And.intro hc0 (And.intro hc1 (And.intro hc2 (And.intro hc4 hc5))))
  have HL:=Lib.hid hl
  have HMAY:=Lib.hid hmay
  have H512:=Lib.hid hd512
  have HLEN:=Lib.hid hlen
  have HO60:=Lib.hid ho60
  have HHO:=Lib.hid hho
  have HB512:=Lib.hid hb512
  have HLA:=Lib.hid hla
  have HGG:=Lib.hid hg
  have HDN:=Lib.hid (And.intro hD hn)
  have HO:=Lib.hid ho
  have HNN:=Lib.hid hnn
  have HQ:=Lib.hid (And.intro q1 (And.intro q2 (And.intro q3 q4)))
  clear h hr hj hov hmb hc0 hc1 hc2 hc4 hc5 hl hmay hd512 hlen ho60 hho hb512 hla hg hD hn ho hnn q1 q2 q3 q4 H1
  go_enter Tryz.func302,Tryz.ntmps302
  go_wp2_with fail
  clear c2 hwn hla0
  obtain ⟨w2,hw2⟩: ∃w2,w2=(w.alloc (.cells #[.pointer (some ⟨jb,0,none⟩)] 130 (0,0))).alloc (.cells #[.int .u64 n] 101 (0,0)):=⟨_,rfl⟩
  rw [size_alloc,←hw2] at H2
  rw [←hw2]
  clear hw2 hjl
  generalize w.heap.size+1=bn at*
  generalize w.heap.size=bj at*
  go_cut [6] from 15 to 24 (fun t wx=> ∃bh v,t= .pointer (some ⟨bh,0,none⟩)∧St w0 wx (arr bh #[v] 76 neBs::byt v (laidB markL [g,n,ks.length])::arr bn #[.int .u64 n] 101 neU64::arr bj #[.pointer (some ⟨jb,0,none⟩)] 130 neJp::rs))
  case first=>
    have KA:Hid (∀y,Frm NoB w2 y→y.cell? ⟨bj,0,none⟩=some (.pointer (some ⟨jb,0,none⟩))∧y.cell? ⟨jb,1,none⟩=some (.int .u64 g)∧y.cell? ⟨bn,0,none⟩=some (.int .u64 n)):=Lib.hid fun y hy=>
      ⟨((H2.out.frm0 hy).arrCell (i:=1) rfl 0).trans rfl,((H2.out.frm0 hy).arrCell (i:=ij+2) HJ.out 1).trans HC.out.2.1,((H2.out.frm0 hy).arrCell (i:=0) rfl 0).trans rfl⟩
    obtain ⟨c1,c2,c3⟩:=KA.out w2 (Frm.refl _ _)
    have HK1:Hid ((w2.alloc (.cells #[.int .u64 g,.int .u64 n,.int .u64 (ks.length:Nat)] 101 (0,0))).drew.heap[w2.heap.size]?=some (.cells #[.int .u64 g,.int .u64 n,.int .u64 (ks.length:Nat)] 101 (0,0))∧∀x,w0.Z x→x<(w2.alloc (.cells #[.int .u64 g,.int .u64 n,.int .u64 (ks.length:Nat)] 101 (0,0))).drew.heap.size):=Lib.hid ⟨block_alloc_new _ _,(H2.out.frm0 (((Frm.refl NoB w2).alloc (.cells #[.int .u64 g,.int .u64 n,.int .u64 (ks.length:Nat)] 101 (0,0))).drew)).zin⟩
    have HK2:Hid (((w2.alloc (.cells #[.slice none 0 0] 76 (0,0))).alloc (.cells #[.int .u64 g,.int .u64 n,.int .u64 (ks.length:Nat)] 101 (0,0))).drew.heap[w2.heap.size+1]?=some (.cells #[.int .u64 g,.int .u64 n,.int .u64 (ks.length:Nat)] 101 (0,0))∧∀x,w0.Z x→x<((w2.alloc (.cells #[.slice none 0 0] 76 (0,0))).alloc (.cells #[.int .u64 g,.int .u64 n,.int .u64 (ks.length:Nat)] 101 (0,0))).drew.heap.size):=Lib.hid (by refine ⟨?_,(H2.out.frm0 ((((Frm.refl NoB w2).alloc (.cells #[.slice none 0 0] 76 (0,0))).alloc (.cells #[.int .u64 g,.int .u64 n,.int .u64 (ks.length:Nat)] 101 (0,0))).drew)).zin⟩;rw [←size_alloc w2 (.cells #[.slice none 0 0] 76 (0,0))];exact block_alloc_new _ _)
    have HK3:Hid (((w2.alloc (.cells #[.int .u64 g,.int .u64 n,.int .u64 (ks.length:Nat)] 101 (0,0))).alloc (.cells #[.slice none 0 0] 76 (0,0))).drew.heap[w2.heap.size]?=some (.cells #[.int .u64 g,.int .u64 n,.int .u64 (ks.length:Nat)] 101 (0,0))∧∀x,w0.Z x→x<((w2.alloc (.cells #[.int .u64 g,.int .u64 n,.int .u64 (ks.length:Nat)] 101 (0,0))).alloc (.cells #[.slice none 0 0] 76 (0,0))).drew.heap.size):=Lib.hid ⟨block_alloc_old _ (block_alloc_new _ _),(H2.out.frm0 ((((Frm.refl NoB w2).alloc (.cells #[.int .u64 g,.int .u64 n,.int .u64 (ks.length:Nat)] 101 (0,0))).alloc (.cells #[.slice none 0 0] 76 (0,0))).drew)).zin⟩
    go_region_held3 (fun y=>y.cell? ⟨bj,0,none⟩=some (.pointer (some ⟨jb,0,none⟩))∧y.cell? ⟨jb,1,none⟩=some (.int .u64 g)∧y.cell? ⟨bn,0,none⟩=some (.int .u64 n))
      (first | (refine KA.out _ ?_;first | assumption | exact hF3 | exact hF3.alloc _ | exact hF3.setCell (.inr (Nat.le_succ _)) _ | exact hF3.setCell (.inr (Nat.le_refl _)) _ | exact (Frm.refl NoB w2).drew | exact ((Frm.refl NoB w2).drew).alloc _ | exact (((Frm.refl NoB w2).drew).alloc _).alloc _ | exact ⟨rfl,rfl,rfl,Nat.le_refl _,fun _ _ _=>rfl⟩))
      (first
        | (go_at_call 245;(with_reducible refine (HLD.out (w2.alloc (.cells #[.int .u64 g,.int .u64 n,.int .u64 (ks.length:Nat)] 101 (0,0))).drew w2.heap.size HK1.out).mono ?_);rintro e w3 ⟨vb,vo,vcap,rfl,hf3,hb3⟩;have hF3:Frm NoB w2 w3:=(((Frm.refl NoB w2).alloc (.cells #[.int .u64 g,.int .u64 n,.int .u64 (ks.length:Nat)] 101 (0,0))).drew).trans hf3 (fun _ _ e=>e);have hA:=hF3)
        | (go_at_call 245;(with_reducible refine (HLD.out ((w2.alloc (.cells #[.slice none 0 0] 76 (0,0))).alloc (.cells #[.int .u64 g,.int .u64 n,.int .u64 (ks.length:Nat)] 101 (0,0))).drew (w2.heap.size+1) HK2.out).mono ?_);rintro e w3 ⟨vb,vo,vcap,rfl,hf3,hb3⟩;have hF3:Frm NoB w2 w3:=((((Frm.refl NoB w2).alloc (.cells #[.slice none 0 0] 76 (0,0))).alloc (.cells #[.int .u64 g,.int .u64 n,.int .u64 (ks.length:Nat)] 101 (0,0))).drew).trans hf3 (fun _ _ e=>e);have hB:w3.heap[w2.heap.size]?=some (.cells #[.slice none 0 0] 76 (0,0)):=(hf3.block _ (by rw [World.size_drew,size_alloc,size_alloc];omega) (fun e=>e)).trans (block_alloc_old _ (block_alloc_new _ _));have hB1:w3.cell? ⟨w2.heap.size,0,none⟩=some (.slice none 0 0):=cell_of_block hB;have hB2:w3.frozen? ⟨w2.heap.size,0,none⟩=false:=frozen_of_block hB)
        | (go_at_call 245;(with_reducible refine (HLD.out ((w2.alloc (.cells #[.int .u64 g,.int .u64 n,.int .u64 (ks.length:Nat)] 101 (0,0))).alloc (.cells #[.slice none 0 0] 76 (0,0))).drew w2.heap.size HK3.out).mono ?_);rintro e w3 ⟨vb,vo,vcap,rfl,hf3,hb3⟩;have hF3:Frm NoB w2 w3:=((((Frm.refl NoB w2).alloc (.cells #[.int .u64 g,.int .u64 n,.int .u64 (ks.length:Nat)] 101 (0,0))).alloc (.cells #[.slice none 0 0] 76 (0,0))).drew).trans hf3 (fun _ _ e=>e);have hC:w3.heap[w2.heap.size+1]?=some (.cells #[.slice none 0 0] 76 (0,0)):=(hf3.block _ (by rw [World.size_drew,size_alloc,size_alloc];omega) (fun e=>e)).trans (by rw [←size_alloc w2 (.cells #[.int .u64 g,.int .u64 n,.int .u64 (ks.length:Nat)] 101 (0,0))];exact block_alloc_new _ _);have hC1:w3.cell? ⟨w2.heap.size+1,0,none⟩=some (.slice none 0 0):=cell_of_block hC;have hC2:w3.frozen? ⟨w2.heap.size+1,0,none⟩=false:=frozen_of_block hC))
    · have hfin:St w0 _ (arr w3.heap.size #[.slice (some ⟨vb,vo,none⟩) 512 vcap] 76 neBs::byt (.slice (some ⟨vb,vo,none⟩) 512 vcap) (laidB markL [g,n,ks.length])::arr bn #[.int .u64 n] 101 neU64::arr bj #[.pointer (some ⟨jb,0,none⟩)] 130 neJp::rs):=
        ((H2.out.frm0 hF3).make (Frm.refl _ _) (byt _ _) hb3 (fun _ h=>h.elim)).newArr #[.slice (some ⟨vb,vo,none⟩) 512 vcap] 76 neBs
      have HFIN:=Lib.hid hfin
      clear hfin c1 c2 c3 hwk hF3 hf3 hb3
      go_wp2_with fail
      go_meet
      first | exact ⟨_,_,rfl,HFIN.out⟩ | (case rel=>exact ⟨_,_,rfl,HFIN.out⟩)
    · have hfin:St w0 _ (arr (w2.heap.size+1) #[.slice (some ⟨vb,vo,none⟩) 512 vcap] 76 neBs::byt (.slice (some ⟨vb,vo,none⟩) 512 vcap) (laidB markL [g,n,ks.length])::arr bn #[.int .u64 n] 101 neU64::arr bj #[.pointer (some ⟨jb,0,none⟩)] 130 neJp::rs):=
        ((H2.out.make hF3 (arr (w2.heap.size+1) #[.slice none 0 0] 76 neBs) hC (fun x hx=>by obtain rfl:x=w2.heap.size+1:=hx;omega)).make (Frm.refl _ _) (byt _ _) hb3 (fun _ h=>h.elim)).swap.setArr 0 rfl 0 _
      have HFIN:=Lib.hid hfin
      clear hfin c1 c2 c3 hwk hF3 hf3 hb3 hC hC1 hC2
      go_wp2_with fail
      go_meet
      first | exact ⟨_,_,rfl,HFIN.out⟩ | (case rel=>exact ⟨_,_,rfl,HFIN.out⟩)
    · have hfin:St w0 _ (arr w2.heap.size #[.slice (some ⟨vb,vo,none⟩) 512 vcap] 76 neBs::byt (.slice (some ⟨vb,vo,none⟩) 512 vcap) (laidB markL [g,n,ks.length])::arr bn #[.int .u64 n] 101 neU64::arr bj #[.pointer (some ⟨jb,0,none⟩)] 130 neJp::rs):=
        ((H2.out.make hF3 (arr w2.heap.size #[.slice none 0 0] 76 neBs) hB (fun x hx=>by obtain rfl:x=w2.heap.size:=hx;exact Nat.le_refl _)).make (Frm.refl _ _) (byt _ _) hb3 (fun _ h=>h.elim)).swap.setArr 0 rfl 0 _
      have HFIN:=Lib.hid hfin
      clear hfin c1 c2 c3 hwk hF3 hf3 hb3 hB hB1 hB2
      go_wp2_with fail
      go_meet
      first | exact ⟨_,_,rfl,HFIN.out⟩ | (case rel=>exact ⟨_,_,rfl,HFIN.out⟩)
  case rest=>
    obtain ⟨bh,v0,rfl,hst0⟩:=hcut
    have HST0:=Lib.hid hst0
    clear hst0 H2 HLD
    go_wp2_with fail
    go_loopw [7,8,9,27] (fun v7 _ _ t wr=> ∃(l:List (Nat×Nat)) (hv:Value),l.length≤ks.length∧t= .int .i64 l.length∧St w0 wr (rowR 100 neFn 1 v7 l.length (wFns bj bn l)::arr bh #[hv] 76 neBs::byt hv (headPut (laidB markL [g,n,ks.length]) 0 (ks.take l.length))::(capW ks vs l++(arr bn #[.int .u64 n] 101 neU64::arr bj #[.pointer (some ⟨jb,0,none⟩)] 130 neJp::rs)))) (fun _ _ _ t _=>ks.length-(intOf t).toNat)
    case atStart=>exact ⟨[],_,Nat.zero_le _,rfl,HST0.out.rowNil _ _ _⟩
    case round=>
      clear HST0
      obtain ⟨l,hv,hk,rfl,hst⟩:=hrel
      have HST:=Lib.hid hst
      clear hst
      by_cases hlt:l.length<ks.length
      · have hk0:(0:Int)≤(l.length:Int):=Int.natCast_nonneg _
        have hk1:(l.length:Int)<(ks.length:Int):=by omega
        obtain ⟨x,hx⟩: ∃x,ks[l.length]?=some x:=⟨_,List.getElem?_eq_getElem hlt⟩
        have hvi: ∀X:Res,∀pre:List Res,∀Y Z,(pre++(Y::Z::rs))[pre.length+2+iv]?=rs[iv]?:=fun X pre Y Z=>by
          rw [List.getElem?_append_right (by omega),show pre.length+2+iv-pre.length=iv+1+1 from by omega];rfl
        have hget:(rowR 100 neFn 1 u7 l.length (wFns bj bn l)::arr bh #[hv] 76 neBs::byt hv (headPut (laidB markL [g,n,ks.length]) 0 (ks.take l.length))::(capW ks vs l++(arr bn #[.int .u64 n] 101 neU64::arr bj #[.pointer (some ⟨jb,0,none⟩)] 130 neJp::rs)))[(capW ks vs l).length+2+iv+3]?=some (chgs (.slice va ks.length vc) (ks.map fun k:Nat=>(k:Int)) vs ds):=by
          rw [show (capW ks vs l).length+2+iv+3=(capW ks vs l).length+2+iv+1+1+1 from by omega,List.getElem?_cons_succ,List.getElem?_cons_succ,List.getElem?_cons_succ,hvi voidR];exact HL.out
        obtain ⟨gb,u,d,rfl,hgb,hu,hd,c1,c2,hbu⟩:=HST.out.chgsCell hget (j:=l.length) (k:=(x:Int)) (by rw [List.getElem?_map,hx];rfl)
        obtain ⟨ub,uo,uc,rfl,_⟩:=hbu.cells
        obtain ⟨hvb,hvo,hvc,rfl,_⟩:=(HST.out.get (i:=2) rfl).cells
        have hd0:(headPut (laidB markL [g,n,ks.length]) 0 (ks.take l.length)).length=512:=headPut_length _ _ _ (mark3_length _ _ _) (by rw [List.length_take];omega)
        have HTK:=Lib.hid (headPut_take (laidB markL [g,n,ks.length]) ks l.length x hx)
        obtain ⟨hd,hhd⟩: ∃hd,headPut (laidB markL [g,n,ks.length]) 0 (ks.take l.length)=hd:=⟨_,rfl⟩
        rw [hhd] at HST hd0 HTK
        have HD0:=Lib.hid hd0
        obtain ⟨n512,hn512⟩: ∃n,hd.length=n:=⟨_,rfl⟩
        rw [hn512] at HST
        have hxk:x<65536:=by have:=HMAY.out.home x (List.mem_of_getElem? hx);have:=HDN.out;omega
        have hx0:(0:Int)≤(x:Int):=Int.natCast_nonneg _
        have hwx:IntKind.u64.wrap (x:Int)=(x:Int):=u64_in hx0 (by omega)
        obtain ⟨p,hp⟩: ∃p:Nat,32+4*l.length=p:=⟨_,rfl⟩
        have hp2:32+4*(l.length:Int)=(p:Int):=by omega
        rw [hp] at HTK
        have HP3:Hid (p≤508):=Lib.hid (by omega)
        have HBU:=Lib.hid hbu
        have HU:=Lib.hid hu
        have HX:=Lib.hid hx
        have H6:=Lib.hid ((HST.out.newArr #[.int .i64 l.length] 3 neI8).newArr #[.int .i64 x,.slice (some ⟨ub,uo,none⟩) d.length uc] 274 neChg)
        rw [size_alloc] at H6
        obtain ⟨dl,hdl⟩: ∃m,d.length=m:=⟨_,rfl⟩
        rw [hdl] at H6 c2
        have HDL:=Lib.hid hdl
        have c3:wr.cell? ⟨bh,0,none⟩=some (.slice (some ⟨hvb,hvo,none⟩) n512 hvc):=(HST.out.arrCell (i:=1) rfl 0).trans rfl
        have hbh:bh<wr.heap.size:=lt_of_block (HST.out.get (i:=1) rfl)
        obtain ⟨w4,hw4⟩: ∃w4,w4=(wr.alloc (.cells #[.int .i64 (l.length:Int)] 3 (0,0))).alloc (.cells #[.int .i64 (x:Int),.slice (some ⟨ub,uo,none⟩) dl uc] 274 (0,0)):=⟨_,rfl⟩
        have HPT:Hid (Calls Tryz.prog 178 #[.slice (some ⟨hvb,hvo,none⟩) n512 hvc,.int .i64 p,.int .i64 4,.bool false,.int .u64 x] w4 fun e w'=> ∃vb vo vc,e= .returned (.tuple #[.slice (some ⟨vb,vo,none⟩) 512 vc,.bool true])∧St w0 w' (byt (.slice (some ⟨vb,vo,none⟩) 512 vc) (putLE hd p 4 x)::arr (wr.heap.size+1) #[.int .i64 x,.slice (some ⟨ub,uo,none⟩) dl uc] 274 neChg::arr wr.heap.size #[.int .i64 l.length] 3 neI8::rowR 100 neFn 1 u7 l.length (wFns bj bn l)::arr bh #[.slice (some ⟨hvb,hvo,none⟩) n512 hvc] 76 neBs::byt (.slice (some ⟨hvb,hvo,none⟩) n512 hvc) hd::(capW ks vs l++(arr bn #[.int .u64 n] 101 neU64::arr bj #[.pointer (some ⟨jb,0,none⟩)] 130 neJp::rs)))):=Lib.hid (by
          rw [hw4]
          refine (bitsPut_any _ _ hd p 4 x AnyB (H6.out.get (i:=4) rfl) (by omega) (by omega) (by have:=HD0.out;have:=HP3.out;omega) (by rw [HD0.out];omega) (by omega)).mono ?_
          rintro e w' ⟨hf,v',he,hb⟩
          have hln:(putLE hd p 4 x).length=512:=(putLE_length _ _ _ _ (by have:=HD0.out;have:=HP3.out;omega)).trans HD0.out
          obtain ⟨vb,vo,vc,rfl,_⟩:=hb.cells
          rw [hln] at he hb
          exact ⟨vb,vo,vc,he,H6.out.mkByt hf hb⟩)
        clear hdl hbu hu hx hp hxk hd0 hhd hget hvi hn512 HST
        go_wp2_with fail
        rw [←hw4]
        clear hw4 H6 c1 c2 c3 hwx
        refine HPT.out.mono ?_
        clear HPT
        rintro e w5 ⟨vb,vo,vcc,rfl,h5⟩
        have c3:w5.cell? ⟨bh,0,none⟩=some (.slice (some ⟨hvb,hvo,none⟩) n512 hvc):=(h5.arrCell (i:=4) rfl 0).trans rfl
        have fz3:w5.frozen? ⟨bh,0,none⟩=false:=h5.arrFree (i:=4) rfl 0
        have h6:=(h5.setArr 4 rfl 0 (.slice (some ⟨vb,vo,none⟩) 512 vcc)).sub ((((((List.sublist_cons_self _ _).cons_cons _).cons_cons _).cons_cons _).cons_cons _).cons_cons _)
        have h7:=h6.perm (rs':=rowR 100 neFn 1 u7 l.length (wFns bj bn l)::arr bh #[.slice (some ⟨vb,vo,none⟩) 512 vcc] 76 neBs::byt (.slice (some ⟨vb,vo,none⟩) 512 vcc) (putLE hd p 4 x)::arr wr.heap.size #[.int .i64 l.length] 3 neI8::arr (wr.heap.size+1) #[.int .i64 x,.slice (some ⟨ub,uo,none⟩) dl uc] 274 neChg::(capW ks vs l++(arr bn #[.int .u64 n] 101 neU64::arr bj #[.pointer (some ⟨jb,0,none⟩)] 130 neJp::rs))) (by
          have e1:=(List.perm_append_comm (l₁:= [byt (.slice (some ⟨vb,vo,none⟩) 512 vcc) (putLE hd p 4 x),arr (wr.heap.size+1) #[.int .i64 x,.slice (some ⟨ub,uo,none⟩) dl uc] 274 neChg,arr wr.heap.size #[.int .i64 l.length] 3 neI8]) (l₂:= [rowR 100 neFn 1 u7 l.length (wFns bj bn l),arr bh #[.slice (some ⟨vb,vo,none⟩) 512 vcc] 76 neBs])).append_right (capW ks vs l++(arr bn #[.int .u64 n] 101 neU64::arr bj #[.pointer (some ⟨jb,0,none⟩)] 130 neJp::rs))
          exact e1.trans (List.Perm.cons _ (List.Perm.cons _ (List.Perm.cons _ (List.Perm.swap _ _ _)))))
        have H7:=Lib.hid h7
        clear h5 h6 h7
        go_upto_region 8 with (fail)
        obtain ⟨w6,hw6⟩: ∃w6,w6=w5.setCell ⟨bh,0,none⟩ (.slice (some ⟨vb,vo,none⟩) 512 vcc):=⟨_,rfl⟩
        rw [←hw6] at H7 ⊢
        clear hw6 c3 fz3
        generalize wr.heap.size+1=bc at*
        generalize wr.heap.size=bi at*
        have HO:=Lib.hid (World.ownsRow.alloc (H7.out.get (i:=0) rfl) (.cells #[.func (.func 345) #[] #[.pointer (some ⟨bj,0,none⟩),.pointer (some ⟨bn,0,none⟩),.pointer (some ⟨bi,0,none⟩),.pointer (some ⟨bc,0,none⟩)]] 100 (0,0)))
        have HN:Hid (∀(j:Nat) u,([.func (.func 345) #[] #[.pointer (some ⟨bj,0,none⟩),.pointer (some ⟨bn,0,none⟩),.pointer (some ⟨bi,0,none⟩),.pointer (some ⟨bc,0,none⟩)]]:List Value)[j]?=some u→(w6.alloc (.cells #[.func (.func 345) #[] #[.pointer (some ⟨bj,0,none⟩),.pointer (some ⟨bn,0,none⟩),.pointer (some ⟨bi,0,none⟩),.pointer (some ⟨bc,0,none⟩)]] 100 (0,0))).cell? ((⟨w6.heap.size,0,none⟩:Addr).add j)=some u):=Lib.hid (new_one w6 _ _)
        obtain ⟨ii,hi0i,hz0,hz1,hz2⟩:=info_parts infoFn
        have hmf: ∀(fn:Fn) (first cap:Array Value) (W:World),(Instr.makeFunc fn first cap).run Tryz.prog W= .ok (.func fn first cap) W:=fun _ _ _ _=>rfl
        have hk60:(l.length:Int)≤60:=by omega
        go_wp2_with (at_builtin;refine wpList_append_own_at _ rfl _ _ 171 rfl 0 100 ii .nilFunc 1 8 Tryz.underlying171 hi0i hz0 hz1 hz2 rfl (by decide) _ _ _ rfl HO.out ⟨w6.heap.size,0,none⟩ 1 1 [.func (.func 345) #[] #[.pointer (some ⟨bj,0,none⟩),.pointer (some ⟨bn,0,none⟩),.pointer (some ⟨bi,0,none⟩),.pointer (some ⟨bc,0,none⟩)]] rfl rfl HN.out ?c0 ?c1 ?c2 ?c3 ?_)
        case c0=>intro u hu;simp at hu;subst hu;rfl
        case c1=>simp only [maxLen];omega
        case c2=>omega
        case c3=>omega
        intro v8 w8 ho hg2 hnn hat
        have h9:=H7.out.rowAppend 0 rfl (.cells #[.func (.func 345) #[] #[.pointer (some ⟨bj,0,none⟩),.pointer (some ⟨bn,0,none⟩),.pointer (some ⟨bi,0,none⟩),.pointer (some ⟨bc,0,none⟩)]] 100 (0,0)) ho hg2 (by rw [size_alloc];first | exact hat | (rw [size_alloc] at hat;exact hat))
        have H9:Hid (St w0 w8 (rowR 100 neFn 1 v8 ((bi,bc)::l).length (wFns bj bn ((bi,bc)::l))::arr bh #[.slice (some ⟨vb,vo,none⟩) 512 vcc] 76 neBs::byt (.slice (some ⟨vb,vo,none⟩) 512 vcc) (headPut (laidB markL [g,n,ks.length]) 0 (ks.take ((bi,bc)::l).length))::(capW ks vs ((bi,bc)::l)++(arr bn #[.int .u64 n] 101 neU64::arr bj #[.pointer (some ⟨jb,0,none⟩)] 130 neJp::rs)))):=Lib.hid (by
          have e1:ks.getD l.length 0=x:=by rw [List.getD_eq_getElem?_getD,HX.out];rfl
          have e2:vs.getD l.length undef= .slice (some ⟨ub,uo,none⟩) dl uc:=by rw [List.getD_eq_getElem?_getD,HU.out,HDL.out];rfl
          show St w0 w8 (rowR 100 neFn 1 v8 (l.length+1) _::_::byt _ (headPut _ 0 (ks.take (l.length+1)))::arr bi #[.int .i64 (l.length:Int)] 3 neI8::arr bc #[.int .i64 (ks.getD l.length 0:Nat),vs.getD l.length undef] 274 neChg::_)
          rw [HTK.out,e1,e2]
          exact h9)
        clear ho hg2 hnn hat h9 HO HN hmf
        go_wp2
        first | exact ⟨⟨(bi,bc)::l,_,hlt,by go_num,H9.out⟩,by simp [intOf];omega⟩ | (go_roundw;case rel=>first | exact ⟨(bi,bc)::l,_,hlt,by go_num,H9.out⟩ | ((repeat apply Exists.intro);exact ⟨⟨(bi,bc)::l,_,hlt,by go_num,H9.out⟩,rfl⟩);case measure=>simp [intOf];omega)
      · have hk1: ¬(l.length:Int)<(ks.length:Int):=by omega
        have HLL:Hid (l.length=ks.length):=Lib.hid (by omega)
        have hk60:(l.length:Int)≤60:=by omega
        have hmf: ∀(fn:Fn) (first cap:Array Value) (W:World),(Instr.makeFunc fn first cap).run Tryz.prog W= .ok (.func fn first cap) W:=fun _ _ _ _=>rfl
        have cj: ∀W X rs',rs'[ij]?=some (arr jb c 219 t1)→St w0 W (X::arr bh #[hv] 76 neBs::byt hv (headPut (laidB markL [g,n,ks.length]) 0 (ks.take l.length))::(capW ks vs l++(arr bn #[.int .u64 n] 101 neU64::arr bj #[.pointer (some ⟨jb,0,none⟩)] 130 neJp::rs')))→W.cell? ⟨bj,0,none⟩=some (.pointer (some ⟨jb,0,none⟩))∧W.cell? ⟨jb,0,none⟩=some (.pointer (some ⟨H.b,0,none⟩)):=fun W X rs' hij hW=>by
          have e1: ∀(q:Nat) (r:Res),(arr bn #[.int .u64 n] 101 neU64::arr bj #[.pointer (some ⟨jb,0,none⟩)] 130 neJp::rs')[q]?=some r→(X::arr bh #[hv] 76 neBs::byt hv (headPut (laidB markL [g,n,ks.length]) 0 (ks.take l.length))::(capW ks vs l++(arr bn #[.int .u64 n] 101 neU64::arr bj #[.pointer (some ⟨jb,0,none⟩)] 130 neJp::rs')))[(capW ks vs l).length+q+1+1+1]?=some r:=fun q r hq=>by
            rw [List.getElem?_cons_succ,List.getElem?_cons_succ,List.getElem?_cons_succ,List.getElem?_append_right (by omega),show (capW ks vs l).length+q-(capW ks vs l).length=q from by omega];exact hq
          exact ⟨(hW.arrCell (e1 1 _ rfl) 0).trans rfl,(hW.arrCell (e1 (ij+2) _ hij) 0).trans HC.out.1⟩
        have HCJ:=Lib.hid cj
        obtain ⟨c1,c2⟩:=cj wr _ _ HJ.out HST.out
        clear cj
        have H5:=Lib.hid (HST.out.rowLit 100 neFn 1 #[.func (.func 142) #[.pointer (some ⟨jb,0,none⟩)] #[]] 1 (by decide) rfl)
        obtain ⟨ii,hi0i,hz0,hz1,hz2⟩:=info_parts infoFn
        have HA:=Lib.hid (show (wr.alloc (.cells #[.func (.func 142) #[.pointer (some ⟨jb,0,none⟩)] #[]] 100 (0,0))).ownsRow 0 100 1 (.slice (some ⟨wr.heap.size,0,none⟩) 1 1) 1 [.func (.func 142) #[.pointer (some ⟨jb,0,none⟩)] #[]] from H5.out.get (i:=0) rfl)
        have HB:=Lib.hid (show (wr.alloc (.cells #[.func (.func 142) #[.pointer (some ⟨jb,0,none⟩)] #[]] 100 (0,0))).ownsRow 0 100 1 u7 l.length (wFns bj bn l) from H5.out.get (i:=1) rfl)
        have HW1:=Lib.hid (wFns_one bj bn l)
        go_wp2_with (at_builtin;refine wpList_append_rows rfl _ _ 171 rfl 0 0 100 ii .nilFunc 1 8 Tryz.underlying171 hi0i hz0 hz1 hz2 rfl (by decide) _ _ _ rfl HA.out _ _ _ rfl HB.out HW1.out ?d1 ?d2 ?d3 ?_)
        case d1=>simp only [maxLen];omega
        case d2=>omega
        try case d3=>omega
        intro v8 w8 ho hg2 hat
        have h9:=H5.out.rowAppend0 0 rfl ho hg2 (by rw [size_alloc];exact hat)
        have H9:=Lib.hid ((show St w0 w8 (rowR 100 neFn 1 v8 (1+l.length) _::rowR 100 neFn 1 u7 l.length (wFns bj bn l)::_) from h9).drop2nd)
        clear ho hg2 hat h9 HA HB c1 c2 HST H5
        obtain ⟨c1,c2⟩:=HCJ.out _ _ _ HJ.out H9.out
        obtain ⟨gb8,gc8,rfl⟩: ∃gb gc,v8= .slice (some ⟨gb,0,none⟩) (1+l.length) gc:=by
          have ho:w8.ownsRow 0 100 1 v8 (1+l.length) _:=H9.out.get (i:=0) rfl
          rcases ho.2 with hx | ⟨gb,gc,_,hx,_⟩
          · have:=hx.2;omega
          · exact ⟨gb,gc,hx⟩
        have HOW:=Lib.hid (show ((w8.alloc (.cells #[.func (.func 143) #[.pointer (some ⟨H.b,0,none⟩)] #[],.func (.func 346) #[] #[.pointer (some ⟨bj,0,none⟩),.pointer (some ⟨bn,0,none⟩),.pointer (some ⟨bh,0,none⟩)],.func (.func 143) #[.pointer (some ⟨H.b,0,none⟩)] #[]] 100 (0,0))).drew).ownsRow 0 100 1 (.slice (some ⟨gb8,0,none⟩) (1+l.length) gc8) (1+l.length) (.func (.func 142) #[.pointer (some ⟨jb,0,none⟩)] #[]::wFns bj bn l) from World.ownsRow.alloc (H9.out.get (i:=0) rfl) (.cells #[.func (.func 143) #[.pointer (some ⟨H.b,0,none⟩)] #[],.func (.func 346) #[] #[.pointer (some ⟨bj,0,none⟩),.pointer (some ⟨bn,0,none⟩),.pointer (some ⟨bh,0,none⟩)],.func (.func 143) #[.pointer (some ⟨H.b,0,none⟩)] #[]] 100 (0,0)))
        have HN:Hid (∀(j:Nat) u,([.func (.func 143) #[.pointer (some ⟨H.b,0,none⟩)] #[],.func (.func 346) #[] #[.pointer (some ⟨bj,0,none⟩),.pointer (some ⟨bn,0,none⟩),.pointer (some ⟨bh,0,none⟩)],.func (.func 143) #[.pointer (some ⟨H.b,0,none⟩)] #[]]:List Value)[j]?=some u→((w8.alloc (.cells #[.func (.func 143) #[.pointer (some ⟨H.b,0,none⟩)] #[],.func (.func 346) #[] #[.pointer (some ⟨bj,0,none⟩),.pointer (some ⟨bn,0,none⟩),.pointer (some ⟨bh,0,none⟩)],.func (.func 143) #[.pointer (some ⟨H.b,0,none⟩)] #[]] 100 (0,0))).drew).cell? ((⟨w8.heap.size,0,none⟩:Addr).add j)=some u):=Lib.hid fun j u hj=>by
          have e:((⟨w8.heap.size,0,none⟩:Addr).add j)=⟨w8.heap.size,j,none⟩:=by unfold Addr.add;split<;>simp_all
          rw [e]
          show (w8.alloc _).cell? _=_
          rw [cell_of_block (block_alloc_new _ _),←Array.getElem?_toList]
          exact hj
        have HC0:Hid (∀u∈([.func (.func 143) #[.pointer (some ⟨H.b,0,none⟩)] #[],.func (.func 346) #[] #[.pointer (some ⟨bj,0,none⟩),.pointer (some ⟨bn,0,none⟩),.pointer (some ⟨bh,0,none⟩)],.func (.func 143) #[.pointer (some ⟨H.b,0,none⟩)] #[]]:List Value),u.oneCell'=true):=Lib.hid (by intro u hu;simp at hu;rcases hu with rfl | rfl | rfl<;>rfl)
        have HC1:Hid (1+l.length+3≤maxLen):=Lib.hid (by simp only [maxLen];omega)
        have HC2:Hid ((1+l.length+3)*8≤140737488355328):=Lib.hid (by omega)
        have HJS:Hid ((rs.set a (dev H (runD (writeOps g last om dm ks ds) D)))[ij]?=some (arr jb c 219 t1)):=Lib.hid (by rw [List.getElem?_set_ne (Ne.symm HQ.out.1)];exact HJ.out)
        have HTR:Hid (∀W v10,St w0 W (rowR 100 neFn 1 v10 (1+l.length+3) ((.func (.func 142) #[.pointer (some ⟨jb,0,none⟩)] #[]::wFns bj bn l)++ [.func (.func 143) #[.pointer (some ⟨H.b,0,none⟩)] #[],.func (.func 346) #[] #[.pointer (some ⟨bj,0,none⟩),.pointer (some ⟨bn,0,none⟩),.pointer (some ⟨bh,0,none⟩)],.func (.func 143) #[.pointer (some ⟨H.b,0,none⟩)] #[]])::arr bh #[hv] 76 neBs::byt hv (headPut (laidB markL [g,n,ks.length]) 0 (ks.take l.length))::(capW ks vs l++(arr bn #[.int .u64 n] 101 neU64::arr bj #[.pointer (some ⟨jb,0,none⟩)] 130 neJp::rs)))→Calls Tryz.prog 141 #[v10] W fun e w'=>e= .returned (.int .i64 (endD (writeOps g last om dm ks ds) D))∧St w0 w' (rowR 100 neFn 1 v10 (1+l.length+3) ((.func (.func 142) #[.pointer (some ⟨jb,0,none⟩)] #[]::wFns bj bn l)++ [.func (.func 143) #[.pointer (some ⟨H.b,0,none⟩)] #[],.func (.func 346) #[] #[.pointer (some ⟨bj,0,none⟩),.pointer (some ⟨bn,0,none⟩),.pointer (some ⟨bh,0,none⟩)],.func (.func 143) #[.pointer (some ⟨H.b,0,none⟩)] #[]])::arr bh #[hv] 76 neBs::byt hv (headPut (laidB markL [g,n,ks.length]) 0 (ks.take l.length))::(capW ks vs l++(arr bn #[.int .u64 n] 101 neU64::arr bj #[.pointer (some ⟨jb,0,none⟩)] 130 neJp::rs.set a (dev H (runD (writeOps g last om dm ks ds) D)))))):=Lib.hid (by
          intro W v10 hW
          obtain ⟨gb,gc,rfl⟩: ∃gb gc,v10= .slice (some ⟨gb,0,none⟩) (1+l.length+3) gc:=by
            have ho:W.ownsRow 0 100 1 v10 (1+l.length+3) _:=hW.get (i:=0) rfl
            rcases ho.2 with hx | ⟨gb,gc,_,hx,_⟩
            · have:=hx.2;omega
            · exact ⟨gb,gc,hx⟩
          obtain ⟨pre,hpre⟩: ∃pre,rowR 100 neFn 1 (.slice (some ⟨gb,0,none⟩) (1+l.length+3) gc) (1+l.length+3) ((.func (.func 142) #[.pointer (some ⟨jb,0,none⟩)] #[]::wFns bj bn l)++ [.func (.func 143) #[.pointer (some ⟨H.b,0,none⟩)] #[],.func (.func 346) #[] #[.pointer (some ⟨bj,0,none⟩),.pointer (some ⟨bn,0,none⟩),.pointer (some ⟨bh,0,none⟩)],.func (.func 143) #[.pointer (some ⟨H.b,0,none⟩)] #[]])::arr bh #[hv] 76 neBs::byt hv (headPut (laidB markL [g,n,ks.length]) 0 (ks.take l.length))::(capW ks vs l++ [arr bn #[.int .u64 n] 101 neU64,arr bj #[.pointer (some ⟨jb,0,none⟩)] 130 neJp])=pre:=⟨_,rfl⟩
          have hjoin: ∀rs',rowR 100 neFn 1 (.slice (some ⟨gb,0,none⟩) (1+l.length+3) gc) (1+l.length+3) ((.func (.func 142) #[.pointer (some ⟨jb,0,none⟩)] #[]::wFns bj bn l)++ [.func (.func 143) #[.pointer (some ⟨H.b,0,none⟩)] #[],.func (.func 346) #[] #[.pointer (some ⟨bj,0,none⟩),.pointer (some ⟨bn,0,none⟩),.pointer (some ⟨bh,0,none⟩)],.func (.func 143) #[.pointer (some ⟨H.b,0,none⟩)] #[]])::arr bh #[hv] 76 neBs::byt hv (headPut (laidB markL [g,n,ks.length]) 0 (ks.take l.length))::(capW ks vs l++(arr bn #[.int .u64 n] 101 neU64::arr bj #[.pointer (some ⟨jb,0,none⟩)] 130 neJp::rs'))=pre++rs':=fun rs'=>by
            rw [←hpre];simp
          rw [hjoin] at hW
          have hp0:pre[0]?=some (rowR 100 neFn 1 (.slice (some ⟨gb,0,none⟩) (1+l.length+3) gc) (1+l.length+3) ((.func (.func 142) #[.pointer (some ⟨jb,0,none⟩)] #[]::wFns bj bn l)++ [.func (.func 143) #[.pointer (some ⟨H.b,0,none⟩)] #[],.func (.func 346) #[] #[.pointer (some ⟨bj,0,none⟩),.pointer (some ⟨bn,0,none⟩),.pointer (some ⟨bh,0,none⟩)],.func (.func 143) #[.pointer (some ⟨H.b,0,none⟩)] #[]])):=by rw [←hpre];rfl
          have hp1:pre[1]?=some (arr bh #[hv] 76 neBs):=by rw [←hpre];rfl
          have hp2:pre[2]?=some (byt hv (headPut (laidB markL [g,n,ks.length]) 0 (ks.take l.length))):=by rw [←hpre];rfl
          have hpc: ∀(q:Nat) (r:Res),(capW ks vs l++ [arr bn #[.int .u64 n] 101 neU64,arr bj #[.pointer (some ⟨jb,0,none⟩)] 130 neJp])[q]?=some r→pre[q+1+1+1]?=some r:=fun q r hq=>by rw [←hpre,List.getElem?_cons_succ,List.getElem?_cons_succ,List.getElem?_cons_succ];exact hq
          have hpn:pre[(capW ks vs l).length+0+1+1+1]?=some (arr bn #[.int .u64 n] 101 neU64):=hpc _ _ (by rw [List.getElem?_append_right (by omega),Nat.sub_self];rfl)
          have hpj:pre[(capW ks vs l).length+1+1+1+1]?=some (arr bj #[.pointer (some ⟨jb,0,none⟩)] 130 neJp):=hpc _ _ (by rw [List.getElem?_append_right (by omega),Nat.add_sub_cancel_left];rfl)
          have hpk: ∀r,r∈capW ks vs l→∃q,pre[q]?=some r:=fun r hr=>by
            obtain ⟨q,hq⟩:=List.getElem?_of_mem hr
            exact ⟨_,hpc q r (by rw [List.getElem?_append_left (List.getElem?_eq_some_iff.1 hq).1];exact hq)⟩
          clear hpre
          have hlt: ∀(q:Nat) (r:Res),pre[q]?=some r→q<pre.length:=fun q r hq=>(List.getElem?_eq_some_iff.1 hq).1
          have hin: ∀(q:Nat) (r:Res) (rs':List Res),pre[q]?=some r→(pre++rs')[q]?=some r:=fun q r rs' hq=>by rw [List.getElem?_append_left (hlt q r hq)];exact hq
          have hrr: ∀(q:Nat) (r X:Res),rs[q]?=some r→q≠a→(pre++rs.set a X)[pre.length+q]?=some r:=fun q r X hq hne=>by
            rw [List.getElem?_append_right (by omega),Nat.add_sub_cancel_left,List.getElem?_set_ne (Ne.symm hne)];exact hq
          have hal:a<rs.length:=(List.getElem?_eq_some_iff.1 HR.out).1
          have hs4:n%4=(last+1)%4:=by rw [HNN.out]
          have hn64:n<18446744073709551616:=by have:=HNN.out;have:=HLA.out;omega
          have hdl:ds.length=l.length:=by rw [HMAY.out.len,HLL.out]
          have hE60:=HO60.out
          have hDo:=HO.out
          have hD246:=HDN.out.1
          obtain ⟨L,hLd⟩: ∃L,[settleOps om dm]++((dataFrom ((last+1)%4) 0 ds).map (fun o=> [o])++ [[DOp.fl],[DOp.wr (slotB ((last+1)%4)) (headB g (last+1) ks)],[DOp.fl]])=L:=⟨_,rfl⟩
          have hfl:L.flatten=writeOps g last om dm ks ds:=by
            rw [←hLd,List.flatten_append,List.flatten_append,flatten_ones]
            unfold writeOps
            simp
          have hflen:L.flatten.length≤123:=by
            rw [hfl]
            unfold writeOps
            simp only [List.length_append,settleOps_length _ _ HLEN.out,dataFrom_length,List.length_cons,List.length_nil]
            omega
          have hLl:L.length=1+l.length+3:=by rw [←hLd];simp [dataFrom_length];omega
          have hL0:L.getD 0 []=settleOps om dm:=by rw [←hLd];rfl
          have hLm: ∀j,j<l.length→∃d,ds[j]?=some d∧L.getD (j+1) []= [.wr (slotB ((last+1)%4)+1+j) d]:=fun j hj=>by
            obtain ⟨d,hb⟩: ∃d,ds[j]?=some d:=⟨_,List.getElem?_eq_getElem (by rw [hdl];exact hj)⟩
            refine ⟨_,hb,?_⟩
            have hdf:=dataFrom_get ((last+1)%4) ds 0 j _ hb
            rw [Nat.zero_add] at hdf
            rw [←hLd,List.getD_eq_getElem?_getD,List.getElem?_append_right (by simp),show j+1- [settleOps om dm].length=j from by simp,List.getElem?_append_left (by simp [dataFrom_length];omega),List.getElem?_map,hdf];rfl
          have hLt: ∀k,L.getD (l.length+1+k) []= [[DOp.fl],[DOp.wr (slotB ((last+1)%4)) (headB g (last+1) ks)],[DOp.fl]].getD k []:=fun k=>by
            rw [←hLd,List.getD_eq_getElem?_getD,List.getElem?_append_right (by simp<;>omega),show l.length+1+k- [settleOps om dm].length=l.length+k from by simp<;>omega,List.getElem?_append_right (by simp [dataFrom_length]<;>omega),show l.length+k-((dataFrom ((last+1)%4) 0 ds).map (fun o=> [o])).length=k from by simp [dataFrom_length]<;>omega,List.getD_eq_getElem?_getD]
          clear hLd
          have hxsl:((.func (.func 142) #[.pointer (some ⟨jb,0,none⟩)] #[]::wFns bj bn l):List Value).length=1+l.length:=by simp [wFns_length];omega
          refine ((tries_ops1 (D:=D) hW a 0 HR.out hp0 (by omega) L hLl ?_).mono ?_)
          · intro i hi
            have hops: ∀E:DSt,E.ops≤D.ops+(L.take i).flatten.length→E.ops<2000000000:=fun E hE=>by
              have:=flatten_take_le L i;omega
            rcases (by omega:i=0∨(1≤i∧i≤l.length)∨i=l.length+1+0∨i=l.length+1+1∨i=l.length+1+2) with rfl | ⟨hi1,hi2⟩ | rfl | rfl | rfl
            · refine ⟨_,_,_,rfl,entSettle,fun E W' hEn hEo hW'=>?_⟩
              rw [hL0]
              exact S_settle hW' (pre.length+a) (pre.length+ij) (pre.length+io) (pre.length+iq) (get_pre _ _ _ _ hal) (hrr _ _ _ HJ.out HQ.out.1) (hrr _ _ _ HOV.out HQ.out.2.1) (hrr _ _ _ HMB.out HQ.out.2.2.1) HC.out.1 HC.out.2.2.1 HC.out.2.2.2.1 HC.out.2.2.2.2 rfl (by have:=HLA.out;omega) HLEN.out HO60.out (fun k hk=>by rw [hEn];exact HHO.out k hk) HB512.out (by simp at hEo;omega) (by have:=HQ.out.1;omega) (by have:=HQ.out.2.1;omega) (by have:=HQ.out.2.2.1;omega)
            · obtain ⟨j,rfl⟩: ∃j,i=j+1:=⟨i-1,by omega⟩
              obtain ⟨p,hf,hm1,hm2⟩:=capW_get ks vs bj bn l j (by omega)
              obtain ⟨q1,hq1⟩:=hpk _ hm1
              obtain ⟨q2,hq2⟩:=hpk _ hm2
              obtain ⟨d,hd,hLd⟩:=hLm j (by omega)
              refine ⟨_,#[],#[.pointer (some ⟨bj,0,none⟩),.pointer (some ⟨bn,0,none⟩),.pointer (some ⟨p.1,0,none⟩),.pointer (some ⟨p.2,0,none⟩)],?_,entWr1,fun E W' hEn hEo hW'=>?_⟩
              · rw [List.getElem?_append_left (by rw [hxsl];omega),List.getElem?_cons_succ];exact hf
              · rw [hLd]
                obtain ⟨I1,I2,I3,I4⟩:=hW'.get (i:=pre.length+iv) (hrr _ _ _ HL.out HQ.out.2.2.2)
                have hvl:j<vs.length:=by rw [I2,List.length_map];have:=HLL.out;omega
                have hu:BytesAt W' (vs.getD j undef) d AnyB:=I4 j _ d (by rw [List.getD_eq_getElem?_getD,List.getElem?_eq_getElem hvl];rfl) hd
                exact S_wr1 hW' (pre.length+a) (pre.length+ij) _ _ q1 q2 (get_pre _ _ _ _ hal) (hrr _ _ _ HJ.out HQ.out.1) HC.out.1 (hin _ _ _ hpj) (hin _ _ _ hpn) (hin _ _ _ hq1) (hin _ _ _ hq2) hu (H512.out d (List.mem_of_getElem? hd)) hn64 hs4 (by omega) (by rw [hEn];exact hD246) (hops E hEo) (by have:=HQ.out.1;omega) (by have:=hlt _ _ hpj;omega) (by have:=hlt _ _ hpn;omega) (by have:=hlt _ _ hq1;omega) (by have:=hlt _ _ hq2;omega)
            · refine ⟨_,#[.pointer (some ⟨H.b,0,none⟩)],#[],?_,entFlush,fun E W' hEn hEo hW'=>?_⟩
              · rw [List.getElem?_append_right (by rw [hxsl];omega),hxsl,show l.length+1+0-(1+l.length)=0 from by omega];rfl
              · rw [hLt 0]
                exact S_FlushOp hW' (pre.length+a) (get_pre _ _ _ _ hal) (by have:=hops E hEo;omega)
            · refine ⟨_,#[],#[.pointer (some ⟨bj,0,none⟩),.pointer (some ⟨bn,0,none⟩),.pointer (some ⟨bh,0,none⟩)],?_,entWr2,fun E W' hEn hEo hW'=>?_⟩
              · rw [List.getElem?_append_right (by rw [hxsl];omega),hxsl,show l.length+1+1-(1+l.length)=1 from by omega];rfl
              · rw [hLt 1]
                have hhd:headPut (laidB markL [g,n,ks.length]) 0 (ks.take l.length)=headB g (last+1) ks:=by
                  rw [HLL.out,List.take_length,HNN.out];rfl
                rw [hhd] at hp2
                exact S_wr2 hW' (pre.length+a) (pre.length+ij) _ _ 1 2 (get_pre _ _ _ _ hal) (hrr _ _ _ HJ.out HQ.out.1) HC.out.1 (hin _ _ _ hpj) (hin _ _ _ hpn) (hin _ _ _ hp1) (hin _ _ _ hp2) (headB_length _ _ _ HMAY.out.few) hn64 hs4 (by rw [hEn];exact hD246) (hops E hEo) (by have:=HQ.out.1;omega) (by have:=hlt _ _ hpj;omega) (by have:=hlt _ _ hpn;omega) (by have:=hlt _ _ hp1;omega)
            · refine ⟨_,#[.pointer (some ⟨H.b,0,none⟩)],#[],?_,entFlush,fun E W' hEn hEo hW'=>?_⟩
              · rw [List.getElem?_append_right (by rw [hxsl];omega),hxsl,show l.length+1+2-(1+l.length)=2 from by omega];rfl
              · rw [hLt 2]
                exact S_FlushOp hW' (pre.length+a) (get_pre _ _ _ _ hal) (by have:=hops E hEo;omega)
          · rintro e w' ⟨h1,h2⟩
            rw [hfl] at h1 h2
            rw [hjoin]
            exact ⟨h1,h2⟩)
        go_wp2_with fail
        go_region_held3 (fun y=>y.cell? ⟨bj,0,none⟩=some (.pointer (some ⟨jb,0,none⟩))∧y.cell? ⟨jb,0,none⟩=some (.pointer (some ⟨H.b,0,none⟩)))
          (first | exact hS11 | (refine HCJ.out _ _ _ HJ.out (H9.out.frm0 ?_);first | exact Frm.refl _ _ | exact (Frm.refl NoB w8).drew | exact ((Frm.refl NoB w8).alloc _).drew | exact (Frm.refl NoB w8).alloc _ | exact ⟨rfl,rfl,rfl,Nat.le_refl _,fun _ _ _=>rfl⟩))
          (first
            | (refine step_append_own rfl _ _ 171 rfl 0 100 ii .nilFunc 1 8 Tryz.underlying171 hi0i hz0 hz1 hz2 rfl (by decide) _ _ _ rfl HOW.out ⟨w8.heap.size,0,none⟩ 3 3 [.func (.func 143) #[.pointer (some ⟨H.b,0,none⟩)] #[],.func (.func 346) #[] #[.pointer (some ⟨bj,0,none⟩),.pointer (some ⟨bn,0,none⟩),.pointer (some ⟨bh,0,none⟩)],.func (.func 143) #[.pointer (some ⟨H.b,0,none⟩)] #[]] rfl rfl HN.out HC0.out HC1.out HC2.out (Nat.zero_le _) ?_;intro v10 w10 ho hg2 hat;have h11:=(H9.out.frm0 ((Frm.refl NoB w8).drew)).rowAppend 0 rfl (.cells #[.func (.func 143) #[.pointer (some ⟨H.b,0,none⟩)] #[],.func (.func 346) #[] #[.pointer (some ⟨bj,0,none⟩),.pointer (some ⟨bn,0,none⟩),.pointer (some ⟨bh,0,none⟩)],.func (.func 143) #[.pointer (some ⟨H.b,0,none⟩)] #[]] 100 (0,0)) ho hg2 hat;have hS11:=HCJ.out _ _ _ HJ.out h11)
            | (go_at_call 141;refine (HTR.out _ _ h11).mono ?_;rintro e w12 ⟨rfl,h12⟩;have hS11:=HCJ.out _ _ _ HJS.out h12))
        all_goals
          have H12:=Lib.hid (h12.sub ((((((List.sublist_cons_self _ _).trans (List.sublist_cons_self _ _)).trans (List.sublist_append_right _ _)).trans (List.sublist_cons_self _ _)).trans (List.sublist_cons_self _ _)).trans (List.sublist_cons_self _ _)))
          clear h12 hS11
          go_wp2
          go_ret
          exact ⟨rfl,H12.out⟩
def JSt.did (J:JSt) (ks:List Nat) (ds:List Blk):JSt:=⟨J.gen,J.last+1,false,ks,ds⟩
def JSt.died (J:JSt):JSt:=⟨J.gen,J.last,true,J.order,J.data⟩
def CommitRet (w0:Gnd) (rs:List Res) (a:Nat) (H:Hdl) (jb:Nat) (J:JSt) (D:DSt) (ks:List Nat) (ds:List Blk) (e:Ending) (w':World):Prop:=
  (endD (writeOps J.gen J.last J.order J.data ks ds) D=0∧e= .returned (.int .i64 0)∧∃jh':JHdl,jh'.jb=jb∧St w0 w' (jrn H jh' (J.did ks ds)::rs.set a (dev H (runD (writeOps J.gen J.last J.order J.data ks ds) D))))∨
  (endD (writeOps J.gen J.last J.order J.data ks ds) D=9∧e= .returned (.int .i64 9)∧∃jh':JHdl,jh'.jb=jb∧St w0 w' (jrn H jh' J.died::rs.set a (dev H (runD (writeOps J.gen J.last J.order J.data ks ds) D))))
structure JOk (n:Nat) (J:JSt):Prop where
  len:J.data.length=J.order.length
  few:J.order.length≤60
  home: ∀k∈J.order,k<n
  b512: ∀b∈J.data,b.length=512
  last:J.last+1<18446744073709551616
  gen:J.gen<18446744073709551616
end
end Go.Proofs.YtlemndledcmhiaaGreatDoor
