/-
  The catalog, from the device up, part 16.
-/
import Derived.Test.YtlemndledcmhiaaGreatDoorU15
namespace Go.Proofs.YtlemndledcmhiaaGreatDoor
set_option linter.unusedVariables false
set_option linter.unusedSimpArgs false
section
open Go.ChangeMaps Go.MapKept Go.RowKit
set_option maxHeartbeats 1000000 in
set_option maxRecDepth 100000 in
theorem c_encode (w:World) (m:Value) {L:List Tp} (next:Int) (hlen:L.length≤100) (hnm: ∀t∈L,t.nm.size≤50)
    (hs: ∀W,Frm NoB w W→Calls Tryz.prog 47 #[m] W fun e w'=> ∃v,e= .returned v∧w'.ownsRow W.heap.size 31 8 v L.length (tpsC L)∧Frm NoB W w'):
    Calls Tryz.prog 100 #[.int .i64 next,m] w fun e w'=> ∃v,e= .returned v∧OwnB w' w.heap.size v (encC next L)∧Frm NoB w w':=by
  have HP:=Lib.hid (c_put w w.heap.size (.slice none 0 0) [] next (OwnB.nil w _) (by decide) (Nat.le_refl _))
  have HS:=Lib.hid hs
  have HN:=Lib.hid (And.intro hlen hnm)
  clear hs hlen hnm
  go_enter Tryz.func100,Tryz.ntmps100
  go_wp2_with fail
  refine HP.out.mono ?_
  clear HP
  rintro e w1 ⟨v0,rfl,h1,hf1⟩
  have hf1:Frm NoB w w1:=hf1.mono fun x _ hx=>by cases hx
  have H1:=Lib.hid (And.intro h1 hf1)
  have HS1:=Lib.hid (HS.out w1 hf1)
  clear h1 hf1 HS
  go_wp2_with fail
  refine HS1.out.mono ?_
  clear HS1
  rintro e w2 ⟨vs,rfl,hrow,hf2⟩
  obtain ⟨sa,cs,hvs⟩: ∃sa cs,vs= .slice sa L.length cs:=by
    rcases hrow.2 with ⟨h,h0⟩ | ⟨g,cap,cur,h,_⟩
    · exact ⟨none,0,by rw [h,h0]⟩
    · exact ⟨_,cap,h⟩
  subst hvs
  have H2:=Lib.hid (And.intro hrow hf2)
  clear hrow hf2
  have H0:Hid (EncB w w1 w2 L (.slice sa L.length cs) (be next++rowsC (L.take 0)) v0 w2):=Lib.hid ⟨by
      show OwnB w2 w.heap.size v0 (be next++ [])
      rw [List.append_nil]
      exact H1.out.1.frm H2.out.2,fun x hx=> .inl (H1.out.1.block hx).2,H2.out.1,fun x hx=>by
      rcases H2.out.1.2 with ⟨e,_⟩ | ⟨g,cap,cur,e,h2,hg,_⟩
      · rw [e] at hx;cases hx
      · rw [e] at hx
        obtain rfl:g=x:=by simpa [Value.ownBlock] using hx
        exact ⟨h2,lt_of_block hg⟩,H1.out.2.trans H2.out.2 (fun _ _ e=>e.elim),Nat.le_refl _⟩
  have KP:Hid (∀W v bs x,EncB w w1 w2 L (.slice sa L.length cs) bs v W→bs.length≤100000→Calls Tryz.prog 191 #[v,.int .i64 x] W fun e w'=> ∃v',e= .returned v'∧EncB w w1 w2 L (.slice sa L.length cs) (bs++be x) v' w'):=Lib.hid fun W v bs x h hl=>by
    refine (c_put W w.heap.size v bs x h.own hl h.frm.size).mono ?_
    rintro e w' ⟨v',he,ho,hf⟩
    exact ⟨v',he,h.step (ho.mono h.frm.size) hf fun y hy=> .inr (ho.block hy).1⟩
  clear H1 H2
  go_wp2_with fail
  go_loopw [5,10,16] (fun t5 _ t16 wr=> ∃i:Nat,i≤L.length∧t16= .int .i64 i∧Hid (EncB w w1 w2 L (.slice sa L.length cs) (be next++rowsC (L.take i)) t5 wr)) (fun _ _ t16 _=>L.length-(intOf t16).toNat)
  case atStart=>exact ⟨0,Nat.zero_le _,rfl,H0⟩
  case round=>
    clear H0
    obtain ⟨i,hi,rfl,HE⟩:=hrel
    by_cases hlt:i<L.length
    · obtain ⟨⟨nm,p1,p2,p3,p4,p5,p6,p7⟩,ht⟩: ∃t,L[i]?=some t:=⟨_,List.getElem?_eq_getElem hlt⟩
      obtain ⟨g,rfl⟩: ∃g,sa=some ⟨g,0,none⟩:=by
        rcases HE.out.row.2 with ⟨_,h0⟩ | ⟨g,cap,cur,e,_⟩
        · omega
        · injection e with e;exact ⟨g,e⟩
      obtain ⟨k,hk⟩: ∃k,i*8=k:=⟨_,rfl⟩
      obtain ⟨c0,c1,c2,c3,c4,c5,c6,c7⟩:=row_cells HE.out.row ht hk
      have i0:(0:Int)≤(i:Int):=Int.natCast_nonneg _
      have i1:(i:Int)<(L.length:Int):=by omega
      have i2:(L.length:Int)≤100:=by have:=HN.out.1;omega
      have hnm:nm.size≤50:=HN.out.2 _ (List.mem_of_getElem? ht)
      have hlb:(be next++rowsC (L.take i)).length=8+107*i:=by
        rw [List.length_append,be_length,rowsC_length _ (fun x hx=>HN.out.2 x (List.mem_of_mem_take hx)),List.length_take,Nat.min_eq_left hi]
      have hnext:be next++rowsC (L.take (i+1))=(be next++rowsC (L.take i))++rowC ⟨nm,p1,p2,p3,p4,p5,p6,p7⟩:=by
        rw [List.take_add_one,ht]
        unfold rowsC
        rw [List.flatMap_append,List.append_assoc]
        simp
      obtain ⟨bs,hbs⟩: ∃bs,be next++rowsC (L.take i)=bs:=⟨_,rfl⟩
      rw [hbs] at HE hlb hnext
      have HI:=Lib.hid (And.intro ht (And.intro hnm (And.intro hlb (And.intro hnext (And.intro hlt (And.intro HN.out.1 hk))))))
      go_upto_region 5 with fail
      have hb1:=block_alloc_new wr (.cells #[.string nm,.int .i64 p1,.int .i64 p2,.int .i64 p3,.int .i64 p4,.int .i64 p5,.bool p6,.int .i64 p7] 31 (0,0))
      have he1:=HE.out.keep ((Frm.refl NoB wr).alloc (.cells #[.string nm,.int .i64 p1,.int .i64 p2,.int .i64 p3,.int .i64 p4,.int .i64 p5,.bool p6,.int .i64 p7] 31 (0,0)))
      obtain ⟨y1,hy1⟩: ∃y1,wr.alloc (.cells #[.string nm,.int .i64 p1,.int .i64 p2,.int .i64 p3,.int .i64 p4,.int .i64 p5,.bool p6,.int .i64 p7] 31 (0,0))=y1:=⟨_,rfl⟩
      obtain ⟨b7,hb7⟩: ∃b7,wr.heap.size=b7:=⟨_,rfl⟩
      rw [hy1] at hb1 he1
      rw [hb7] at hb1
      have HY:=Lib.hid (And.intro hy1 hb7)
      have HB1:=Lib.hid hb1
      have HE1:=Lib.hid (And.intro he1 (fun (x:Nat) (hx:u5.ownBlock=some x)=>(hb7▸(HE.out.own.block hx).2:x<b7)))
      have d0:y1.cell? ⟨b7,0,none⟩=some (.string nm):=(cell_of_block hb1).trans rfl
      have HO:=Lib.hid (c_of y1 nm hnm)
      clear hb1 he1 hy1 hb7 HE c0 c1 c2 c3 c4 c5 c6 c7 ht hnm hlb hnext hbs hi hlt hk i0 i1 i2
      rw [HY.out.1,HY.out.2]
      clear HY
      go_wp2_with fail
      refine HO.out.mono ?_
      clear HO
      rintro e y2 ⟨rfl,hf2⟩
      have HK0:=Lib.hid (block_alloc_new y2 (.cells kc0 95 (0,0)))
      have hf3:Frm NoB y2 ((y2.alloc (.cells kc0 95 (0,0))).setRow y2.heap.size (keyC nm)):=((Frm.refl NoB y2).alloc _).setRowNew (Nat.le_refl _) _
      have hb3:=setRow_heap _ _ _ (keyC nm) _ _ HK0.out
      have he3:=(HE1.out.1.keep hf2).keep hf3
      have hb7:=(hf3.block _ (Nat.lt_of_lt_of_le (lt_of_block HB1.out) hf2.size) (fun e=>e)).trans ((hf2.block _ (lt_of_block HB1.out) (fun e=>e)).trans HB1.out)
      go_upto_region 6 with (first | (refine allocRow rfl _ _ zeroCKey rfl ?_) | (refine storeCKey rfl _ _ rfl y2.heap.size (keyB nm) (keyB_length nm HI.out.2.1) rfl rfl _ (by decide) HK0.out ?_))
      obtain ⟨y3,hy3⟩: ∃y3,(y2.alloc (.cells kc0 95 (0,0))).setRow y2.heap.size (keyC nm)=y3:=⟨_,rfl⟩
      obtain ⟨b8,hb8⟩: ∃b8,y2.heap.size=b8:=⟨_,rfl⟩
      show Code.wp Tryz.prog _ _ _ ((y2.alloc (.cells kc0 95 (0,0))).setRow y2.heap.size (keyC nm))
      have hlt3:b7<y3.heap.size:=by rw [←hy3];exact Nat.lt_of_lt_of_le (lt_of_block HB1.out) (Nat.le_trans hf2.size hf3.size)
      rw [hy3] at hb3 he3 hb7
      rw [hb8] at hb3
      rw [hy3,hb8]
      have HE3:=Lib.hid (And.intro he3 hlt3)
      have HB3:=Lib.hid hb3
      have HB7:=Lib.hid hb7
      clear hf2 hf3 hb3 he3 hb7 hy3 hb8 HK0 HB1 d0 hlt3
      obtain ⟨iu,hiu,hzu,hz1,hz2⟩:=info_parts infoU8
      have hks: ∀j u,((keyB nm).map B8)[j]?=some u→y3.cell? ((⟨b8,0,none⟩:Addr).add j)=some u:=fun j u hj=>by
        rw [show (⟨b8,0,none⟩:Addr).add j=⟨b8,j,none⟩ by unfold Addr.add;split<;>simp_all]
        refine (cell_of_block HB3.out).trans ?_
        rw [←hj]
        unfold keyC
        rw [List.getElem?_toArray]
      have HKS:=Lib.hid hks
      have hs1: ∀u∈(keyB nm).map B8,u.oneCell'=true:=by intro u hu;obtain ⟨x,_,rfl⟩:=List.mem_map.1 hu;rfl
      have HS1:=Lib.hid hs1
      have hkl:=keyB_length nm HI.out.2.1
      clear hks hs1
      go_wp2_with (at_builtin;refine wpList_append_own_at _ rfl _ _ 76 rfl w.heap.size 5 iu (.int .u8 0) 1 1 Tryz.underlying76 hiu hzu hz1 hz2 rfl (by decide) _ _ _ rfl HE3.out.1.own ⟨b8,0,none⟩ 51 51 ((keyB nm).map B8) rfl ?c0 HKS.out HS1.out ?c1 ?c2 ?c3 ?_)
      case c0=>rw [List.length_map,hkl]
      case c1=>have h1:=HI.out.2.2.1;have h2:=HI.out.2.2.2.2.1;have h3:=HI.out.2.2.2.2.2.1;simp only [maxLen];omega
      case c2=>have h1:=HI.out.2.2.1;have h2:=HI.out.2.2.2.2.1;have h3:=HI.out.2.2.2.2.2.1;omega
      case c3=>exact HE3.out.1.frm.size
      intro v' y4 hown hg _ hat
      have h4:OwnB y4 w.heap.size v' (bs++keyB nm):=by
        unfold OwnB
        rw [List.length_append,hkl,List.map_append]
        exact hown
      have he4:=HE3.out.1.step h4 (Frm.ofGrown hg) (fun x hx=>by
        rcases hat with e | e
        · exact .inl (e▸hx)
        · rw [e] at hx;exact .inr (by injection hx with hx;omega))
      have hb4:=(hg.block b7 HE3.out.2 (fun e=>by have:=HE1.out.2 b7 e.symm;omega)).trans HB7.out
      have HE4:=Lib.hid he4
      have HB4:Hid (y4.heap[b7]?=some (.cells (tpz nm p1 p2 p3 p4 p5 p6 p7) 31 (0,0))):=Lib.hid hb4
      have HNB:=Lib.hid (c_numbers y4 nm p1 p2 p3 p4 p5 p6 p7)
      clear hown hg hat h4 he4 hb4 HE3 HB3 HB7 HKS HS1 HE1 hkl
      go_wp2_with (refine loadTp rfl _ rfl b7 rfl nm p1 p2 p3 p4 p5 p6 p7 HB4.out ?_)
      refine HNB.out.mono ?_
      clear HNB HB4
      rintro e y5 ⟨rfl,hf5⟩
      have H5:=Lib.hid (HE4.out.keep hf5)
      obtain ⟨q6,hq6⟩: ∃q6,bit01 p6=q6:=⟨_,rfl⟩
      have hrow:bs++keyB nm++(([p1,p2,p3,p4,p5,q6,p7]:List Int).take 7).flatMap be=be next++rowsC (L.take (i+1)):=by
        rw [HI.out.2.2.2.1]
        unfold rowC Tp.nums
        rw [hq6,List.append_assoc]
        rfl
      have HROW:=Lib.hid hrow
      have hlb:=HI.out.2.2.1
      have hil:bs.length≤20000:=by have h2:=HI.out.2.2.2.2.1;have h3:=HI.out.2.2.2.2.2.1;omega
      have hkl:=keyB_length nm HI.out.2.1
      have KPj:Hid (∀(W:World) (v:Value) (j:Nat) (x:Int),EncB w w1 w2 L (.slice (some ⟨g,0,none⟩) L.length cs) (bs++keyB nm++(([p1,p2,p3,p4,p5,q6,p7]:List Int).take j).flatMap be) v W→([p1,p2,p3,p4,p5,q6,p7]:List Int)[j]?=some x→Calls Tryz.prog 191 #[v,.int .i64 x] W fun e w'=> ∃v',e= .returned v'∧EncB w w1 w2 L (.slice (some ⟨g,0,none⟩) L.length cs) (bs++keyB nm++(([p1,p2,p3,p4,p5,q6,p7]:List Int).take (j+1)).flatMap be) v' w'):=Lib.hid fun W v j x h hx=>by
        have e:bs++keyB nm++(([p1,p2,p3,p4,p5,q6,p7]:List Int).take (j+1)).flatMap be=(bs++keyB nm++(([p1,p2,p3,p4,p5,q6,p7]:List Int).take j).flatMap be)++be x:=by
          rw [List.take_add_one,hx,List.flatMap_append]
          simp [List.append_assoc]
        rw [e]
        have hj:j<7:=(List.getElem?_eq_some_iff.1 hx).1
        have hfl:((([p1,p2,p3,p4,p5,q6,p7]:List Int).take j).flatMap be).length≤56:=by
          have: ∀l:List Int,(l.flatMap be).length=8*l.length:=fun l=>by
            induction l with
            | nil=>rfl
            | cons a l ih=>rw [List.flatMap_cons,List.length_append,be_length,ih,List.length_cons];omega
          rw [this,List.length_take]
          show 8*min j 7≤56
          omega
        exact KP.out W v _ x h (by rw [List.length_append,List.length_append,hkl];omega)
      have H50:Hid (EncB w w1 w2 L (.slice (some ⟨g,0,none⟩) L.length cs) (bs++keyB nm++(([p1,p2,p3,p4,p5,q6,p7]:List Int).take 0).flatMap be) v' y5):=Lib.hid (by
        have:bs++keyB nm++(([p1,p2,p3,p4,p5,q6,p7]:List Int).take 0).flatMap be=bs++keyB nm:=List.append_nil _
        rw [this]
        exact H5.out)
      rw [hq6]
      rw [show n7z p1 p2 p3 p4 p5 q6 p7= #[.int .i64 p1,.int .i64 p2,.int .i64 p3,.int .i64 p4,.int .i64 p5,.int .i64 q6,.int .i64 p7] from rfl]
      clear hf5 HE4 hrow hq6 H5 hlb hil hkl KP
      go_wp2_with fail
      go_loopw [5,10,28] (fun t5 _ t28 wi=> ∃j:Nat,j≤7∧t28= .int .i64 j∧Hid (EncB w w1 w2 L (.slice (some ⟨g,0,none⟩) L.length cs) (bs++keyB nm++(([p1,p2,p3,p4,p5,q6,p7]:List Int).take j).flatMap be) t5 wi)) (fun _ _ t28 _=>7-(intOf t28).toNat)
      case atStart=>exact ⟨0,Nat.zero_le _,rfl,H50⟩
      case round=>
        clear H50
        obtain ⟨j,hj,rfl,HJ⟩:=hrel
        rcases (by omega:j=0∨j=1∨j=2∨j=3∨j=4∨j=5∨j=6∨j=7) with rfl | rfl | rfl | rfl | rfl | rfl | rfl | rfl
        · have HC:=Lib.hid (KPj.out _ _ 0 p1 HJ.out rfl)
          have hix:=idx7_0 p1 p2 p3 p4 p5 q6 p7
          clear KPj HJ
          go_wp2_with fail
          refine HC.out.mono ?_
          clear HC
          rintro e y7 ⟨v7,rfl,h7⟩
          have H7:=Lib.hid h7
          clear h7
          go_wp2_with fail
          exact ⟨⟨1,by omega,rfl,H7⟩,by decide⟩
        · have HC:=Lib.hid (KPj.out _ _ 1 p2 HJ.out rfl)
          have hix:=idx7_1 p1 p2 p3 p4 p5 q6 p7
          clear KPj HJ
          go_wp2_with fail
          refine HC.out.mono ?_
          clear HC
          rintro e y7 ⟨v7,rfl,h7⟩
          have H7:=Lib.hid h7
          clear h7
          go_wp2_with fail
          exact ⟨⟨2,by omega,rfl,H7⟩,by decide⟩
        · have HC:=Lib.hid (KPj.out _ _ 2 p3 HJ.out rfl)
          have hix:=idx7_2 p1 p2 p3 p4 p5 q6 p7
          clear KPj HJ
          go_wp2_with fail
          refine HC.out.mono ?_
          clear HC
          rintro e y7 ⟨v7,rfl,h7⟩
          have H7:=Lib.hid h7
          clear h7
          go_wp2_with fail
          exact ⟨⟨3,by omega,rfl,H7⟩,by decide⟩
        · have HC:=Lib.hid (KPj.out _ _ 3 p4 HJ.out rfl)
          have hix:=idx7_3 p1 p2 p3 p4 p5 q6 p7
          clear KPj HJ
          go_wp2_with fail
          refine HC.out.mono ?_
          clear HC
          rintro e y7 ⟨v7,rfl,h7⟩
          have H7:=Lib.hid h7
          clear h7
          go_wp2_with fail
          exact ⟨⟨4,by omega,rfl,H7⟩,by decide⟩
        · have HC:=Lib.hid (KPj.out _ _ 4 p5 HJ.out rfl)
          have hix:=idx7_4 p1 p2 p3 p4 p5 q6 p7
          clear KPj HJ
          go_wp2_with fail
          refine HC.out.mono ?_
          clear HC
          rintro e y7 ⟨v7,rfl,h7⟩
          have H7:=Lib.hid h7
          clear h7
          go_wp2_with fail
          exact ⟨⟨5,by omega,rfl,H7⟩,by decide⟩
        · have HC:=Lib.hid (KPj.out _ _ 5 q6 HJ.out rfl)
          have hix:=idx7_5 p1 p2 p3 p4 p5 q6 p7
          clear KPj HJ
          go_wp2_with fail
          refine HC.out.mono ?_
          clear HC
          rintro e y7 ⟨v7,rfl,h7⟩
          have H7:=Lib.hid h7
          clear h7
          go_wp2_with fail
          exact ⟨⟨6,by omega,rfl,H7⟩,by decide⟩
        · have HC:=Lib.hid (KPj.out _ _ 6 p7 HJ.out rfl)
          have hix:=idx7_6 p1 p2 p3 p4 p5 q6 p7
          clear KPj HJ
          go_wp2_with fail
          refine HC.out.mono ?_
          clear HC
          rintro e y7 ⟨v7,rfl,h7⟩
          have H7:=Lib.hid h7
          clear h7
          go_wp2_with fail
          exact ⟨⟨7,by omega,rfl,H7⟩,by decide⟩
        · have HJ2:=Lib.hid HJ.out
          rw [HROW.out] at HJ2
          have i0:(0:Int)≤(i:Int):=Int.natCast_nonneg _
          have i1:(i:Int)<100:=by have h2:=HI.out.2.2.2.2.1;have h3:=HI.out.2.2.2.2.2.1;omega
          clear KPj HJ
          go_wp2_with fail
          exact ⟨⟨i+1,HI.out.2.2.2.2.1,by go_num,HJ2⟩,by have:=HI.out.2.2.2.2.1;simp [intOf];omega⟩
    · obtain rfl:i=L.length:=by omega
      have HE2:=Lib.hid HE.out
      rw [List.take_length] at HE2
      have i2:(L.length:Int)≤100:=by have:=HN.out.1;omega
      clear HE KP
      go_wp2_with fail
      go_ret
      exact ⟨_,rfl,HE2.out.own,HE2.out.frm⟩
theorem arrayAtC {vb vo vc n:Nat} (hn:n=51) (W:World):(Instr.arrayAt 95 (.slice (some ⟨vb,vo,none⟩) n vc)).run Tryz.prog W= .ok (.pointer (some ⟨vb,vo,none⟩)) W:=by
  subst hn
  unfold Instr.arrayAt
  rw [Sem.run_bind,run_underlying Tryz.underlying95 W]
  rfl
def I64 (x:Int):Prop:= -9223372036854775808≤x∧x≤9223372036854775807
def nz (p1 p2 p3 p4 p5 p6 p7:Int) (j:Nat):Array Value:=n7z (if 0<j then p1 else 0) (if 1<j then p2 else 0) (if 2<j then p3 else 0) (if 3<j then p4 else 0) (if 4<j then p5 else 0) (if 5<j then p6 else 0) (if 6<j then p7 else 0)
structure DecR (w:World) (mb kb b7 i:Nat) (M:Blk→Option Value) (nm:ByteArray) (c:Array Value) (wi:World):Prop where
  map:MapAt KeyK okK wi mb i M
  key:wi.heap[kb]?=some (.cells (keyC nm) 95 (0,0))
  num:wi.heap[b7]?=some (.cells c 194 (0,0))
  frm:Frm NoB w wi
  ne:mb≠b7∧kb≠b7∧w.heap.size≤b7
theorem DecR.set {w wi:World} {mb kb b7 i:Nat} {M:Blk→Option Value} {nm:ByteArray} {c:Array Value} (h:DecR w mb kb b7 i M nm c wi) (j:Nat) (x:Value):DecR w mb kb b7 i M nm (c.setIfInBounds j x) (wi.setCell ⟨b7,j,none⟩ x):=
  ⟨h.map.frm ((Frm.refl (Only b7) wi).setOnly x) (fun e=>h.ne.1 e),block_setCell_other (p:=⟨b7,j,none⟩) x h.key h.ne.2.1,block_setCell_same (i:=j) x h.num,h.frm.setCell (p:=⟨b7,j,none⟩) (.inr h.ne.2.2) x,h.ne⟩
theorem DecR.keep {w wi wj:World} {mb kb b7 i:Nat} {M:Blk→Option Value} {nm:ByteArray} {c:Array Value} (h:DecR w mb kb b7 i M nm c wi) (hf:Frm NoB wi wj):DecR w mb kb b7 i M nm c wj:=
  ⟨h.map.frm hf (fun e=>e),(hf.block _ (lt_of_block h.key) (fun e=>e)).trans h.key,(hf.block _ (lt_of_block h.num) (fun e=>e)).trans h.num,h.frm.trans hf (fun _ _ e=>e),h.ne⟩
theorem DecR.put {w wi:World} {mb kb b7 i:Nat} {M:Blk→Option Value} {nm:ByteArray} {c:Array Value} (h:DecR w mb kb b7 i M nm c wi) (hmb:w.heap.size≤mb) {k:Nat} {M':Blk→Option Value} {o:Obj} (hm:MapAt KeyK okK (setBlock wi mb o) mb k M'):DecR w mb kb b7 k M' nm c (setBlock wi mb o):=by
  obtain ⟨es,clock,e1,_⟩:=h.map
  have hs:=heap_set (o':=o) e1
  have hne:kb≠mb:=fun e=>by subst e;have:=h.key;rw [e1] at this;cases this
  exact ⟨hm,(hs.2 kb hne).trans h.key,(hs.2 b7 (fun e=>h.ne.1 e.symm)).trans h.num,h.frm.setBlock (.inr hmb) o,h.ne⟩
theorem mapL_take {L:List Tp} (hL:CatL L) {i:Nat} {t:Tp} (ht:L[i]?=some t):mapL (L.take i) (keyB t.nm)=none∧∀a,mapL (L.take (i+1)) a=if a=keyB t.nm then some t else mapL (L.take i) a:=by
  have hil:=(List.getElem?_eq_some_iff.1 ht).1
  have h1:mapL (L.take i) (keyB t.nm)=none:=by
    cases hf:mapL (L.take i) (keyB t.nm) with
    | none=>rfl
    | some s=>
      have hs:=CatL.sub hf
      have hsL:=List.mem_of_mem_take hs.1
      have e:=hL.one hsL (List.mem_of_getElem? ht) (keyB_inj _ _ (hL.nm s hsL) (hL.nm t (List.mem_of_getElem? ht)) hs.2.symm)
      obtain ⟨k,hk,hks⟩:=List.getElem_of_mem hs.1
      rw [List.length_take] at hk
      rw [List.getElem_take] at hks
      have hasc:=(List.pairwise_iff_getElem.1 hL.asc) k i (by omega) hil (by omega)
      rw [hks,(List.getElem?_eq_some_iff.1 ht).2,e,lessN_irr] at hasc
      cases hasc
  refine ⟨h1,fun a=>?_⟩
  rw [List.take_add_one,ht]
  unfold mapL
  rw [Option.toList_some,List.find?_append]
  by_cases e:a=keyB t.nm
  · subst e
    have h1':(L.take i).find? (fun t'=>keyB t'.nm==keyB t.nm)=none:=h1
    rw [h1',if_pos rfl]
    simp
  · rw [if_neg e]
    have: [t].find? (fun t'=>keyB t'.nm==a)=none:=by simp [Ne.symm e]
    rw [this]
    simp
theorem bit01_1 (b:Bool):decide (bit01 b=1)=b:=by cases b<;>rfl
theorem run_sizeU8 (W:World):(sizeOf 5).run Tryz.prog W= .ok 1 W:=by kernel_rfl
theorem sliceAt_key (kb s:Nat) (hs:s≤50) (W:World):(Instr.sliceAt 95 (.pointer (some ⟨kb,0,none⟩)) (some (.int .i64 1)) (some (.int .u8 (1+(s:Int)))) none).run Tryz.prog W= .ok (.slice (some ⟨kb,1,none⟩) s 50) W:=by
  have h1: ¬(1+(s:Int))<0:=by omega
  have h2: ¬51<1+(s:Int):=by omega
  have h3:(1+(s:Int)).toNat=1+s:=by omega
  have h4:1+(s:Int)≤51:=by omega
  have h5: ¬(1+s)<1:=by omega
  have h6:(0:Int)≤(s:Int):=by omega
  have h7:(0:Int)≤1+(s:Int):=by omega
  have h8:(1:Int)≤1+(s:Int):=by omega
  have h9:1+s-1=s:=by omega
  simp [Instr.sliceAt,run_underlying Tryz.underlying95,run_sizeU8,Instr.sureAddr,Instr.sliceBounds,asIntOf,go_sem,Result.andThen,h1,h2,h3,h4,h5,h6,h7,h8,h9,Addr.add]
theorem key_string (W:World) (kb:Nat) (nm:ByteArray) (hnm:nm.size≤50) (h:W.heap[kb]?=some (.cells (keyC nm) 95 (0,0))) (c:Nat):
    (convert 76 9 (.slice (some ⟨kb,1,none⟩) nm.size c)).run Tryz.prog W= .ok (.string nm) W:=by
  have hl:nm.data.toList.length=nm.size:=by rw [Array.length_toList];rfl
  have hc:=run_convert_bytes_back (P:=Tryz.prog) W 76 9 5 ⟨kb,1,none⟩ c nm.data.toList Tryz.underlying76 Tryz.underlying5 Tryz.underlying9 (fun j hj=>by
    rw [show (⟨kb,1,none⟩:Addr).add j=⟨kb,1+j,none⟩ by unfold Addr.add;split<;>simp_all]
    refine (cell_of_block h).trans ?_
    unfold keyC keyB
    rw [List.getElem?_toArray,List.getElem?_map,Nat.add_comm,List.getElem?_cons_succ,List.getElem?_append_left hj,List.getElem?_eq_getElem hj]
    rfl)
  rw [hl] at hc
  have:(⟨nm.data.toList.toArray⟩:ByteArray)=nm:=by simp
  rw [this] at hc
  exact hc
structure CatR (next:Int) (L:List Tp):Prop where
  next:I64 next
  nums: ∀t∈L,∀x∈t.nums,I64 x
theorem enc_split (next:Int) {L:List Tp} {i:Nat} {t:Tp} (ht:L[i]?=some t) (hnm: ∀t∈L,t.nm.size≤50): ∃a b,encC next L=a++rowC t++b∧a.length=8+107*i:=by
  have hil:=(List.getElem?_eq_some_iff.1 ht).1
  refine ⟨be next++rowsC (L.take i),rowsC (L.drop (i+1)),?_,?_⟩
  · unfold encC
    have:L=L.take i++t::L.drop (i+1):=by
      conv=>lhs;rw [←List.take_append_drop i L]
      rw [List.drop_eq_getElem_cons hil,(List.getElem?_eq_some_iff.1 ht).2]
    conv=>lhs;rw [this]
    unfold rowsC
    rw [List.flatMap_append,List.flatMap_cons]
    simp only [List.append_assoc]
  · rw [List.length_append,be_length,rowsC_length _ (fun x hx=>hnm x (List.mem_of_mem_take hx)),List.length_take,Nat.min_eq_left (by omega)]
theorem enc_key (next:Int) {L:List Tp} {i:Nat} {t:Tp} (ht:L[i]?=some t) (hnm: ∀t∈L,t.nm.size≤50):((encC next L).drop (8+107*i)).take 51=keyB t.nm:=by
  obtain ⟨a,b,e,ha⟩:=enc_split next ht hnm
  have hk:=keyB_length t.nm (hnm t (List.mem_of_getElem? ht))
  rw [e,List.append_assoc,←ha,List.drop_left]
  unfold rowC
  rw [List.append_assoc,List.take_append_of_le_length (by omega),List.take_of_length_le (by omega)]
theorem enc_num (next:Int) {L:List Tp} {i:Nat} {t:Tp} (ht:L[i]?=some t) (hnm: ∀t∈L,t.nm.size≤50) {j:Nat} {x:Int} (hx:t.nums[j]?=some x) (hr:I64 x):IntKind.i64.wrap (getBE (encC next L) (8+107*i+51+8*j):Int)=x:=by
  obtain ⟨a,b,e,ha⟩:=enc_split next ht hnm
  have hk:=keyB_length t.nm (hnm t (List.mem_of_getElem? ht))
  have hjl:=(List.getElem?_eq_some_iff.1 hx).1
  have hl: ∀l:List Int,(l.flatMap be).length=8*l.length:=fun l=>by
    induction l with
    | nil=>rfl
    | cons a l ih=>rw [List.flatMap_cons,List.length_append,be_length,ih,List.length_cons];omega
  have hs:t.nums.flatMap be=(t.nums.take j).flatMap be++be x++(t.nums.drop (j+1)).flatMap be:=by
    conv=>lhs;rw [←List.take_append_drop j t.nums]
    rw [List.drop_eq_getElem_cons hjl,(List.getElem?_eq_some_iff.1 hx).2,List.flatMap_append,List.flatMap_cons,List.append_assoc]
  have e2:encC next L=(a++keyB t.nm++(t.nums.take j).flatMap be)++be x++((t.nums.drop (j+1)).flatMap be++b):=by
    rw [e]
    unfold rowC
    rw [hs]
    simp only [List.append_assoc]
  have e3:(a++keyB t.nm++(t.nums.take j).flatMap be).length=8+107*i+51+8*j:=by
    rw [List.length_append,List.length_append,ha,hk,hl,List.length_take,Nat.min_eq_left (by omega)]
  rw [e2,←e3]
  exact getBE_be _ _ x hr.1 hr.2
theorem enc_next (next:Int) (L:List Tp) (hr:I64 next):IntKind.i64.wrap (getBE (encC next L) 0:Int)=next:=by
  have:=getBE_be [] (rowsC L) next hr.1 hr.2
  exact this
set_option maxHeartbeats 1000000 in
set_option maxRecDepth 100000 in
theorem c_decode (w:World) (v:Value) {next:Int} {L:List Tp} (hL:CatL L) (hlen:L.length≤20) (hr:CatR next L) {R:Nat→Prop} (hv:BytesAt w v (encC next L) R):
    Calls Tryz.prog 55 #[v] w fun e w'=> ∃mb,e= .returned (.tuple #[.int .i64 next,.map (some mb),.bool true])∧MapAt KeyK okK w' mb L.length (tpV (mapL L))∧w.heap.size≤mb∧Frm NoB w w':=by
  have hbl:=encC_length next L hL.nm
  obtain ⟨vb,vo,vc,rfl,hcap,-,-⟩:=hv.cells
  obtain ⟨n,hn⟩: ∃n,(encC next L).length=n:=⟨_,rfl⟩
  have hmk: ∀W,(Instr.makeMap 91 none).run Tryz.prog W= .ok (.map (some W.heap.size)) (W.alloc (.map #[] 0)):=fun W=>rfl
  have hn8: ¬(n:Int)<8:=by omega
  have hn0:(0:Int)≤(n:Int):=by omega
  have hn1:(n:Int)≤2148:=by omega
  have hmod:((n:Int)-8).tmod 107=0:=by rw [Int.tmod_eq_emod_of_nonneg (by omega)];omega
  have hmod2:((n:Int)-8)%107=0:=by omega
  have HN:=Lib.hid (And.intro hn (And.intro (hbl.symm.trans hn) hlen))
  have HV:=Lib.hid hv
  have HL:=Lib.hid (And.intro hL hr)
  rw [hn] at hcap ⊢
  have l3:(n:Int)≤(vc:Int):=by omega
  clear hv hL hr hbl hlen hn hcap
  go_enter Tryz.func55,Tryz.ntmps55
  go_upto_region 4 with fail
  have HMP:=Lib.hid (MapAt.made (mk:=KeyK) (ok:=okK) w)
  have HMF:Hid (Frm NoB w (w.alloc (.map #[] 0))):=Lib.hid ((Frm.refl NoB w).alloc _)
  obtain ⟨y0,hy0⟩: ∃y0,w.alloc (.map #[] 0)=y0:=⟨_,rfl⟩
  obtain ⟨mb,hmb⟩: ∃mb,w.heap.size=mb:=⟨_,rfl⟩
  have HMB:Hid (w.heap.size≤mb):=Lib.hid (by omega)
  rw [hy0] at HMP HMF ⊢
  rw [hmb] at HMP ⊢
  clear hy0 hmb hmk hmod hmod2
  go_wp2_with fail
  go_loopw [3,5,8] (fun t3 t5 _ wr=>t3= .map (some mb)∧∃i:Nat,i≤L.length∧t5= .int .i64 ((8+107*i:Nat):Int)∧Hid (MapAt KeyK okK wr mb i (tpV (mapL (L.take i))))∧Hid (Frm NoB w wr)) (fun _ t5 _ _=>n-(intOf t5).toNat)
  case atStart=>exact ⟨rfl,0,Nat.zero_le _,rfl,HMP,HMF⟩
  case round=>
    clear HMP HMF
    obtain ⟨rfl,i,hi,rfl,HM,HF⟩:=hrel
    have i0:(0:Int)≤(i:Int):=Int.natCast_nonneg _
    by_cases hlt:i<L.length
    · obtain ⟨⟨nm,p1,p2,p3,p4,p5,p6,p7⟩,ht⟩: ∃t,L[i]?=some t:=⟨_,List.getElem?_eq_getElem hlt⟩
      have hnm:nm.size≤50:=HL.out.1.nm _ (List.mem_of_getElem? ht)
      have hkey:=enc_key next ht HL.out.1.nm
      have hrg:wr.rangeAt vb (vo+(8+107*i)) ((keyB nm).map B8):=fun j u hj=>by
        rw [←hkey] at hj
        have:=(HV.out.frm0 HF.out).part (8+107*i) 51 j u hj
        rw [show ((⟨vb,vo+(8+107*i),none⟩:Addr).add j)=⟨vb,vo+(8+107*i)+j,none⟩ by
          unfold Addr.add
          by_cases e:j=0
          · subst e;rfl
          · rw [if_neg e]] at this
        exact this
      have hkl:=keyB_length nm hnm
      have l1:8+107*(i:Int)<(n:Int):=by have:=HN.out.2.1;omega
      have l2:8+107*(i:Int)+51≤(n:Int):=by have:=HN.out.2.1;omega
      have l4:8+107*(i:Int)+107≤(n:Int):=by have:=HN.out.2.1;omega
      have hap:=fun W=>arrayAtC (vb:=vb) (vo:=vo+(8+107*i)) (vc:=vc-(8+107*i)) rfl W
      have HRG:=Lib.hid hrg
      have HI:Hid ((Tryz.prog.info? 95).map (·.size)=some ((keyB nm).map B8).length):=Lib.hid (by rw [List.length_map,hkl];kernel_rfl)
      have HK0:=Lib.hid (block_alloc_new wr (.cells kc0 95 (0,0)))
      have HT:=Lib.hid (And.intro ht (And.intro hnm (And.intro hkl hlt)))
      clear hrg ht hnm hkey hkl hlt hi
      go_upto_region 7 with (fail)
      go_upto_region 8 with (first | (refine wpList_load_mid rfl _ _ rfl vb (vo+(8+107*i)) rfl ((keyB nm).map B8) _ HRG.out Tryz.underlying95 rfl HI.out ?_) | (refine allocRow rfl _ _ zeroCKey rfl ?_) | (refine storeCKey rfl _ _ rfl wr.heap.size (keyB nm) HT.out.2.2.1 rfl rfl _ rfl HK0.out ?_))
      have hk1:=setRow_heap _ _ _ ((keyB nm).map B8).toArray _ _ HK0.out
      have hf4:Frm NoB wr ((wr.alloc (.cells kc0 95 (0,0))).setRow wr.heap.size ((keyB nm).map B8).toArray):=((Frm.refl NoB wr).alloc _).setRowNew (Nat.le_refl _) _
      show Code.wp Tryz.prog _ _ _ ((wr.alloc (.cells kc0 95 (0,0))).setRow wr.heap.size ((keyB nm).map B8).toArray)
      obtain ⟨kb,hkb⟩: ∃kb,wr.heap.size=kb:=⟨_,rfl⟩
      obtain ⟨y4,hy4⟩: ∃y4,(wr.alloc (.cells kc0 95 (0,0))).setRow wr.heap.size ((keyB nm).map B8).toArray=y4:=⟨_,rfl⟩
      have hkb2:kb<y4.heap.size:=by rw [←hy4,←hkb];exact lt_of_block hk1
      have hmk:mb<y4.heap.size:=by rw [←hy4];exact Nat.lt_of_lt_of_le HM.out.lt hf4.size
      rw [hy4] at hk1 hf4
      rw [hkb] at hk1
      rw [hkb] at hy4 ⊢
      rw [hy4]
      have c0:y4.cell? ⟨kb,0,none⟩=some (.int .u8 ((nm.size:Nat):Int)):=by
        refine (cell_of_block hk1).trans ?_
        have:(UInt8.ofNat nm.size).toNat=nm.size:=by rw [UInt8.toNat_ofNat'];have:=HT.out.2.1;omega
        rw [List.getElem?_toArray]
        show some (B8 (UInt8.ofNat nm.size))=_
        unfold B8
        rw [this]
      have s0:(0:Int)≤((nm.size:Nat):Int):=Int.natCast_nonneg _
      have s1:((nm.size:Nat):Int)≤50:=by have:=HT.out.2.1;omega
      have hd:DecR w mb kb y4.heap.size i (tpV (mapL (L.take i))) nm (n7z 0 0 0 0 0 0 0) (y4.alloc (.cells (n7z 0 0 0 0 0 0 0) 194 (0,0))):=
        ⟨HM.out.frm (hf4.alloc _) (fun e=>e),block_alloc_old _ hk1,block_alloc_new _ _,(HF.out.trans hf4 (fun _ _ e=>e)).alloc _,⟨by omega,by omega,Nat.le_trans HF.out.size hf4.size⟩⟩
      have HK4:=Lib.hid (And.intro hk1 (And.intro hkb2 hmk))
      obtain ⟨b7,hb7⟩: ∃b7,y4.heap.size=b7:=⟨_,rfl⟩
      obtain ⟨y5,hy5⟩: ∃y5,y4.alloc (.cells (n7z 0 0 0 0 0 0 0) 194 (0,0))=y5:=⟨_,rfl⟩
      rw [hb7,hy5] at hd
      have HY:=Lib.hid (And.intro hy5 hb7)
      have HD:=Lib.hid hd
      obtain ⟨P,hP⟩: ∃P:Nat,8+107*i+51=P:=⟨_,rfl⟩
      have hP2:8+107*(i:Int)+51=(P:Int):=by omega
      have P0:(0:Int)≤(P:Int):=Int.natCast_nonneg _
      have P1:(P:Int)≤2148:=by omega
      have KG:Hid (∀W (j:Nat) (x:Int),Frm NoB w W→(Tp.nums ⟨nm,p1,p2,p3,p4,p5,p6,p7⟩)[j]?=some x→Calls Tryz.prog 123 #[.slice (some ⟨vb,vo,none⟩) n vc,.int .i64 ((P+8*j:Nat):Int)] W fun e w'=>W=w'∧e= .returned (.int .i64 x)):=Lib.hid fun W j x hW hx=>by
        have hj:j<7:=(List.getElem?_eq_some_iff.1 hx).1
        have hsl:=(HV.out.frm0 hW).sliceOf
        have:=c_get W _ (encC next L) (P+8*j) hsl (by rw [HN.out.1];have:=HN.out.2.1;have:=HT.out.2.2.2;omega) (by rw [HN.out.1];omega)
        rw [←hP,enc_num next HT.out.1 HL.out.1.nm hx (HL.out.2.nums _ (List.mem_of_getElem? HT.out.1) _ (List.mem_of_getElem? hx)),HN.out.1,hP] at this
        exact this
      clear hk1 hf4 hy4 hkb hkb2 hmk HM HF HK0 HRG HI hd hb7 hy5 hP hap l1 l2
      go_upto_region 11 with (refine allocRow rfl _ _ zeroN7 rfl ?_)
      rw [HY.out.1,HY.out.2]
      clear HY c0
      have HD0:Hid (DecR w mb kb b7 i (tpV (mapL (L.take i))) nm (nz p1 p2 p3 p4 p5 (bit01 p6) p7 0) y5):=Lib.hid HD.out
      clear HD
      go_wp2_with fail
      go_loopw [8,37] (fun _ t37 wi=> ∃j:Nat,j≤7∧t37= .int .i64 j∧Hid (DecR w mb kb b7 i (tpV (mapL (L.take i))) nm (nz p1 p2 p3 p4 p5 (bit01 p6) p7 j) wi)) (fun _ t37 _=>7-(intOf t37).toNat)
      case atStart=>exact ⟨0,Nat.zero_le _,rfl,HD0⟩
      case round=>
        clear HD0
        obtain ⟨j,hj,rfl,HJ⟩:=hrel
        rcases (by omega:j=0∨j=1∨j=2∨j=3∨j=4∨j=5∨j=6∨j=7) with rfl | rfl | rfl | rfl | rfl | rfl | rfl | rfl
        · have HC:Hid (Calls Tryz.prog 123 #[.slice (some ⟨vb,vo,none⟩) n vc,.int .i64 (P:Int)] wr fun e w'=>wr=w'∧e= .returned (.int .i64 p1)):=Lib.hid (by
            have:=KG.out wr 0 p1 HJ.out.frm rfl
            rw [show ((P+8*0:Nat):Int)=(P:Int) by omega] at this
            exact this)
          have fz:wr.frozen? ⟨b7,0,none⟩=false:=frozen_of_block HJ.out.num
          have cz:wr.cell? ⟨b7,0,none⟩=some (.int .i64 0):=(cell_of_block HJ.out.num).trans rfl
          have HN7:Hid (DecR w mb kb b7 i (tpV (mapL (L.take i))) nm (nz p1 p2 p3 p4 p5 (bit01 p6) p7 1) (wr.setCell ⟨b7,0,none⟩ (.int .i64 p1))):=Lib.hid (HJ.out.set 0 (.int .i64 p1))
          clear KG HJ
          generalize bit01 p6=q6 at*
          go_wp2_with fail
          refine HC.out.mono ?_
          clear HC
          rintro e y7 ⟨rfl,rfl⟩
          go_wp2_with fail
          exact ⟨⟨1,by omega,rfl,HN7⟩,by decide⟩
        · have HC:Hid (Calls Tryz.prog 123 #[.slice (some ⟨vb,vo,none⟩) n vc,.int .i64 ((P:Int)+8)] wr fun e w'=>wr=w'∧e= .returned (.int .i64 p2)):=Lib.hid (by
            have:=KG.out wr 1 p2 HJ.out.frm rfl
            rw [show ((P+8*1:Nat):Int)=((P:Int)+8) by omega] at this
            exact this)
          have fz:wr.frozen? ⟨b7,1,none⟩=false:=frozen_of_block HJ.out.num
          have cz:wr.cell? ⟨b7,1,none⟩=some (.int .i64 0):=(cell_of_block HJ.out.num).trans rfl
          have HN7:Hid (DecR w mb kb b7 i (tpV (mapL (L.take i))) nm (nz p1 p2 p3 p4 p5 (bit01 p6) p7 2) (wr.setCell ⟨b7,1,none⟩ (.int .i64 p2))):=Lib.hid (HJ.out.set 1 (.int .i64 p2))
          clear KG HJ
          generalize bit01 p6=q6 at*
          go_wp2_with fail
          refine HC.out.mono ?_
          clear HC
          rintro e y7 ⟨rfl,rfl⟩
          go_wp2_with fail
          exact ⟨⟨2,by omega,rfl,HN7⟩,by decide⟩
        · have HC:Hid (Calls Tryz.prog 123 #[.slice (some ⟨vb,vo,none⟩) n vc,.int .i64 ((P:Int)+16)] wr fun e w'=>wr=w'∧e= .returned (.int .i64 p3)):=Lib.hid (by
            have:=KG.out wr 2 p3 HJ.out.frm rfl
            rw [show ((P+8*2:Nat):Int)=((P:Int)+16) by omega] at this
            exact this)
          have fz:wr.frozen? ⟨b7,2,none⟩=false:=frozen_of_block HJ.out.num
          have cz:wr.cell? ⟨b7,2,none⟩=some (.int .i64 0):=(cell_of_block HJ.out.num).trans rfl
          have HN7:Hid (DecR w mb kb b7 i (tpV (mapL (L.take i))) nm (nz p1 p2 p3 p4 p5 (bit01 p6) p7 3) (wr.setCell ⟨b7,2,none⟩ (.int .i64 p3))):=Lib.hid (HJ.out.set 2 (.int .i64 p3))
          clear KG HJ
          generalize bit01 p6=q6 at*
          go_wp2_with fail
          refine HC.out.mono ?_
          clear HC
          rintro e y7 ⟨rfl,rfl⟩
          go_wp2_with fail
          exact ⟨⟨3,by omega,rfl,HN7⟩,by decide⟩
        · have HC:Hid (Calls Tryz.prog 123 #[.slice (some ⟨vb,vo,none⟩) n vc,.int .i64 ((P:Int)+24)] wr fun e w'=>wr=w'∧e= .returned (.int .i64 p4)):=Lib.hid (by
            have:=KG.out wr 3 p4 HJ.out.frm rfl
            rw [show ((P+8*3:Nat):Int)=((P:Int)+24) by omega] at this
            exact this)
          have fz:wr.frozen? ⟨b7,3,none⟩=false:=frozen_of_block HJ.out.num
          have cz:wr.cell? ⟨b7,3,none⟩=some (.int .i64 0):=(cell_of_block HJ.out.num).trans rfl
          have HN7:Hid (DecR w mb kb b7 i (tpV (mapL (L.take i))) nm (nz p1 p2 p3 p4 p5 (bit01 p6) p7 4) (wr.setCell ⟨b7,3,none⟩ (.int .i64 p4))):=Lib.hid (HJ.out.set 3 (.int .i64 p4))
          clear KG HJ
          generalize bit01 p6=q6 at*
          go_wp2_with fail
          refine HC.out.mono ?_
          clear HC
          rintro e y7 ⟨rfl,rfl⟩
          go_wp2_with fail
          exact ⟨⟨4,by omega,rfl,HN7⟩,by decide⟩
        · have HC:Hid (Calls Tryz.prog 123 #[.slice (some ⟨vb,vo,none⟩) n vc,.int .i64 ((P:Int)+32)] wr fun e w'=>wr=w'∧e= .returned (.int .i64 p5)):=Lib.hid (by
            have:=KG.out wr 4 p5 HJ.out.frm rfl
            rw [show ((P+8*4:Nat):Int)=((P:Int)+32) by omega] at this
            exact this)
          have fz:wr.frozen? ⟨b7,4,none⟩=false:=frozen_of_block HJ.out.num
          have cz:wr.cell? ⟨b7,4,none⟩=some (.int .i64 0):=(cell_of_block HJ.out.num).trans rfl
          have HN7:Hid (DecR w mb kb b7 i (tpV (mapL (L.take i))) nm (nz p1 p2 p3 p4 p5 (bit01 p6) p7 5) (wr.setCell ⟨b7,4,none⟩ (.int .i64 p5))):=Lib.hid (HJ.out.set 4 (.int .i64 p5))
          clear KG HJ
          generalize bit01 p6=q6 at*
          go_wp2_with fail
          refine HC.out.mono ?_
          clear HC
          rintro e y7 ⟨rfl,rfl⟩
          go_wp2_with fail
          exact ⟨⟨5,by omega,rfl,HN7⟩,by decide⟩
        · have HC:Hid (Calls Tryz.prog 123 #[.slice (some ⟨vb,vo,none⟩) n vc,.int .i64 ((P:Int)+40)] wr fun e w'=>wr=w'∧e= .returned (.int .i64 (bit01 p6))):=Lib.hid (by
            have:=KG.out wr 5 (bit01 p6) HJ.out.frm rfl
            rw [show ((P+8*5:Nat):Int)=((P:Int)+40) by omega] at this
            exact this)
          have fz:wr.frozen? ⟨b7,5,none⟩=false:=frozen_of_block HJ.out.num
          have cz:wr.cell? ⟨b7,5,none⟩=some (.int .i64 0):=(cell_of_block HJ.out.num).trans rfl
          have HN7:Hid (DecR w mb kb b7 i (tpV (mapL (L.take i))) nm (nz p1 p2 p3 p4 p5 (bit01 p6) p7 6) (wr.setCell ⟨b7,5,none⟩ (.int .i64 (bit01 p6)))):=Lib.hid (HJ.out.set 5 (.int .i64 (bit01 p6)))
          clear KG HJ
          generalize bit01 p6=q6 at*
          go_wp2_with fail
          refine HC.out.mono ?_
          clear HC
          rintro e y7 ⟨rfl,rfl⟩
          go_wp2_with fail
          exact ⟨⟨6,by omega,rfl,HN7⟩,by decide⟩
        · have HC:Hid (Calls Tryz.prog 123 #[.slice (some ⟨vb,vo,none⟩) n vc,.int .i64 ((P:Int)+48)] wr fun e w'=>wr=w'∧e= .returned (.int .i64 p7)):=Lib.hid (by
            have:=KG.out wr 6 p7 HJ.out.frm rfl
            rw [show ((P+8*6:Nat):Int)=((P:Int)+48) by omega] at this
            exact this)
          have fz:wr.frozen? ⟨b7,6,none⟩=false:=frozen_of_block HJ.out.num
          have cz:wr.cell? ⟨b7,6,none⟩=some (.int .i64 0):=(cell_of_block HJ.out.num).trans rfl
          have HN7:Hid (DecR w mb kb b7 i (tpV (mapL (L.take i))) nm (nz p1 p2 p3 p4 p5 (bit01 p6) p7 7) (wr.setCell ⟨b7,6,none⟩ (.int .i64 p7))):=Lib.hid (HJ.out.set 6 (.int .i64 p7))
          clear KG HJ
          generalize bit01 p6=q6 at*
          go_wp2_with fail
          refine HC.out.mono ?_
          clear HC
          rintro e y7 ⟨rfl,rfl⟩
          go_wp2_with fail
          exact ⟨⟨7,by omega,rfl,HN7⟩,by decide⟩
        · clear KG
          go_upto_region 16 with fail
          obtain ⟨q6,hq6⟩: ∃q6,bit01 p6=q6:=⟨_,rfl⟩
          have HJ7:Hid (DecR w mb kb b7 i (tpV (mapL (L.take i))) nm (n7z p1 p2 p3 p4 p5 q6 p7) wr):=Lib.hid (by rw [←hq6];exact HJ.out)
          have KS:Hid (∀y M k,DecR w mb kb b7 k M nm (n7z p1 p2 p3 p4 p5 q6 p7) y→y.rangeAt kb 0 ((keyB nm).map B8)∧y.cell? ⟨kb,0,none⟩=some (.int .u8 ((nm.size:Nat):Int))∧y.cell? ⟨b7,0,none⟩=some (.int .i64 p1)∧y.cell? ⟨b7,1,none⟩=some (.int .i64 p2)∧y.cell? ⟨b7,2,none⟩=some (.int .i64 p3)∧y.cell? ⟨b7,3,none⟩=some (.int .i64 p4)∧y.cell? ⟨b7,4,none⟩=some (.int .i64 p5)∧y.cell? ⟨b7,5,none⟩=some (.int .i64 q6)∧y.cell? ⟨b7,6,none⟩=some (.int .i64 p7)∧(∀c,(convert 76 9 (.slice (some ⟨kb,1,none⟩) nm.size c)).run Tryz.prog y= .ok (.string nm) y)):=Lib.hid fun y M k h=>by
            refine ⟨fun j u hj=>?_,?_,(cell_of_block h.num).trans rfl,(cell_of_block h.num).trans rfl,(cell_of_block h.num).trans rfl,(cell_of_block h.num).trans rfl,(cell_of_block h.num).trans rfl,(cell_of_block h.num).trans rfl,(cell_of_block h.num).trans rfl,fun c=>key_string y kb nm HT.out.2.1 h.key c⟩
            · rw [Nat.zero_add]
              refine (cell_of_block h.key).trans ?_
              rw [←hj]
              unfold keyC
              rw [List.getElem?_toArray]
            · refine (cell_of_block h.key).trans ?_
              have:(UInt8.ofNat nm.size).toNat=nm.size:=by rw [UInt8.toNat_ofNat'];have:=HT.out.2.1;omega
              unfold keyC
              rw [List.getElem?_toArray]
              show some (B8 (UInt8.ofNat nm.size))=_
              unfold B8
              rw [this]
          obtain ⟨o,hup,hup2⟩:=HJ7.out.map.update kindCKey Tryz.underlying91 (a:=keyB nm) HT.out.2.2.1 (.agg #[.string nm,.int .i64 p1,.int .i64 p2,.int .i64 p3,.int .i64 p4,.int .i64 p5,.bool p6,.int .i64 p7])
          have KU:Hid (∀y,Frm NoB wr y→(Instr.mapUpdate 91 (.map (some mb)) (.agg ((keyB nm).map B8).toArray) (.agg #[.string nm,.int .i64 p1,.int .i64 p2,.int .i64 p3,.int .i64 p4,.int .i64 p5,.bool p6,.int .i64 p7])).run Tryz.prog y= .ok () (setBlock y mb o)):=Lib.hid fun y hf=>hup y (hf.block mb HJ7.out.map.lt (fun e=>e))
          have KU2:=Lib.hid hup2
          have HTP:Hid (Calls Tryz.prog 124 #[.string nm,.agg #[.int .i64 p1,.int .i64 p2,.int .i64 p3,.int .i64 p4,.int .i64 p5,.int .i64 q6,.int .i64 p7]] wr.drew fun e w'=>e= .returned (.agg #[.string nm,.int .i64 p1,.int .i64 p2,.int .i64 p3,.int .i64 p4,.int .i64 p5,.bool p6,.int .i64 p7])∧Frm NoB wr.drew w'):=Lib.hid (by
            have:=c_topic wr.drew nm p1 p2 p3 p4 p5 q6 p7
            rw [←hq6,bit01_1,hq6] at this
            exact this)
          have hw8:IntKind.u8.wrap (1+((nm.size:Nat):Int))=1+((nm.size:Nat):Int):=by
            have:IntKind.u8.wrap (1+((nm.size:Nat):Int))=(1+((nm.size:Nat):Int))%256:=by simp [IntKind.wrap,IntKind.bits,IntKind.signed]
            rw [this];omega
          have hsa:=sliceAt_key kb nm.size HT.out.2.1
          have HI51:Hid ((Tryz.prog.info? 95).map (·.size)=some ((keyB nm).map B8).length):=Lib.hid (by rw [List.length_map,HT.out.2.2.1];kernel_rfl)
          have hi51:=HI51.out
          have hu51:=Tryz.underlying95
          have HJd:=Lib.hid (HJ7.out.keep (Frm.refl NoB wr).drew)
          obtain ⟨k1,k2,k3,k4,k5,k6,k7,k8,k9,k10⟩:=KS.out _ _ _ HJ7.out
          clear hup hup2 HJ
          go_region_held3 (fun y=>y.rangeAt kb 0 ((keyB nm).map B8)∧y.cell? ⟨kb,0,none⟩=some (.int .u8 ((nm.size:Nat):Int))∧y.cell? ⟨b7,0,none⟩=some (.int .i64 p1)∧y.cell? ⟨b7,1,none⟩=some (.int .i64 p2)∧y.cell? ⟨b7,2,none⟩=some (.int .i64 p3)∧y.cell? ⟨b7,3,none⟩=some (.int .i64 p4)∧y.cell? ⟨b7,4,none⟩=some (.int .i64 p5)∧y.cell? ⟨b7,5,none⟩=some (.int .i64 q6)∧y.cell? ⟨b7,6,none⟩=some (.int .i64 p7)∧(∀c,(convert 76 9 (.slice (some ⟨kb,1,none⟩) nm.size c)).run Tryz.prog y= .ok (.string nm) y))
            (first | exact KS.out _ _ _ HJ7.out | exact KS.out _ _ _ HJd.out | exact KS.out _ _ _ (HJd.out.keep hf8) | exact KS.out _ _ _ ((HJd.out.keep hf8).put HMB.out (KU2.out y8 (HJd.out.keep hf8).map.lt)))
            (first
              | (go_at_call 124;(with_reducible refine HTP.out.mono ?_);rintro e y8 ⟨rfl,hf8⟩;have hup:=KU.out y8 ((Frm.refl NoB wr).drew.trans hf8 (fun _ _ e=>e))))
          have hmt:=mapL_take HL.out.1 HT.out.1
          have hend:=KU2.out y8 (HJd.out.keep hf8).map.lt
          have hnone:(tpV (mapL (L.take i)) (keyB nm)).isSome=false:=by
            unfold tpV
            rw [show mapL (L.take i) (keyB nm)=none from hmt.1]
            rfl
          rw [if_neg (by rw [hnone];decide)] at hend
          have HEND:Hid (MapAt KeyK okK (setBlock y8 mb o) mb (i+1) (tpV (mapL (L.take (i+1))))):=Lib.hid (hend.congr fun a _=>by
            unfold tpV upd
            rw [hmt.2 a]
            show _=if a=keyB nm then _ else _
            by_cases e:a=keyB nm
            · rw [if_pos e,if_pos e];rfl
            · rw [if_neg e,if_neg e])
          have HFE:=Lib.hid ((HJd.out.keep hf8).frm.setBlock (.inr HMB.out) o)
          have l5:8+107*(i:Int)+107≤2148:=by omega
          have hlt:=HT.out.2.2.2
          clear hmt hend hnone hf8 KS KU KU2 HTP HJ7 HJd k1 k2 k3 k4 k5 k6 k7 k8 k9 k10 hw8 hsa hi51 hu51 HI51
          go_wp2_with fail
          exact ⟨⟨rfl,i+1,hlt,by go_num,HEND,HFE⟩,by simp [intOf];omega⟩
    · obtain rfl:i=L.length:=by omega
      have HM2:=Lib.hid HM.out
      rw [List.take_length] at HM2
      have HG0:Hid (Calls Tryz.prog 123 #[.slice (some ⟨vb,vo,none⟩) n vc,.int .i64 0] wr fun e w'=>wr=w'∧e= .returned (.int .i64 next)):=Lib.hid (by
        have:=c_get wr _ (encC next L) 0 (HV.out.frm0 HF.out).sliceOf (by rw [HN.out.1];omega) (by rw [HN.out.1];omega)
        rw [enc_next next L HL.out.2.next,HN.out.1] at this
        exact this)
      have HE0:=Lib.hid (c_encode wr (.map (some mb)) next (by have:=HN.out.2.2;omega) HL.out.1.nm (fun W hf=>c_sorted W mb HL.out.1 (by have:=HN.out.2.2;omega) (HM2.out.frm hf (fun e=>e))))
      have KQ:Hid (∀W v',OwnB W wr.heap.size v' (encC next L)→Frm NoB wr W→Calls Tryz.prog 125 #[v',.slice (some ⟨vb,vo,none⟩) n vc] W fun e w'=>W=w'∧e= .returned (.bool true)):=Lib.hid fun W v' ho hf=>by
        have hne:encC next L≠ []:=fun e=>by have:=HN.out.1;rw [e] at this;have:0=n:=this;omega
        have:=y_Equal W v' _ (encC next L) (encC next L) (ho.bytes hne).sliceOf (HV.out.frm0 (HF.out.trans hf (fun _ _ e=>e))).sliceOf hne hne
        rw [HN.out.1,beq_self_eq_true] at this
        exact this
      have l6:(8:Int)+107*(L.length:Int)=(n:Int):=by have:=HN.out.2.1;omega
      clear HM
      go_wp2_with fail
      refine HG0.out.mono ?_
      clear HG0
      rintro e y6 ⟨rfl,rfl⟩
      go_wp2_with fail
      refine HE0.out.mono ?_
      clear HE0
      rintro e y7 ⟨v',rfl,ho,hf7⟩
      have HQ:=Lib.hid (KQ.out y7 v' ho hf7)
      have H7:=Lib.hid (And.intro (HM2.out.frm hf7 (fun e=>e)) (HF.out.trans hf7 (fun _ _ e=>e)))
      clear ho hf7 KQ HM2 HF
      go_wp2_with fail
      refine HQ.out.mono ?_
      clear HQ
      rintro e y8 ⟨rfl,rfl⟩
      go_wp2
      go_ret3
      exact ⟨mb,rfl,H7.out.1,HMB.out,H7.out.2⟩
def cN:ByteArray:=⟨#[99]⟩
def lsN:ByteArray:=⟨#[99,97,116,97,108,111,103]⟩
theorem nameOk_of (s:ByteArray) (h1:1≤s.size∧s.size≤50) (h2:s.data.toList.all (fun b=>decide (b.toNat<128) && decide (b≠47) && decide (b≠0))=true) (h3:s.data.toList≠ [46]∧s.data.toList≠ [46,46]):NameOk s:=by
  rw [List.all_eq_true] at h2
  refine ⟨h1,fun j b hj=>?_,fun b hb=>?_,h3⟩
  · have:=h2 b (List.mem_of_getElem? hj)
    simp at this
    exact this.1.1
  · have:=h2 b hb
    simp at this
    exact ⟨this.1.2,this.2⟩
theorem cN_ok:NameOk cN:=nameOk_of _ (by decide) (by decide) (by decide)
theorem lsN_ok:NameOk lsN:=nameOk_of _ (by decide) (by decide) (by decide)
theorem path_add (p:Path) (s x:ByteArray) (hx:x.data.toList=47::s.data.toList):pathB p++x=pathB (p++ [s]):=by
  have:(pathB p++x).data.toList=(pathB (p++ [s])).data.toList:=by
    rw [ByteArray.toList_data_append,pathB_snoc,hx]
  exact ByteArray.ext (Array.toList_inj.1 this)
structure CatT (A:Path→Option Nd) (b:Blk) (n:Nat) (D:List ByteArray):Prop where
  c:A [cN]=some (.dir n)
  ls:A [cN,lsN]=some (.file b)
  kids: ∀s,A [cN,s]≠none→s=lsN∨s∈D
  size:n≤64*(1+D.length)
def RootT (A:Path→Option Nd):Prop:=A []=some (.dir 64)∧∀s,A [s]≠none→s=cN
end
section
open Go.ChangeMaps Go.MapKept Go.RowKit
variable {w0:Gnd} {w:World} {rs:List Res} {X:Sys} {F:FH} {A:Path→Option Nd} {ι:Path→Nat}
theorem dat64:dat (0+64)-dat 0=1:=by decide
set_option maxHeartbeats 1000000 in
set_option maxRecDepth 100000 in
theorem c_Make1 (h:Fs w0 w F X rootT rootI rs) (hb:F.begun=true) (ho:F.over=false) (hd:F.dead=false) (hop:X.op=true) (hov:X.ov=false) {i j bf bd:Nat} (hf:rs[i]?=some (arr bf #[.pointer (some ⟨F.fb,0,none⟩)] 24 neFSp)) (hdr:rs[j]?=some (arr bd #[.string (pathB [cN])] 9 neStr))
    {C:List Nat} (hC:Cov X C) (him:X.P.im∈C) (hbm:X.P.bm∈C) (hh:HeldC X C 0) (h20:C.length≤20) (hfi:2≤X.fi) (hfb:3≤X.fb):
    Calls Tryz.prog 97 #[.pointer (some ⟨bf,0,none⟩),.pointer (some ⟨bd,0,none⟩)] w fun e w'=>e= .returned (.int .i64 0)∧∃X' A' ι' C' n,Fs w0 w' F X' A' ι' rs∧Goes X X' C C'∧CatT A' (encC 1 []) n []∧RootT A'∧X'.fi+2=X.fi∧X'.fb+3=X.fb:=by
  have hm1:MayMake X rootT rootI C [] cN 0:=⟨rfl,by simp [cN_ok],by simp,rfl,by omega,by omega,by rw [dat64];omega,hC,him,hbm,hh,by rw [dat64];omega⟩
  have HM:=Lib.hid (f_Mkdir_in h hb ho hd hop hov hm1)
  have c0:w.cell? ⟨bf,0,none⟩=some (.pointer (some ⟨F.fb,0,none⟩)):=(h.arrCell hf 0).trans rfl
  have c1:w.cell? ⟨bd,0,none⟩=some (.string (pathB [cN])):=(h.arrCell hdr 0).trans rfl
  have HH:=Lib.hid (And.intro hf hdr)
  have HQ:=Lib.hid (And.intro (And.intro hb (And.intro ho hd)) (And.intro (And.intro hop hov) (And.intro (And.intro h20 hfi) (And.intro hfb (And.intro him hbm)))))
  have hp1:pathB ([]++ [cN])=pathB [cN]:=rfl
  rw [hp1] at HM
  have hp2:=path_add [cN] lsN ⟨#[47,99,97,116,97,108,111,103]⟩ rfl
  have HP2:=Lib.hid hp2
  have hcat: ∀W,(binOp .add 9 (.string (pathB [cN])) (.string ⟨#[47,99,97,116,97,108,111,103]⟩)).run Tryz.prog W= .ok (.string (pathB [cN]++⟨#[47,99,97,116,97,108,111,103]⟩)) W:=fun W=>rfl
  obtain ⟨dir,hdir⟩: ∃dir,pathB [cN]=dir:=⟨_,rfl⟩
  have hds:dir.size=2:=by rw [←hdir];rfl
  rw [hdir] at hcat
  rw [hdir] at HM c1 hp2
  clear h hb ho hd hop hov hf hdr hC him hbm hh h20 hfi hfb hm1 hp1
  go_enter Tryz.func97,Tryz.ntmps97
  go_wp2_with fail
  refine HM.out.mono ?_
  clear HM c0 c1
  rintro e w1 ⟨rfl,X1,A1,ι1,C1,h1,hk1⟩
  obtain ⟨S1,i1,rfl,rfl,-,hS1,hh1,hfb1,hC1⟩:=hk1.tree
  obtain rfl:=hS1 rfl
  have hA1:addT rootT [] cN (.dir 0) 64 [cN]=some (.dir 0):=rfl
  have hi1:addI rootI [] cN i1 [cN]=i1:=rfl
  have hN1:addT rootT [] cN (.dir 0) 64 [cN,lsN]=none:=rfl
  rw [dat64] at hfb1 hC1
  have hX1:=hk1.goes.wr
  have hm2:MayMake X1 (addT rootT [] cN (.dir 0) 64) (addI rootI [] cN i1) C1 [cN] lsN 0:=⟨hA1,by simp [cN_ok,lsN_ok],by simp,hN1,by omega,by have:=hk1.fi;have:=HQ.out.2.2.1.2;omega,by rw [dat64];have:=HQ.out.2.2.2.1;omega,hk1.goes.cov,
    hk1.goes.sub _ (by rw [hX1];exact HQ.out.2.2.2.2.1),hk1.goes.sub _ (by rw [hX1];exact HQ.out.2.2.2.2.2),by rw [hi1];exact hh1,by rw [dat64];have:=HQ.out.2.2.1.1;omega⟩
  have HC2:=Lib.hid (f_Create_in h1 HQ.out.1.1 HQ.out.1.2.1 HQ.out.1.2.2 (by rw [hX1];exact HQ.out.2.1.1) (by rw [hX1];exact HQ.out.2.1.2) hm2)
  have hp3:pathB ([cN]++ [lsN])=pathB [cN,lsN]:=rfl
  rw [hp3] at HC2
  have c2:w1.cell? ⟨bf,0,none⟩=some (.pointer (some ⟨F.fb,0,none⟩)):=(h1.arrCell HH.out.1 0).trans rfl
  have c3:w1.cell? ⟨bd,0,none⟩=some (.string dir):=(h1.arrCell HH.out.2 0).trans (by rw [←hdir];rfl)
  have HK1:=Lib.hid (And.intro hk1 (And.intro hX1 (And.intro hh1 (And.intro hfb1 (And.intro hC1 (And.intro hA1 hN1))))))
  have HDIR:=Lib.hid hdir
  clear h1 hk1 hX1 hh1 hfb1 hC1 hA1 hN1 hi1 hm2 hS1 hdir
  go_wp2_with fail
  refine HC2.out.mono ?_
  clear HC2 c2 c3
  rintro e w2 ⟨rfl,X2,A2,ι2,C2,h2,hk2⟩
  obtain ⟨S2,i2,rfl,rfl,-,hS2,hh2,hfb2,hC2⟩:=hk2.tree
  obtain rfl:=hS2 rfl
  rw [dat64] at hfb2 hC2
  have hX2:=hk2.goes.wr
  have hP2:X2=X.wr X2.l:=by rw [hX2,HK1.out.2.1];rfl
  have hA2:addT (addT rootT [] cN (.dir 0) 64) [cN] lsN (.file []) 64 [cN,lsN]=some (.file []):=rfl
  have hi2:addI (addI rootI [] cN i1) [cN] lsN i2 [cN,lsN]=i2:=rfl
  have hl8:(encC 1 []).length=8:=by rw [encC_length _ _ (fun t ht=>by cases ht)];rfl
  have hd8:dat (max ([]:Blk).length (0+(encC 1 []).length))-dat ([]:Blk).length=1:=by rw [hl8];rfl
  have hm3:MayEdit X2 (addT (addT rootT [] cN (.dir 0) 64) [cN] lsN (.file []) 64) (addI (addI rootI [] cN i1) [cN] lsN i2) C2 [cN,lsN] [] ([]:Blk).length (encC 1 []):=by
    refine ⟨hA2,Nat.le_refl _,?_,?_,hk2.goes.cov,hk2.goes.sub _ (HK1.out.1.goes.sub _ ?_),by rw [hi2];exact hh2,?_⟩
    · show max ([]:Blk).length (0+_)≤5120
      rw [hl8];decide
    · show dat (max ([]:Blk).length (0+_))-_≤_
      rw [hd8];have:=HQ.out.2.2.2.1;have:=HK1.out.2.2.2.1;omega
    · rw [hP2];exact HQ.out.2.2.2.2.2
    · show C2.length+(dat (max ([]:Blk).length (0+_))-_)≤60
      rw [hd8];have:=HQ.out.2.2.1.1;have:=HK1.out.2.2.2.2.1;omega
  have KAp:Hid (∀y g o c,Fs w0 y F X2 (addT (addT rootT [] cN (.dir 0) 64) [cN] lsN (.file []) 64) (addI (addI rootI [] cN i1) [cN] lsN i2) (byt (.slice (some ⟨g,o,none⟩) 8 c) (encC 1 [])::rs)→Calls Tryz.prog 99 #[.pointer (some ⟨F.fb,0,none⟩),.string (pathB [cN,lsN]),.slice (some ⟨g,o,none⟩) 8 c] y fun e w'=>e= .returned (.int .i64 0)∧∃W A' C',Fs w0 w' F W A' (addI (addI rootI [] cN i1) [cN] lsN i2) (byt (.slice (some ⟨g,o,none⟩) 8 c) (encC 1 [])::rs)∧Ed X2 W (addT (addT rootT [] cN (.dir 0) 64) [cN] lsN (.file []) 64) A' C2 C' [cN,lsN] [] (encC 1 [])):=Lib.hid fun y g o c hy=>by
    have:=f_Append_in hy HQ.out.1.1 HQ.out.1.2.1 HQ.out.1.2.2 (by rw [hP2];exact HQ.out.2.1.1) (by rw [hP2];exact HQ.out.2.1.2) (ns:= [cN,lsN]) (by simp) (by simp [cN_ok,lsN_ok]) (by simp) hm3 (ai:=0) (bb:=g) (bo:=o) (vc:=c) (by rw [hl8];rfl)
    rw [hl8,List.nil_append] at this
    exact this
  have KE:Hid (∀y,Calls Tryz.prog 100 #[.int .i64 1,.map none] y fun e w'=> ∃g o c,e= .returned (.slice (some ⟨g,o,none⟩) 8 c)∧BytesAt w' (.slice (some ⟨g,o,none⟩) 8 c) (encC 1 []) (Up y.heap.size)∧Frm NoB y w'):=Lib.hid fun y=>by
    refine (c_encode y (.map none) (L:= []) 1 (by decide) (fun t ht=>by cases ht) (fun W _=>c_sortedNil W)).mono ?_
    rintro e w' ⟨v,he,hv,hf⟩
    have hb:=hv.bytes (fun e=>by rw [e] at hl8;cases hl8)
    obtain ⟨g,o,c,rfl,-⟩:=hb.cells
    rw [hl8] at he hb
    exact ⟨g,o,c,he,hb,hf⟩
  have KC:Hid (∀y Y B κ rs',Fs w0 y F Y B κ (rs'++rs)→y.cell? ⟨bf,0,none⟩=some (.pointer (some ⟨F.fb,0,none⟩))∧y.cell? ⟨bd,0,none⟩=some (.string dir)):=Lib.hid fun y Y B κ rs' hy=>by
    have h':=hy.sub (List.sublist_append_right rs' rs)
    exact ⟨(h'.arrCell HH.out.1 0).trans rfl,(h'.arrCell HH.out.2 0).trans (by rw [←HDIR.out];rfl)⟩
  have HK2:=Lib.hid (And.intro hk2 (And.intro hP2 (And.intro hfb2 hC2)))
  have H2:=Lib.hid h2
  have H2d:=Lib.hid (h2.frm (Frm.refl NoB w2).drew)
  obtain ⟨k1,k2⟩:=KC.out _ _ _ _ [] h2
  clear h2 hk2 hX2 hP2 hA2 hi2 hl8 hd8 hm3 hfb2 hC2 hh2 hS2 hp3
  go_upto_region 7 with fail
  go_region_held3 (fun y=>y.cell? ⟨bf,0,none⟩=some (.pointer (some ⟨F.fb,0,none⟩))∧y.cell? ⟨bd,0,none⟩=some (.string dir))
    (first | exact KC.out _ _ _ _ [] H2.out | exact KC.out _ _ _ _ [] H2d.out | exact KC.out _ _ _ _ [] (H2d.out.frm hf4) | exact KC.out _ _ _ _ [_] h5)
    (first
      | (go_at_call 100;(with_reducible refine (KE.out _).mono ?_);rintro e w4 ⟨g,o,c,rfl,hb4,hf4⟩;have h4:=H2d.out.mkByt hf4 hb4)
      | (go_at_call 99;(with_reducible refine (KAp.out _ _ _ _ h4).mono ?_);rintro e w5 ⟨rfl,X3,A3,C3,h5,hk3⟩))
  have H5:=Lib.hid (And.intro h5 hk3)
  clear h5 hk3 h4 hb4 hf4 KAp KE KC k1 k2
  go_wp2
  go_ret
  refine ⟨rfl,X3,A3,_,C3,64,H5.out.1.drop 1,(HK1.out.1.goes.trans HK2.out.1.goes).trans H5.out.2.goes,?_,?_,?_,?_⟩
  · rw [H5.out.2.tree]
    refine ⟨rfl,rfl,fun s hs=>?_,by decide⟩
    by_cases e:s=lsN
    · exact .inl e
    · refine absurd ?_ hs
      have n1: ¬ [cN,s]= [cN,lsN]:=by simp [e]
      unfold setT
      rw [if_neg n1]
      unfold addT
      rw [if_neg (by simpa using e),if_neg (by simp),if_neg (by simp),if_neg (by simp)]
      unfold rootT
      rw [if_neg (by simp)]
  · rw [H5.out.2.tree]
    refine ⟨rfl,fun s hs=>?_⟩
    by_cases e:s=cN
    · exact e
    · refine absurd ?_ hs
      unfold setT
      rw [if_neg (by simp)]
      unfold addT
      rw [if_neg (by simp),if_neg (by simp [e]),if_neg (by simp [e]),if_neg (by simp)]
      unfold rootT
      rw [if_neg (by simp)]
  · have a1:=HK1.out.1.fi;have a2:=HK2.out.1.fi;have a3:=H5.out.2.fi;omega
  · have a1:=HK1.out.2.2.2.1;have a2:=HK2.out.2.2.1;have a3:=H5.out.2.fb;have:dat (encC 1 []).length=1:=by rw [encC_length _ _ (fun t ht=>by cases ht)];rfl
    have:dat ([]:Blk).length=0:=rfl
    omega
def heldL (X:Sys) (j:Nat):List Nat:=(X.P.tb+j/8)::(List.range (dat (X.nd j 1))).map fun k=>X.nd j (2+k)
theorem heldL_length (X:Sys) (j:Nat):(heldL X j).length=1+dat (X.nd j 1):=by simp [heldL];omega
theorem heldL_held {X:Sys} {C:List Nat} {j:Nat} (h: ∀c∈heldL X j,c∈C):HeldC X C j:=
  ⟨h _ (List.mem_cons_self ..),fun k hk=>h _ (List.mem_cons_of_mem _ (List.mem_map.2 ⟨k,List.mem_range.2 hk,rfl⟩))⟩
theorem entMake1:EntersF Tryz.prog 97:=entersF_of Tryz.func97 (by kernel_rfl) rfl
set_option maxHeartbeats 1000000 in
set_option maxRecDepth 100000 in
theorem c_Make (h:Fs w0 w F X rootT rootI rs) (hb:F.begun=false) (hd:F.dead=false) (hop:X.op=false) (hl:X.l= []) (hlim:X.D.lim=none) (hm:X.m<1000000) (hfi:2≤X.fi) (hfb:3≤X.fb):
    Calls Tryz.prog 38 #[.pointer (some ⟨F.fb,0,none⟩),.string (pathB [cN])] w fun e w'=>e= .returned (.int .i64 0)∧∃A' ι' Y n,Fs w0 w' { F with begun:=false,over:=false } Y A' ι' rs∧CatT A' (encC 1 []) n []∧RootT A'∧Y.op=false∧Y.l= []∧Y.D.lim=none∧Y.m=X.m+1∧Y.P=X.P∧Y.n=X.n∧Y.fi+2=X.fi∧Y.fb+3=X.fb:=by
  have hn0:X.nd 0 1=0:=(h.2.live [] (.dir 0) rfl).2.2
  have h1:=(h.newArr #[.pointer (some ⟨F.fb,0,none⟩)] 24 neFSp).newArr #[.string (pathB [cN])] 9 neStr
  have hmf: ∀(fn:Fn) (first cap:Array Value) (W:World),(Instr.makeFunc fn first cap).run Tryz.prog W= .ok (.func fn first cap) W:=fun _ _ _ _=>rfl
  have HT:=Lib.hid (f_Together_out h1 hb hd hop hlim hm 97 #[.pointer (some ⟨w.heap.size,0,none⟩),.pointer (some ⟨(w.alloc (.cells #[.pointer (some ⟨F.fb,0,none⟩)] 24 (0,0))).heap.size,0,none⟩)] entMake1 (K:=fun X' A' ι'=>(∃n,CatT A' (encC 1 []) n [])∧RootT A'∧X'.fi+2=X.fi∧X'.fb+3=X.fb) (fun y hy=>by
    refine (c_Make1 hy rfl rfl hd rfl rfl (i:=1) (j:=0) rfl rfl (C:=X.P.im::X.P.bm::heldL X 0) (fun k hk=>?_) (List.mem_cons_self ..) (List.mem_cons_of_mem _ (List.mem_cons_self ..)) (heldL_held (X:=X.open') fun c hc=>List.mem_cons_of_mem _ (List.mem_cons_of_mem _ hc)) ?_ hfi hfb).mono ?_
    · have:X.open'.keys= []:=by show X.l.map (·.1)= [];rw [hl];rfl
      rw [this] at hk;cases hk
    · rw [List.length_cons,List.length_cons,heldL_length,hn0]
      decide
    · rintro e w' ⟨he,X',A',ι',C',n,q1,q2,q3,q6,q4,q5⟩
      exact ⟨he,X',A',ι',q1,q2.wr,⟨n,q3⟩,q6,q4,q5⟩))
  simp only [size_alloc] at HT
  have c0:=(h1.arrCell (i:=1) rfl 0).trans (show (#[Value.pointer (some ⟨F.fb,0,none⟩)]:Array Value)[0]?=some (.pointer (some ⟨F.fb,0,none⟩)) from rfl)
  have HL:=Lib.hid (And.intro hlim (show X.D.lim=none from hlim))
  obtain ⟨dir,hdir⟩: ∃dir,pathB [cN]=dir:=⟨_,rfl⟩
  rw [hdir] at HT c0 ⊢
  clear h hb hd hop hl hlim hm hfi hfb hn0 h1 hdir
  go_enter Tryz.func38,Tryz.ntmps38
  go_wp2_with fail
  refine HT.out.mono ?_
  rintro e w2 ⟨rfl,X',A',ι',Y,h2,hc,hx,⟨n,hct⟩,hrt,hfi,hfb⟩
  have H2:=Lib.hid (And.intro h2 (And.intro hc (And.intro hx (And.intro hct (And.intro hrt (And.intro hfi hfb))))))
  clear h2 hc hx hct hrt hfi hfb HT c0
  go_wp2
  go_ret
  have hc:=H2.out.2.1
  have hx:=H2.out.2.2.1
  refine ⟨rfl,A',ι',Y,n,H2.out.1.drop 2,H2.out.2.2.2.1,H2.out.2.2.2.2.1,hc.op,hc.l,hc.same.lim.trans (by rw [hx];exact HL.out.1),hc.m.trans (by rw [hx];rfl),hc.same.P.trans (by rw [hx];rfl),hc.same.n.trans (by rw [hx];rfl),?_,?_⟩
  · have:Y.fi=X'.fi:=by unfold Sys.fi;rw [hc.v,hc.same.P]
    rw [this];exact H2.out.2.2.2.2.2.1
  · have:Y.fb=X'.fb:=by unfold Sys.fb;rw [hc.v,hc.same.P]
    rw [this];exact H2.out.2.2.2.2.2.2
end
section
open Go.ChangeMaps Go.MapKept Go.RowKit
theorem neCat: ¬U8T (93:TypeId):=by decide
def catC (fb:Nat) (dir:ByteArray) (next:Int) (mb:Nat):Array Value:= #[.pointer (some ⟨fb,0,none⟩),.string dir,.int .i64 next,.map (some mb)]
def catS (cb fb:Nat) (next:Int) (mb:Nat):Res:=arr cb (catC fb (pathB [cN]) next mb) 93 neCat
def catM (mb:Nat) (L:List Tp):Res:=mapR KeyK okK mb L.length (tpV (mapL L))
end
section
open Go.ChangeMaps Go.MapKept Go.RowKit
variable {w0:Gnd} {w:World} {rs:List Res} {X:Sys} {F:FH} {A:Path→Option Nd} {ι:Path→Nat}
theorem Fs.mkMap (h:Fs w0 w F X A ι rs) {w':World} (hf:Frm NoB w w') {mb n:Nat} {f:Blk→Option Value} (hm:MapAt KeyK okK w' mb n f) (hn:w.heap.size≤mb):Fs w0 w' F X A ι (mapR KeyK okK mb n f::rs):=by
  obtain ⟨⟨k,l,ha,hl⟩,hr⟩:=h
  have h1:At w0 w' X (mapR KeyK okK mb n f::fsS F X::fsL F k l::rs):=⟨(ha.1.make hf (mapR KeyK okK mb n f) hm fun x hx=>by obtain rfl:x=mb:=hx;exact hn).swap,ha.2⟩
  exact ⟨⟨k,l,h1.perm ((List.Perm.swap _ _ _).trans ((List.Perm.swap _ _ _).cons _)),hl⟩,hr⟩
set_option maxHeartbeats 1000000 in
set_option maxRecDepth 100000 in
theorem c_Open (h:Fs w0 w F X A ι rs) {next:Int} {L:List Tp} {n:Nat} {D:List ByteArray} (hT:CatT A (encC next L) n D) (hroot: ∃m,A []=some (.dir m)) (hL:CatL L) (hlen:L.length≤20) (hr:CatR next L):
    Calls Tryz.prog 21 #[.pointer (some ⟨F.fb,0,none⟩),.string (pathB [cN])] w fun e w'=> ∃cb mb,e= .returned (.tuple #[.pointer (some ⟨cb,0,none⟩),.int .i64 0])∧Fs w0 w' F X A ι (catS cb F.fb next mb::catM mb L::rs):=by
  have hbl:=encC_length next L hL.nm
  have hdirs: ∀k,k< [cN].length→A ([cN].take k)≠none→∃m,A ([cN].take k)=some (.dir m):=fun k hk _=>by
    obtain rfl:k=0:=by simpa using hk
    exact hroot
  have HS:=Lib.hid (f_StatP h [cN] (by simp) (by simp [cN_ok]) (by simp) hdirs)
  have hst:statR A [cN]= .tuple #[.agg #[.int .i64 2,.int .i64 n],.int .i64 0]:=by unfold statR;rw [hT.c];rfl
  rw [hst] at HS
  have KR:Hid (∀y rs',Fs w0 y F X A ι rs'→Calls Tryz.prog 54 #[.pointer (some ⟨F.fb,0,none⟩),.string (pathB [cN,lsN]),.int .i64 0,.int .i64 70656] y fun e w'=> ∃v,e= .returned (.tuple #[v,.int .i64 0])∧Fs w0 w' F X A ι (byt v (encC next L)::rs')):=Lib.hid fun y rs' hy=>by
    refine (f_ReadP hy [cN,lsN] (by simp) (by simp [cN_ok,lsN_ok]) (by simp) hT.ls 70656 (by omega) (by omega)).mono ?_
    rintro e w' ⟨v,he,hg⟩
    rcases hg with ⟨-,e0,-⟩ | hg
    · rw [e0] at hbl;have:0=8+107*L.length:=hbl;omega
    · exact ⟨v,he,hg⟩
  have KD:Hid (∀y v rs',Fs w0 y F X A ι (byt v (encC next L)::rs')→Calls Tryz.prog 55 #[v] y fun e w'=> ∃mb,e= .returned (.tuple #[.int .i64 next,.map (some mb),.bool true])∧Fs w0 w' F X A ι (catM mb L::byt v (encC next L)::rs')):=Lib.hid fun y v rs' hy=>by
    refine (c_decode y v hL hlen hr (hy.byt (i:=0) rfl)).mono ?_
    rintro e w' ⟨mb,he,hm,hn,hf⟩
    exact ⟨mb,he,hy.mkMap hf hm hn⟩
  have hcat: ∀W,(binOp .add 9 (.string (pathB [cN])) (.string ⟨#[47,99,97,116,97,108,111,103]⟩)).run Tryz.prog W= .ok (.string (pathB [cN]++⟨#[47,99,97,116,97,108,111,103]⟩)) W:=fun W=>rfl
  have hp2:=path_add [cN] lsN ⟨#[47,99,97,116,97,108,111,103]⟩ rfl
  have hp3:pathB ([cN]++ [lsN])=pathB [cN,lsN]:=rfl
  rw [hp3] at hp2
  obtain ⟨dir,hdir⟩: ∃dir,pathB [cN]=dir:=⟨_,rfl⟩
  have hds:dir.size=2:=by rw [←hdir];rfl
  rw [hdir] at HS hp2 ⊢
  have HDIR:=Lib.hid hdir
  clear h hT hroot hL hlen hr hbl hdirs hst hcat hp3 hdir
  go_enter Tryz.func21,Tryz.ntmps21
  go_wp2_with fail
  refine HS.out.mono ?_
  clear HS
  rintro e w1 ⟨rfl,h1⟩
  have h2:=h1.newArr #[.int .i64 2,.int .i64 n] 82 neStt
  have c0:(w1.alloc (.cells #[.int .i64 2,.int .i64 n] 82 (0,0))).cell? ⟨w1.heap.size,0,none⟩=some (.int .i64 2):=(h2.arrCell (i:=0) rfl 0).trans rfl
  have H2:=Lib.hid h2
  clear h1 h2
  go_wp2_with fail
  refine (KR.out _ _ H2.out).mono ?_
  clear KR c0
  rintro e w3 ⟨v,rfl,h3⟩
  have HD:=Lib.hid (KD.out _ _ _ h3)
  clear h3 KD H2
  go_wp2_with fail
  refine HD.out.mono ?_
  clear HD
  rintro e w4 ⟨mb,rfl,h4⟩
  have h5:=(h4.newArr (catC F.fb dir next mb) 93 neCat).sub (rs':=arr w4.heap.size (catC F.fb dir next mb) 93 neCat::catM mb L::rs) (((List.sublist_append_right [_,_] rs).cons_cons _).cons_cons _)
  have H5:=Lib.hid h5
  clear h4 h5
  go_wp2
  go_ret2
  refine ⟨_,mb,rfl,?_⟩
  unfold catS
  rw [HDIR.out]
  exact H5.out
end
section
open Go.ChangeMaps Go.MapKept Go.RowKit
def decN (i:Nat):ByteArray:=⟨(Lib.decDigits i).toArray⟩
def partN (id p:Nat):ByteArray:=⟨(116::(Lib.decDigits id++45::Lib.decDigits p)).toArray⟩
theorem itoa (w:World) (i:Nat) (hi:i<100):Calls Tryz.prog 60 #[.int .i64 i] w fun e w'=>w=w'∧e= .returned (.string (decN i)):=
  (Any.strconv_Itoa_small Tryz.itoaS i hi w).mono fun e w' ⟨h1,h2⟩=>⟨h2.symm,h1⟩
theorem dec_size: ∀i,i<100→(decN i).size=if i<10 then 1 else 2:=by decide+kernel
def segN:ByteArray:=⟨(List.replicate 20 48).toArray⟩
def kz (k:Nat):Array Value:=(List.replicate (20-k) (Value.int .u8 0)++List.replicate k (Value.int .u8 48)).toArray
theorem kz_succ (k:Nat) (hk:k<20):(kz k).setIfInBounds (19-k) (.int .u8 48)=kz (k+1):=by
  have h:k=0∨k=1∨k=2∨k=3∨k=4∨k=5∨k=6∨k=7∨k=8∨k=9∨k=10∨k=11∨k=12∨k=13∨k=14∨k=15∨k=16∨k=17∨k=18∨k=19:=by omega
  rcases h with rfl | rfl | rfl | rfl | rfl | rfl | rfl | rfl | rfl | rfl | rfl | rfl | rfl | rfl | rfl | rfl | rfl | rfl | rfl | rfl<;>rfl
theorem zeroK20 (W:World):(zeroValue 240).run Tryz.prog W= .ok (.agg (kz 0)) W:=by kernel_rfl
theorem seg_string (W:World) (g:Nat) (h:W.heap[g]?=some (.cells (kz 20) 240 (0,0))):
    (convert 76 9 (.slice (some ⟨g,0,none⟩) 20 20)).run Tryz.prog W= .ok (.string segN) W:=by
  have hc:=run_convert_bytes_back (P:=Tryz.prog) W 76 9 5 ⟨g,0,none⟩ 20 (List.replicate 20 (48:UInt8)) Tryz.underlying76 Tryz.underlying5 Tryz.underlying9 (fun j hj=>by
    rw [addr_at]
    refine (cell_of_block h).trans ?_
    unfold kz
    rw [List.getElem?_toArray]
    simp only [Nat.sub_self,List.replicate_zero,List.nil_append]
    rw [List.getElem?_replicate,if_pos (by simpa using hj),List.getElem_replicate]
    rfl)
  exact hc
set_option maxRecDepth 100000 in
theorem p_path (w:World) (dir:ByteArray) (hds:dir.size≤100):Calls Tryz.prog 76 #[.string dir,.int .i64 0] w fun e w'=>e= .returned (.string (dir++⟨#[47]⟩++segN))∧Frm NoB w w':=by
  have hb0:=block_alloc_new w (.cells (kz 0) 240 (0,0))
  have hf0:=(Frm.refl NoB w).alloc (.cells (kz 0) 240 (0,0))
  obtain ⟨y,hy⟩: ∃y,w.alloc (.cells (kz 0) 240 (0,0))=y:=⟨_,rfl⟩
  obtain ⟨g,hg⟩: ∃g,w.heap.size=g:=⟨_,rfl⟩
  rw [hy,hg] at hb0
  rw [hy] at hf0
  have HY:=Lib.hid (And.intro hy hg)
  have H0:Hid (y.heap[g]?=some (.cells (kz 0) 240 (0,0))∧Frm NoB w y):=Lib.hid ⟨hb0,hf0⟩
  have HG:Hid (w.heap.size≤g):=Lib.hid (by omega)
  obtain ⟨n,hn⟩: ∃n,dir.size=n:=⟨_,rfl⟩
  have n0:(0:Int)≤(n:Int):=Int.natCast_nonneg _
  have n1:(n:Int)≤100:=by omega
  have hsz:segN.size=20:=rfl
  clear hb0 hf0 hy hg hds
  go_enter Tryz.func76,Tryz.ntmps76
  go_upto_region 2 with (refine allocRow rfl _ _ zeroK20 rfl ?_)
  rw [HY.out.1,HY.out.2]
  clear HY
  go_wp2_with fail
  go_loopw [1,6] (fun t1 t6 wr=>t1= .int .i64 0∧∃k:Nat,k≤20∧t6= .int .i64 (19-(k:Int))∧Hid (wr.heap[g]?=some (.cells (kz k) 240 (0,0))∧Frm NoB w wr)) (fun _ t6 _=>(intOf t6+1).toNat)
  case atStart=>exact ⟨rfl,0,by omega,rfl,H0⟩
  case round=>
    clear H0
    obtain ⟨rfl,k,hk,rfl,HR⟩:=hrel
    have k0:(0:Int)≤(k:Int):=Int.natCast_nonneg _
    by_cases hlt:k<20
    · have k1:(0:Int)≤19-(k:Int):=by omega
      have k3:(k:Int)≤19:=by omega
      have k2:19-(k:Int)≤19:=by omega
      have k4:(19-(k:Int)).toNat=19-k:=by omega
      have cz: ∃u,wr.cell? ⟨g,19-k,none⟩=some u:=⟨_,(cell_of_block HR.out.1).trans (by unfold kz;rw [List.getElem?_toArray];exact List.getElem?_eq_getElem (by simp;omega))⟩
      obtain ⟨u,cz⟩:=cz
      have fz:wr.frozen? ⟨g,19-k,none⟩=false:=frozen_of_block HR.out.1
      have HN:Hid ((wr.setCell ⟨g,19-k,none⟩ (.int .u8 48)).heap[g]?=some (.cells (kz (k+1)) 240 (0,0))∧Frm NoB w (wr.setCell ⟨g,19-k,none⟩ (.int .u8 48))):=Lib.hid ⟨by
        have:=block_setCell_same (i:=19-k) (.int .u8 48) HR.out.1
        rw [kz_succ k hlt] at this
        exact this,HR.out.2.setCell (p:=⟨g,19-k,none⟩) (.inr HG.out) _⟩
      clear HR
      go_wp2_with fail
      exact ⟨⟨rfl,k+1,hlt,by go_num,HN⟩,by simp [intOf];omega⟩
    · obtain rfl:k=20:=by omega
      have hcv:=seg_string wr g HR.out.1
      have HF:=Lib.hid HR.out.2
      clear HR
      go_wp2_with fail
      go_ret
      exact ⟨rfl,HF.out⟩
theorem part_path (id p:Nat):pathB [cN]++⟨#[47,116]⟩++decN id++⟨#[45]⟩++decN p=pathB [cN,partN id p]:=by
  have h:=pathB_snoc [cN] (partN id p)
  refine ByteArray.ext (Array.toList_inj.1 ?_)
  show _=(pathB ([cN]++ [partN id p])).data.toList
  rw [h]
  simp only [ByteArray.toList_data_append]
  unfold partN decN
  simp [List.append_assoc]
end
section
open Go.ChangeMaps Go.MapKept Go.RowKit
variable {w0:Gnd} {w:World} {rs:List Res} {X:Sys} {F:FH} {A:Path→Option Nd} {ι:Path→Nat}
theorem c_ready (h:Fs w0 w F X A ι rs) {cb fb mb i:Nat} {next:Int} (hr:rs[i]?=some (catS cb fb next mb)):
    Calls Tryz.prog 39 #[.pointer (some ⟨cb,0,none⟩)] w fun e w'=>w=w'∧e= .returned (.bool true):=by
  have c0:w.cell? ⟨cb,0,none⟩=some (.pointer (some ⟨fb,0,none⟩)):=(h.arrCell hr 0).trans rfl
  clear h hr
  go_enter Tryz.func39,Tryz.ntmps39
  go_wp2_with fail
  go_ret
  exact ⟨rfl,rfl⟩
set_option maxHeartbeats 1000000 in
set_option maxRecDepth 100000 in
theorem c_Dir (h:Fs w0 w F X A ι rs) {cb fb mb i:Nat} {next:Int} (hr:rs[i]?=some (catS cb fb next mb)) (id p:Nat) (hid:id<100) (hp:p<10) (nm:ByteArray) (p2 p3 p4 p5:Int) (p6:Bool) (p7:Int):
    Calls Tryz.prog 24 #[.pointer (some ⟨cb,0,none⟩),.agg (tpz nm id p2 p3 p4 p5 p6 p7),.int .i64 p] w fun e w'=>e= .returned (.string (pathB [cN,partN id p]))∧Fs w0 w' F X A ι rs:=by
  have h1:=h.newArr (tpz nm id p2 p3 p4 p5 p6 p7) 31 neTp
  have HR:=Lib.hid (c_ready h1 (i:=i+1) hr)
  have KI1:Hid (∀W,Calls Tryz.prog 60 #[.int .i64 id] W fun e w'=>W=w'∧e= .returned (.string (decN id))):=Lib.hid fun W=>itoa W id hid
  have KI2:Hid (∀W,Calls Tryz.prog 60 #[.int .i64 p] W fun e w'=>W=w'∧e= .returned (.string (decN p))):=Lib.hid fun W=>itoa W p (by omega)
  have hs1:(decN id).size=1∨(decN id).size=2:=by have:=dec_size id hid;split at this<;>omega
  have hs2:=dec_size p (by omega)
  rw [if_pos (by omega)] at hs2
  have HP:=Lib.hid (part_path id p)
  have hds:(pathB [cN]).size=2:=rfl
  have happ: ∀a b:ByteArray,(a++b).size=a.size+b.size:=fun a b=>ByteArray.size_append
  have hl1:(⟨#[47,116]⟩:ByteArray).size=2:=rfl
  have hl2:(⟨#[45]⟩:ByteArray).size=1:=rfl
  have c1:(w.alloc (.cells (tpz nm id p2 p3 p4 p5 p6 p7) 31 (0,0))).cell? ⟨cb,1,none⟩=some (.string (pathB [cN])):=(h1.arrCell (i:=i+1) hr 1).trans rfl
  have d1:(w.alloc (.cells (tpz nm id p2 p3 p4 p5 p6 p7) 31 (0,0))).cell? ⟨w.heap.size,1,none⟩=some (.int .i64 id):=(h1.arrCell (i:=0) rfl 1).trans rfl
  have H1:=Lib.hid h1
  obtain ⟨y,hy⟩: ∃y,w.alloc (.cells (tpz nm id p2 p3 p4 p5 p6 p7) 31 (0,0))=y:=⟨_,rfl⟩
  obtain ⟨g,hg⟩: ∃g,w.heap.size=g:=⟨_,rfl⟩
  rw [hy] at HR c1 d1 H1
  rw [hg] at d1
  have HY:=Lib.hid (And.intro hy hg)
  rw [←HP.out]
  generalize pathB [cN]=dir at*
  generalize decN id=x1 at*
  generalize decN p=x2 at*
  clear h hr h1 hy hg
  go_enter Tryz.func24,Tryz.ntmps24
  go_upto_region 1 with fail
  rw [HY.out.1,HY.out.2]
  clear HY
  go_wp2_with fail
  refine HR.out.mono ?_
  clear HR
  rintro e w2 ⟨rfl,rfl⟩
  rcases hs1 with hs1 | hs1
  all_goals
    go_upto_region 3 with fail
    go_region_held3 (fun z=>z.cell? ⟨cb,1,none⟩=some (.string dir)∧z.cell? ⟨g,1,none⟩=some (.int .i64 id))
      (exact ⟨c1,d1⟩)
      (first
        | (go_at_call 60;(with_reducible refine (KI1.out _).mono ?_);rintro e w4 ⟨rfl,rfl⟩)
        | (go_at_call 60;(with_reducible refine (KI2.out _).mono ?_);rintro e w4 ⟨rfl,rfl⟩))
    go_wp2
    go_ret
    exact ⟨rfl,(H1.out.frm (Frm.refl NoB y).drew).drop 1⟩
end
end Go.Proofs.YtlemndledcmhiaaGreatDoor
