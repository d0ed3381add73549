/-
  The catalog, from the device up, part 13.
-/
import Derived.Test.YtlemndledcmhiaaGreatDoorU12
import Derived.Laws.IdiomStrings
namespace Go.Proofs.YtlemndledcmhiaaGreatDoor
set_option linter.unusedVariables false
set_option linter.unusedSimpArgs false
section
open Go.ChangeMaps Go.MapKept Go.RowKit
set_option maxHeartbeats 1000000 in
set_option maxRecDepth 100000 in
theorem crc_More (w:World) (v:Value) (b:Blk) (hv:SliceOf w v b) (hl:b.length≤100000):
    Calls Tryz.prog 246 #[.int .u32 0,v] w fun e w'=>w=w'∧e= .returned (.int .u32 (crcS b:Nat)):=by
  have HV:=Lib.hid hv
  obtain ⟨a,cap,rfl,-⟩:=hv
  have HE:=Lib.hid (crcS_eq b).1
  go_enter Tryz.func246,Tryz.ntmps246
  go_wp2_with fail
  go_loop [0,6,11,19] (fun t0 _ t _=> ∃(i:Nat) (c:Int),i≤b.length∧t= .int .i64 i∧t0= .int .u32 c∧Hid (c=crcF (b.take i))) (fun _ _ t _=>b.length-(intOf t).toNat)
  case atStart=>exact ⟨0,_,Nat.zero_le _,rfl,rfl,Lib.hid rfl⟩
  case round=>
    obtain ⟨i,c,hi,rfl,rfl,HC⟩:=hrel
    have hi0:(0:Int)≤(i:Int):=Int.natCast_nonneg _
    by_cases hlt:i<b.length
    · have hi1:(i:Int)<(b.length:Int):=by omega
      obtain ⟨x,hx⟩: ∃x,b[i]?=some x:=⟨_,List.getElem?_eq_getElem hlt⟩
      obtain ⟨blk,off,cap',e,hc⟩:=HV.out.at hx
      cases e
      have HCN:Hid (crcF (b.take (i+1))=crcIt 8 (Go.bits .xor .u32 c ((x.toNat:Int)%4294967296))):=Lib.hid (by
        rw [HC.out,←crcF_snoc]
        congr 1
        obtain ⟨h1,h2⟩:=List.getElem?_eq_some_iff.1 hx
        rw [List.take_succ_eq_append_getElem h1,h2])
      clear hx HC
      go_wp2_with fail
      go_loop [0,19] (fun t0 t=> ∃(k:Nat) (d:Int),k≤8∧t= .int .i64 k∧t0= .int .u32 d∧Hid (d=crcIt k (Go.bits .xor .u32 c ((x.toNat:Int)%4294967296)))) (fun _ t=>8-(intOf t).toNat)
      case atStart=>exact ⟨0,_,Nat.zero_le _,rfl,rfl,Lib.hid rfl⟩
      case round=>
        obtain ⟨k,d,hk,rfl,rfl,HD⟩:=hrel
        have hk0:(0:Int)≤(k:Int):=Int.natCast_nonneg _
        by_cases hk8:k<8
        · have hk8':(k:Int)<8:=by omega
          have HD2:Hid (crcStep d=crcIt (k+1) (Go.bits .xor .u32 c ((x.toNat:Int)%4294967296))):=Lib.hid (by rw [HD.out];rfl)
          go_wp2
          exact ⟨⟨k+1,crcStep d,hk8,by go_num,rfl,HD2⟩,by simp [intOf];omega⟩
        · have hk8': ¬(k:Int)<8:=by omega
          obtain rfl:k=8:=by omega
          have HD2:Hid (d=crcF (b.take (i+1))):=Lib.hid (by rw [HD.out,HCN.out])
          go_wp2
          exact ⟨⟨i+1,d,hlt,by go_num,rfl,HD2⟩,by simp [intOf];omega⟩
    · have hi1: ¬(i:Int)<(b.length:Int):=by omega
      have HX:Hid (c=crcF b):=Lib.hid (by rw [HC.out,List.take_of_length_le (by omega)])
      go_wp2
      go_ret
      refine ⟨rfl,?_⟩
      have:=HX.out
      subst this
      exact congrArg (fun z=>Ending.returned (Value.int .u32 z)) HE.out.symm
theorem crc_Sum (w:World) (v:Value) (b:Blk) (hv:SliceOf w v b) (hl:b.length≤100000):
    Calls Tryz.prog 179 #[v] w fun e w'=>w=w'∧e= .returned (.int .u32 (crcS b:Nat)):=by
  have HC:=Lib.hid (crc_More w v b hv hl)
  clear hv hl
  go_enter Tryz.func179,Tryz.ntmps179
  go_wp2_with fail
  refine HC.out.mono ?_
  rintro e w2 ⟨rfl,rfl⟩
  go_wp2
  go_ret
  exact ⟨rfl,rfl⟩
def planOf (n ni:Nat):Pl:= { n:=n,ni:=ni,im:=246,bm:=247,tb:=248,da:=248+(ni+7)/8,dc:=n-248-(ni+7)/8 }
structure PlanFit (n ni:Nat):Prop where
  h1:1≤ni∧ni≤4096
  h2:249+(ni+7)/8≤n
  h3:n≤4344+(ni+7)/8
theorem PlanFit.ok {n ni:Nat} (h:PlanFit n ni):PlOk (planOf n ni):=by
  have h1:=h.h1;have h2:=h.h2;have h3:=h.h3
  refine ⟨by show n≤65536;omega,h1,⟨by show 1≤n-248-(ni+7)/8;omega,by show n-248-(ni+7)/8≤4096;omega⟩,rfl,rfl,rfl,rfl,by show 248+(ni+7)/8+(n-248-(ni+7)/8)=n;omega⟩
def plC (P:Pl):Array Value:=P.cells.toArray
theorem nePln: ¬U8T (135:TypeId):=by decide
def plz (a b c d e f g:Int):Array Value:= #[.int .i64 a,.int .i64 b,.int .i64 c,.int .i64 d,.int .i64 e,.int .i64 f,.int .i64 g]
theorem zeroPln (W:World):(zeroValue 135).run Tryz.prog W= .ok (.agg (plz 0 0 0 0 0 0 0)) W:=by kernel_rfl
theorem infoPln (a b c d e f g:Int):(Tryz.prog.info? 135).map (·.size)=some (plz a b c d e f g).size:=by kernel_rfl
theorem onePln (a b c d e f g:Int):((plz a b c d e f g).all fun x=>x.oneCell')=true:=by simp [plz,Value.oneCell']
theorem storePln {ops:Array Oper} {rest:List Oper} {o:Oper} {a:Act} {w:World} {Q:Exit→Act→World→Prop} (hgd:o.guard=none) (x y:Operand) (ho:o.op= .store 135 x y) (g:Nat) (p1 p2 p3 p4 p5 p6 p7:Int) (hx:a.eval x= .pointer (some ⟨g,0,none⟩)) (hy:a.eval y= .agg (plz p1 p2 p3 p4 p5 p6 p7)) (old:Array Value) (hold:old.size=7)
    (hg:w.heap[g]?=some (.cells old 135 (0,0))) (h:wpList Tryz.prog ops Q rest (a.put o.dst undef) (w.setRow g (plz p1 p2 p3 p4 p5 p6 p7))):wpList Tryz.prog ops Q (o::rest) a w:=
  wpList_store_row hgd _ x y ho g (plz p1 p2 p3 p4 p5 p6 p7) hx hy _ old hg (infoPln _ _ _ _ _ _ _) (by rw [hold];rfl) (onePln _ _ _ _ _ _ _) h
theorem loadPln {ops:Array Oper} {rest:List Oper} {o:Oper} {a:Act} {w:World} {Q:Exit→Act→World→Prop} (hw:Region.wanted o (yielded ops a.tmps)=true) (x:Operand) (ho:o.op= .load 135 x) (g:Nat) (hx:a.eval x= .pointer (some ⟨g,0,none⟩)) (p1 p2 p3 p4 p5 p6 p7:Int)
    (hg:w.heap[g]?=some (.cells (plz p1 p2 p3 p4 p5 p6 p7) 135 (0,0))) (h:wpList Tryz.prog ops Q rest (a.put o.dst (.agg (plz p1 p2 p3 p4 p5 p6 p7))) w):wpList Tryz.prog ops Q (o::rest) a w:=
  BigFrame.wpList_want hw fun K hK=>wp_load_row _ x ho g hx _ _ _ _ hg Tryz.underlying135 rfl (infoPln _ _ _ _ _ _ _) (hK _ _ h)
theorem l_up (w:World) (n b:Nat) (hb:1≤b) (hb2:b≤4096) (hn:n≤100000):Calls Tryz.prog 174 #[.int .i64 n,.int .i64 b] w fun e w'=>w=w'∧e= .returned (.int .i64 ((n+b-1)/b:Nat)):=by
  have h1:(n:Int)+(b:Int)-1=((n+b-1:Nat):Int):=by omega
  have h2:((n+b-1:Nat):Int)/(b:Int)=(((n+b-1)/b:Nat):Int):=by norm_cast
  have b0: ¬(b:Int)=0:=by omega
  have b1:(1:Int)≤(b:Int):=by omega
  have b2:(b:Int)≤4096:=by omega
  have n0:(0:Int)≤(n:Int):=Int.natCast_nonneg _
  have n1:(n:Int)≤100000:=by omega
  have H1:=Lib.hid h1
  have H2:=Lib.hid h2
  clear h1 h2
  go_enter Tryz.func174,Tryz.ntmps174
  go_wp2_with fail
  go_ret
  refine ⟨rfl,?_⟩
  show Ending.returned (Value.int .i64 (((n:Int)+(b:Int)-1)/(b:Int)))=_
  rw [H1.out,H2.out]
def plk (n ni t dc:Int) (k:Nat):Array Value:=plz n ni (if 0<k then 246 else 0) (if 1<k then 247 else 0) (if 2<k then 248 else 0) (if 3<k then 248+t else 0) dc
def arC (g:Nat) (t dc:Int):Array Value:= #[.pointer (some ⟨g,2,none⟩),.int .i64 1,.pointer (some ⟨g,3,none⟩),.int .i64 1,.pointer (some ⟨g,4,none⟩),.int .i64 t,.pointer (some ⟨g,5,none⟩),.int .i64 dc]
set_option maxHeartbeats 2000000 in
set_option maxRecDepth 100000 in
theorem l_Make (w:World) (n ni:Nat) (h:PlanFit n ni):
    Calls Tryz.prog 88 #[.int .i64 n,.int .i64 ni] w fun e w'=>e= .returned (.tuple #[.agg (plC (planOf n ni)),.int .i64 0])∧Frm NoB w w':=by
  obtain ⟨t,ht⟩: ∃t,(ni+7)/8=t:=⟨_,rfl⟩
  obtain ⟨d,hd⟩: ∃d,n-248-t=d:=⟨_,rfl⟩
  have h1:=h.h1;have h2:=h.h2;have h3:=h.h3
  rw [ht] at h2 h3
  have HU1:Hid (∀y,Calls Tryz.prog 174 #[.int .i64 ni,.int .i64 4096] y fun e w'=>y=w'∧e= .returned (.int .i64 1)):=Lib.hid fun y=>by
    have:=l_up y ni 4096 (by omega) (by omega) (by omega)
    rw [show (ni+4096-1)/4096=1 by omega] at this
    exact this
  have HU2:Hid (∀y,Calls Tryz.prog 174 #[.int .i64 ni,.int .i64 8] y fun e w'=>y=w'∧e= .returned (.int .i64 t)):=Lib.hid fun y=>by
    have:=l_up y ni 8 (by omega) (by omega) (by omega)
    rw [show ni+8-1=ni+7 by omega,ht] at this
    exact this
  have HPL:Hid (plC (planOf n ni)=plz n ni 246 247 248 (248+(t:Int)) d):=Lib.hid (by
    show (planOf n ni).cells.toArray=_
    unfold planOf Pl.cells plz
    rw [ht,hd]
    simp only [Int.natCast_add]
    rfl)
  have i1:(1:Int)≤(ni:Int):=by omega
  have i2:(ni:Int)≤4096:=by omega
  have m1:(1:Int)≤(n:Int):=by omega
  have m2:(n:Int)≤65536:=by omega
  have t0:(0:Int)≤(t:Int):=Int.natCast_nonneg _
  have t1:(t:Int)≤512:=by omega
  have dd:(n:Int)-246-1-(t:Int)-1=(d:Int):=by omega
  have d1:(1:Int)≤(d:Int):=by omega
  have d2:(d:Int)≤4096:=by omega
  have dd1:(n:Int)-246-1-(t:Int)=(d:Int)+1:=by omega
  have HDD:=Lib.hid (And.intro dd dd1)
  clear h h1 h2 h3 ht hd dd dd1
  rw [HPL.out]
  go_enter Tryz.func88,Tryz.ntmps88
  go_upto_region 1 with (refine allocRow rfl _ _ zeroPln rfl ?_)
  have hf0:=(Frm.refl NoB w).alloc (.cells (plz 0 0 0 0 0 0 0) 135 (0,0))
  have hb0:=block_alloc_new w (.cells (plz 0 0 0 0 0 0 0) 135 (0,0))
  obtain ⟨y0,hy0⟩: ∃y0,w.alloc (.cells (plz 0 0 0 0 0 0 0) 135 (0,0))=y0:=⟨_,rfl⟩
  obtain ⟨b4,hb4⟩: ∃b4,w.heap.size=b4:=⟨_,rfl⟩
  rw [hy0] at hf0 hb0 ⊢
  rw [hb4] at hb0 ⊢
  have HF0:=Lib.hid hf0
  have HB0:=Lib.hid hb0
  have HB4:=Lib.hid hb4
  clear hf0 hb0 hy0 hb4
  go_wp2_with fail
  refine (HU1.out _).mono ?_
  rintro e w1 ⟨rfl,rfl⟩
  go_wp2_with fail
  refine (HU2.out _).mono ?_
  rintro e w2 ⟨rfl,rfl⟩
  go_upto_region 5 with fail
  rw [HDD.out.2]
  clear HU1 HU2 HDD
  go_wp2_with fail
  go_loopw [9] (fun t9 wr=>t9= .int .i64 1∧Hid (y0=wr)) (fun _ _=>0)
  case atStart=>exact ⟨rfl,Lib.hid rfl⟩
  case round=>
    obtain ⟨rfl,HY⟩:=hrel
    obtain rfl:=HY.out
    clear HY
    have HK0:=Lib.hid (block_alloc_new y0 (.cells (plz 0 0 0 0 0 0 0) 135 (0,0)))
    go_upto_region 9 with (first | (refine allocRow rfl _ _ zeroPln rfl ?_) | (refine storePln rfl _ _ rfl y0.heap.size n ni 0 0 0 0 d rfl rfl _ rfl HK0.out ?_))
    have hb1:=setRow_heap _ _ _ (plk n ni t d 0) _ _ HK0.out
    have hf1:Frm NoB y0 ((y0.alloc (.cells (plz 0 0 0 0 0 0 0) 135 (0,0))).setRow y0.heap.size (plk n ni t d 0)):=((Frm.refl NoB y0).alloc _).setRowNew (Nat.le_refl _) _
    show Code.wp Tryz.prog _ _ _ ((y0.alloc (.cells (plz 0 0 0 0 0 0 0) 135 (0,0))).setRow y0.heap.size (plk n ni t d 0))
    obtain ⟨g,hg⟩: ∃g,y0.heap.size=g:=⟨_,rfl⟩
    have HG:=Lib.hid hg
    rw [hg] at hb1 hf1 ⊢
    obtain ⟨y1,hy1⟩: ∃y1,(y0.alloc (.cells (plz 0 0 0 0 0 0 0) 135 (0,0))).setRow g (plk n ni t d 0)=y1:=⟨_,rfl⟩
    rw [hy1] at hb1 hf1 ⊢
    have HB1:=Lib.hid hb1
    have HF1:=Lib.hid hf1
    have c6:y1.cell? ⟨g,6,none⟩=some (.int .i64 d):=(cell_of_block hb1).trans rfl
    clear hb1 hf1 hy1 hg HK0
    go_upto_region 13 with fail
    have hb2:=block_alloc_new y1 (.cells (arC g t d) 252 (0,0))
    have hf2:=HF1.out.alloc (.cells (arC g t d) 252 (0,0))
    have hb3:=block_alloc_old (.cells (arC g t d) 252 (0,0)) HB1.out
    show Code.wp Tryz.prog _ _ _ (y1.alloc (.cells (arC g t d) 252 (0,0)))
    have hga:y0.heap.size≤y1.heap.size:=HF1.out.size
    obtain ⟨ga,hgg⟩: ∃ga,y1.heap.size=ga:=⟨_,rfl⟩
    rw [hgg] at hb2 ⊢
    obtain ⟨y2,hy2⟩: ∃y2,y1.alloc (.cells (arC g t d) 252 (0,0))=y2:=⟨_,rfl⟩
    rw [hy2] at hb2 hf2 hb3 ⊢
    have HNE:Hid (ga≠g):=Lib.hid (by have:=lt_of_block HB1.out;omega)
    have HB2:=Lib.hid hb2
    have HB3:=Lib.hid hb3
    have HF2:=Lib.hid hf2
    clear hb2 hf2 hb3 hy2 hgg hga HB1 HF1 c6
    go_loopw [11,13,72] (fun t11 _ t72 wr=> ∃k:Nat,k≤4∧t72= .int .i64 k∧t11= .int .i64 (if k=0 then 246 else if k=1 then 247 else if k=2 then 248 else if k=3 then 248+(t:Int) else 248+(t:Int)+d)∧Hid (wr.heap[g]?=some (.cells (plk n ni t d k) 135 (0,0)))∧Hid (wr.heap[ga]?=some (.cells (arC g t d) 252 (0,0)))∧Hid (Frm NoB y0 wr)) (fun _ _ t72 _=>4-(intOf t72).toNat)
    case atStart=>exact ⟨0,by omega,rfl,rfl,HB3,HB2,HF2⟩
    case round=>
      obtain ⟨k,hk,rfl,rfl,HA,HB,HF⟩:=hrel
      by_cases hk4:k<4
      · rcases (by omega:k=0∨k=1∨k=2∨k=3) with rfl | rfl | rfl | rfl
        · have a0:wr.cell? ⟨ga,0,none⟩=some (.pointer (some ⟨g,2,none⟩)):=(cell_of_block HB.out).trans rfl
          have a1:wr.cell? ⟨ga,1,none⟩=some (.int .i64 1):=(cell_of_block HB.out).trans rfl
          go_upto_region 15 with fail
          have hA2:=block_alloc_old (.cells #[.pointer (some ⟨g,2,none⟩),.int .i64 1] 252 (0,0)) HA.out
          have hB2:=block_alloc_old (.cells #[.pointer (some ⟨g,2,none⟩),.int .i64 1] 252 (0,0)) HB.out
          have hN2:=block_alloc_new wr (.cells #[.pointer (some ⟨g,2,none⟩),.int .i64 1] 252 (0,0))
          have hF2:=HF.out.alloc (.cells #[.pointer (some ⟨g,2,none⟩),.int .i64 1] 252 (0,0))
          have hgl:=lt_of_block HA.out
          have hgl2:=lt_of_block HB.out
          obtain ⟨gs,hgs⟩: ∃gs,wr.heap.size=gs:=⟨_,rfl⟩
          rw [hgs] at hN2 hgl hgl2 ⊢
          obtain ⟨y,hy⟩: ∃y,wr.alloc (.cells #[.pointer (some ⟨g,2,none⟩),.int .i64 1] 252 (0,0))=y:=⟨_,rfl⟩
          rw [hy] at hA2 hB2 hN2 hF2 ⊢
          have e0:y.cell? ⟨gs,0,none⟩=some (.pointer (some ⟨g,2,none⟩)):=(cell_of_block hN2).trans rfl
          have cg:y.cell? ⟨g,2,none⟩=some (.int .i64 0):=(cell_of_block hA2).trans rfl
          have fg:y.frozen? ⟨g,2,none⟩=false:=frozen_of_block hA2
          have e1:(y.setCell ⟨g,2,none⟩ (.int .i64 246)).cell? ⟨gs,1,none⟩=some (.int .i64 1):=(cell_of_block (block_setCell_other (p:=⟨g,2,none⟩) _ hN2 (by show gs≠g;omega))).trans rfl
          have HA3:Hid ((y.setCell ⟨g,2,none⟩ (.int .i64 246)).heap[g]?=some (.cells (plk n ni t d 1) 135 (0,0))):=Lib.hid (block_setCell_same (i:=2) (.int .i64 246) hA2)
          have HB3:Hid ((y.setCell ⟨g,2,none⟩ (.int .i64 246)).heap[ga]?=some (.cells (arC g t d) 252 (0,0))):=Lib.hid (block_setCell_other (p:=⟨g,2,none⟩) _ hB2 (by show ga≠g;exact HNE.out))
          have HF3:=Lib.hid (hF2.setCell (p:=⟨g,2,none⟩) (.inr (by rw [HG.out];exact Nat.le_refl _)) (.int .i64 246))
          clear a0 a1 hA2 hB2 hN2 hF2 hgl hgl2 hgs hy HA HB HF
          go_wp2_with fail
          exact ⟨⟨1,by omega,rfl,rfl,HA3,HB3,HF3⟩,by simp [intOf]⟩
        · have a0:wr.cell? ⟨ga,2,none⟩=some (.pointer (some ⟨g,3,none⟩)):=(cell_of_block HB.out).trans rfl
          have a1:wr.cell? ⟨ga,3,none⟩=some (.int .i64 1):=(cell_of_block HB.out).trans rfl
          go_upto_region 15 with fail
          have hA2:=block_alloc_old (.cells #[.pointer (some ⟨g,3,none⟩),.int .i64 1] 252 (0,0)) HA.out
          have hB2:=block_alloc_old (.cells #[.pointer (some ⟨g,3,none⟩),.int .i64 1] 252 (0,0)) HB.out
          have hN2:=block_alloc_new wr (.cells #[.pointer (some ⟨g,3,none⟩),.int .i64 1] 252 (0,0))
          have hF2:=HF.out.alloc (.cells #[.pointer (some ⟨g,3,none⟩),.int .i64 1] 252 (0,0))
          have hgl:=lt_of_block HA.out
          have hgl2:=lt_of_block HB.out
          obtain ⟨gs,hgs⟩: ∃gs,wr.heap.size=gs:=⟨_,rfl⟩
          rw [hgs] at hN2 hgl hgl2 ⊢
          obtain ⟨y,hy⟩: ∃y,wr.alloc (.cells #[.pointer (some ⟨g,3,none⟩),.int .i64 1] 252 (0,0))=y:=⟨_,rfl⟩
          rw [hy] at hA2 hB2 hN2 hF2 ⊢
          have e0:y.cell? ⟨gs,0,none⟩=some (.pointer (some ⟨g,3,none⟩)):=(cell_of_block hN2).trans rfl
          have cg:y.cell? ⟨g,3,none⟩=some (.int .i64 0):=(cell_of_block hA2).trans rfl
          have fg:y.frozen? ⟨g,3,none⟩=false:=frozen_of_block hA2
          have e1:(y.setCell ⟨g,3,none⟩ (.int .i64 247)).cell? ⟨gs,1,none⟩=some (.int .i64 1):=(cell_of_block (block_setCell_other (p:=⟨g,3,none⟩) _ hN2 (by show gs≠g;omega))).trans rfl
          have HA3:Hid ((y.setCell ⟨g,3,none⟩ (.int .i64 247)).heap[g]?=some (.cells (plk n ni t d 2) 135 (0,0))):=Lib.hid (block_setCell_same (i:=3) (.int .i64 247) hA2)
          have HB3:Hid ((y.setCell ⟨g,3,none⟩ (.int .i64 247)).heap[ga]?=some (.cells (arC g t d) 252 (0,0))):=Lib.hid (block_setCell_other (p:=⟨g,3,none⟩) _ hB2 (by show ga≠g;exact HNE.out))
          have HF3:=Lib.hid (hF2.setCell (p:=⟨g,3,none⟩) (.inr (by rw [HG.out];exact Nat.le_refl _)) (.int .i64 247))
          clear a0 a1 hA2 hB2 hN2 hF2 hgl hgl2 hgs hy HA HB HF
          go_wp2_with fail
          exact ⟨⟨2,by omega,rfl,rfl,HA3,HB3,HF3⟩,by simp [intOf]⟩
        · have a0:wr.cell? ⟨ga,4,none⟩=some (.pointer (some ⟨g,4,none⟩)):=(cell_of_block HB.out).trans rfl
          have a1:wr.cell? ⟨ga,5,none⟩=some (.int .i64 (t:Int)):=(cell_of_block HB.out).trans rfl
          go_upto_region 15 with fail
          have hA2:=block_alloc_old (.cells #[.pointer (some ⟨g,4,none⟩),.int .i64 (t:Int)] 252 (0,0)) HA.out
          have hB2:=block_alloc_old (.cells #[.pointer (some ⟨g,4,none⟩),.int .i64 (t:Int)] 252 (0,0)) HB.out
          have hN2:=block_alloc_new wr (.cells #[.pointer (some ⟨g,4,none⟩),.int .i64 (t:Int)] 252 (0,0))
          have hF2:=HF.out.alloc (.cells #[.pointer (some ⟨g,4,none⟩),.int .i64 (t:Int)] 252 (0,0))
          have hgl:=lt_of_block HA.out
          have hgl2:=lt_of_block HB.out
          obtain ⟨gs,hgs⟩: ∃gs,wr.heap.size=gs:=⟨_,rfl⟩
          rw [hgs] at hN2 hgl hgl2 ⊢
          obtain ⟨y,hy⟩: ∃y,wr.alloc (.cells #[.pointer (some ⟨g,4,none⟩),.int .i64 (t:Int)] 252 (0,0))=y:=⟨_,rfl⟩
          rw [hy] at hA2 hB2 hN2 hF2 ⊢
          have e0:y.cell? ⟨gs,0,none⟩=some (.pointer (some ⟨g,4,none⟩)):=(cell_of_block hN2).trans rfl
          have cg:y.cell? ⟨g,4,none⟩=some (.int .i64 0):=(cell_of_block hA2).trans rfl
          have fg:y.frozen? ⟨g,4,none⟩=false:=frozen_of_block hA2
          have e1:(y.setCell ⟨g,4,none⟩ (.int .i64 248)).cell? ⟨gs,1,none⟩=some (.int .i64 (t:Int)):=(cell_of_block (block_setCell_other (p:=⟨g,4,none⟩) _ hN2 (by show gs≠g;omega))).trans rfl
          have HA3:Hid ((y.setCell ⟨g,4,none⟩ (.int .i64 248)).heap[g]?=some (.cells (plk n ni t d 3) 135 (0,0))):=Lib.hid (block_setCell_same (i:=4) (.int .i64 248) hA2)
          have HB3:Hid ((y.setCell ⟨g,4,none⟩ (.int .i64 248)).heap[ga]?=some (.cells (arC g t d) 252 (0,0))):=Lib.hid (block_setCell_other (p:=⟨g,4,none⟩) _ hB2 (by show ga≠g;exact HNE.out))
          have HF3:=Lib.hid (hF2.setCell (p:=⟨g,4,none⟩) (.inr (by rw [HG.out];exact Nat.le_refl _)) (.int .i64 248))
          clear a0 a1 hA2 hB2 hN2 hF2 hgl hgl2 hgs hy HA HB HF
          go_wp2_with fail
          exact ⟨⟨3,by omega,rfl,rfl,HA3,HB3,HF3⟩,by simp [intOf]⟩
        · have a0:wr.cell? ⟨ga,6,none⟩=some (.pointer (some ⟨g,5,none⟩)):=(cell_of_block HB.out).trans rfl
          have a1:wr.cell? ⟨ga,7,none⟩=some (.int .i64 (d:Int)):=(cell_of_block HB.out).trans rfl
          go_upto_region 15 with fail
          have hA2:=block_alloc_old (.cells #[.pointer (some ⟨g,5,none⟩),.int .i64 (d:Int)] 252 (0,0)) HA.out
          have hB2:=block_alloc_old (.cells #[.pointer (some ⟨g,5,none⟩),.int .i64 (d:Int)] 252 (0,0)) HB.out
          have hN2:=block_alloc_new wr (.cells #[.pointer (some ⟨g,5,none⟩),.int .i64 (d:Int)] 252 (0,0))
          have hF2:=HF.out.alloc (.cells #[.pointer (some ⟨g,5,none⟩),.int .i64 (d:Int)] 252 (0,0))
          have hgl:=lt_of_block HA.out
          have hgl2:=lt_of_block HB.out
          obtain ⟨gs,hgs⟩: ∃gs,wr.heap.size=gs:=⟨_,rfl⟩
          rw [hgs] at hN2 hgl hgl2 ⊢
          obtain ⟨y,hy⟩: ∃y,wr.alloc (.cells #[.pointer (some ⟨g,5,none⟩),.int .i64 (d:Int)] 252 (0,0))=y:=⟨_,rfl⟩
          rw [hy] at hA2 hB2 hN2 hF2 ⊢
          have e0:y.cell? ⟨gs,0,none⟩=some (.pointer (some ⟨g,5,none⟩)):=(cell_of_block hN2).trans rfl
          have cg:y.cell? ⟨g,5,none⟩=some (.int .i64 0):=(cell_of_block hA2).trans rfl
          have fg:y.frozen? ⟨g,5,none⟩=false:=frozen_of_block hA2
          have e1:(y.setCell ⟨g,5,none⟩ (.int .i64 (248+(t:Int)))).cell? ⟨gs,1,none⟩=some (.int .i64 (d:Int)):=(cell_of_block (block_setCell_other (p:=⟨g,5,none⟩) _ hN2 (by show gs≠g;omega))).trans rfl
          have HA3:Hid ((y.setCell ⟨g,5,none⟩ (.int .i64 (248+(t:Int)))).heap[g]?=some (.cells (plk n ni t d 4) 135 (0,0))):=Lib.hid (block_setCell_same (i:=5) (.int .i64 (248+(t:Int))) hA2)
          have HB3:Hid ((y.setCell ⟨g,5,none⟩ (.int .i64 (248+(t:Int)))).heap[ga]?=some (.cells (arC g t d) 252 (0,0))):=Lib.hid (block_setCell_other (p:=⟨g,5,none⟩) _ hB2 (by show ga≠g;exact HNE.out))
          have HF3:=Lib.hid (hF2.setCell (p:=⟨g,5,none⟩) (.inr (by rw [HG.out];exact Nat.le_refl _)) (.int .i64 (248+(t:Int))))
          clear a0 a1 hA2 hB2 hN2 hF2 hgl hgl2 hgs hy HA HB HF
          go_wp2_with fail
          exact ⟨⟨4,by omega,rfl,rfl,HA3,HB3,HF3⟩,by simp [intOf]⟩
      · obtain rfl:k=4:=by omega
        have HB4':Hid (wr.heap[b4]?=some (.cells (plz 0 0 0 0 0 0 0) 135 (0,0))):=Lib.hid ((HF.out.block b4 (lt_of_block HB0.out) (fun e=>e)).trans HB0.out)
        have HE:=Lib.hid (setRow_heap _ _ _ (plz n ni 246 247 248 (248+(t:Int)) d) _ _ HB4'.out)
        have HFE:=Lib.hid ((HF0.out.trans HF.out fun _ _ e=>e).setRowNew (g:=b4) (by rw [HB4.out];exact Nat.le_refl _) (plz n ni 246 247 248 (248+(t:Int)) d))
        have HA4:Hid (wr.heap[g]?=some (.cells (plz n ni 246 247 248 (248+(t:Int)) d) 135 (0,0))):=HA
        clear HA HB HF
        go_wp2_with (first | (refine loadPln rfl _ rfl g rfl n ni 246 247 248 (248+(t:Int)) d HA4.out ?_) | (refine storePln rfl _ _ rfl b4 n ni 246 247 248 (248+(t:Int)) d rfl rfl _ rfl HB4'.out ?_))
        have hld:=run_loadVar_row (P:=Tryz.prog) _ b4 135 135 (plz n ni 246 247 248 (248+(t:Int)) d) (0,0) _ HE.out Tryz.underlying135 rfl (infoPln _ _ _ _ _ _ _)
        exact bodyPost_ret (v:= .tuple #[.agg (plz n ni 246 247 248 (248+(t:Int)) d),.int .i64 0]) (results_ct Tryz.results88 _ _ ⟨b4,0,none⟩ rfl _ hld) rfl ⟨rfl,HFE.out⟩
def magicB:ByteArray:=⟨#[66,79,76,76,65,82,68,83]⟩
def encW:Blk:=magicB.data.toList++List.replicate 504 0
def encN (f:Nat→Nat):Nat→Blk
  | 0=>encW
  | k+1=>putLE (encN f k) (8+4*k) 4 (f k)
def Pl.num (P:Pl):Nat→Nat:=fun k=>if k=0 then P.n else if k=1 then P.ni else if k=2 then P.im else if k=3 then P.bm else if k=4 then P.tb else if k=5 then P.da else P.dc
def encP (P:Pl):Blk:=putLE (encN P.num 7) 36 4 (crcS ((encN P.num 7).take 36))
theorem encW_len:encW.length=512:=by
  unfold encW
  rw [List.length_append,List.length_replicate]
  rfl
theorem encN_len (f:Nat→Nat): ∀k,k≤7→(encN f k).length=512
  | 0,_=>encW_len
  | k+1,h=>by
    have ih:=encN_len f k (by omega)
    exact (putLE_length _ _ _ _ (by rw [ih];omega)).trans ih
theorem encP_len (P:Pl):(encP P).length=512:=by
  have ih:=encN_len P.num 7 (Nat.le_refl _)
  exact (putLE_length _ _ _ _ (by rw [ih];omega)).trans ih
theorem PlOk.num {P:Pl} (h:PlOk P) (k:Nat):P.num k<4294967296:=by
  have h1:=h.n;have h2:=h.ni;have h3:=h.dc;have h4:=h.im;have h5:=h.bm;have h6:=h.tb;have h7:=h.da;have h8:=h.all
  unfold Pl.num
  repeat' split
  all_goals omega
theorem magic_cells:((madeCells #[.int .u8 0] 512).toList.take 0++Lib.byteCells magicB.data.toList++(madeCells #[.int .u8 0] 512).toList.drop (0+magicB.size)).toArray=(encW.map B8).toArray:=by
  kernel_rfl
theorem encAt (w:World) (g:Nat) (hg:w.heap[g]?=some (.cells (madeCells #[.int .u8 0] 512) 5 (0,0))) (R:Nat→Prop) (hR:R g):BytesAt (w.setRow g (encW.map B8).toArray) (.slice (some ⟨g,0,none⟩) 512 512) encW R:=by
  refine ⟨g,0,512,(encW.map B8).toArray,by rw [encW_len],by rw [encW_len];omega,⟨5,by decide,setRow_heap _ _ _ _ _ _ hg⟩,fun i hi=>?_,hR⟩
  rw [List.getElem?_toArray,List.getElem?_map,Nat.zero_add,List.getD_eq_getElem?_getD,List.getElem?_eq_getElem hi]
  rfl
set_option maxHeartbeats 2000000 in
set_option maxRecDepth 100000 in
theorem l_Encode (w:World) (P:Pl) (h:PlOk P):
    Calls Tryz.prog 93 #[.agg (plC P)] w fun e w'=> ∃g o c,e= .returned (.slice (some ⟨g,o,none⟩) 512 c)∧BytesAt w' (.slice (some ⟨g,o,none⟩) 512 c) (encP P) (Fresh w)∧Frm NoB w w':=by
  have HNUM:=Lib.hid h.num
  have hP:plC P= #[.int .i64 P.n,.int .i64 P.ni,.int .i64 P.im,.int .i64 P.bm,.int .i64 P.tb,.int .i64 P.da,.int .i64 P.dc]:=rfl
  have HCS:=Lib.hid (crcS_eq ((encN P.num 7).take 36)).2
  have HEP:Hid (encP P=putLE (encN P.num 7) 36 4 (crcS ((encN P.num 7).take 36))):=Lib.hid rfl
  generalize encP P=ep at*
  have hf0:=(Frm.refl NoB w).alloc (.cells (plC P) 135 (0,0))
  have hb0:=block_alloc_new w (.cells (plC P) 135 (0,0))
  obtain ⟨y0,hy0⟩: ∃y0,w.alloc (.cells (plC P) 135 (0,0))=y0:=⟨_,rfl⟩
  rw [hy0] at hf0 hb0
  obtain ⟨b1,hb1⟩: ∃b1,w.heap.size=b1:=⟨_,rfl⟩
  rw [hb1] at hb0
  rw [hP] at hb0 hy0 ⊢
  have HY0:=Lib.hid (And.intro hy0 hb1)
  have HF0:=Lib.hid hf0
  have HB0:=Lib.hid hb0
  have hmk: ∀W,(Instr.makeSlice 76 (.int .i64 512) (.int .i64 512)).run Tryz.prog W= .ok (.slice (some ⟨W.heap.size,0,none⟩) 512 512) (W.alloc (.cells (madeCells #[.int .u8 0] 512) 5 (0,0))):=run_makeN 512 (by omega)
  clear h hP hf0 hb0 hy0 hb1
  go_enter Tryz.func93,Tryz.ntmps93
  go_upto_region 1 with fail
  rw [HY0.out.1,HY0.out.2]
  go_upto_region 2 with fail
  have hn:=block_alloc_new y0 (.cells (madeCells #[.int .u8 0] 512) 5 (0,0))
  have hf1:=HF0.out.alloc (.cells (madeCells #[.int .u8 0] 512) 5 (0,0))
  have hb1:=block_alloc_old (.cells (madeCells #[.int .u8 0] 512) 5 (0,0)) HB0.out
  have hsz:=HF0.out.size
  obtain ⟨g,hg⟩: ∃g,y0.heap.size=g:=⟨_,rfl⟩
  have hbl:=lt_of_block HB0.out
  rw [hg] at hn hsz hbl ⊢
  obtain ⟨y1,hy1⟩: ∃y1,y0.alloc (.cells (madeCells #[.int .u8 0] 512) 5 (0,0))=y1:=⟨_,rfl⟩
  rw [hy1] at hn hf1 hb1 ⊢
  have hcp: ∀ty c,(Builtin.copy_ #[76,9] ty #[.slice (some ⟨g,0,none⟩) 512 c,.string ⟨#[66,79,76,76,65,82,68,83]⟩]).run Tryz.prog y1= .ok (goInt 8) (y1.setRow g (encW.map B8).toArray):=fun ty c=>by
    have:=Lib.run_copy_row_string (P:=Tryz.prog) y1 76 9 ty 5 g 0 512 c magicB _ 5 Tryz.underlying76 (by kernel_rfl) hn (by decide) (by rw [size_madeCells];decide)
    rw [magic_cells] at this
    exact this
  have hb2:=encAt y1 g hn (Fresh w) (show w.heap.size≤g by have:=HF0.out.size;omega)
  have hf2:=hf1.setRowNew (g:=g) (show w.heap.size≤g by have:=HF0.out.size;omega) (encW.map B8).toArray
  have hp2:=(setRow_other y1 g b1 (encW.map B8).toArray (by omega)).trans hb1
  have HB2:=Lib.hid hb2
  have HF2:=Lib.hid hf2
  have HP2:=Lib.hid hp2
  clear hb2 hf2 hp2 hn hf1 hb1 hsz hbl hy1 hg hmk HF0 HB0 HY0
  go_upto_region 3 with fail
  clear hcp
  obtain ⟨y2,hy2⟩: ∃y2,y1.setRow g (encW.map B8).toArray=y2:=⟨_,rfl⟩
  rw [hy2] at HB2 HF2 HP2 ⊢
  clear hy2
  have d0:y2.cell? ⟨b1,0,none⟩=some (.int .i64 P.n):=(cell_of_block HP2.out).trans rfl
  have d1:y2.cell? ⟨b1,1,none⟩=some (.int .i64 P.ni):=(cell_of_block HP2.out).trans rfl
  have d2:y2.cell? ⟨b1,2,none⟩=some (.int .i64 P.im):=(cell_of_block HP2.out).trans rfl
  have d3:y2.cell? ⟨b1,3,none⟩=some (.int .i64 P.bm):=(cell_of_block HP2.out).trans rfl
  have d4:y2.cell? ⟨b1,4,none⟩=some (.int .i64 P.tb):=(cell_of_block HP2.out).trans rfl
  have d5:y2.cell? ⟨b1,5,none⟩=some (.int .i64 P.da):=(cell_of_block HP2.out).trans rfl
  have d6:y2.cell? ⟨b1,6,none⟩=some (.int .i64 P.dc):=(cell_of_block HP2.out).trans rfl
  go_upto_region 4 with fail
  have hn3:=block_alloc_new y2 (.cells #[.int .i64 P.n,.int .i64 P.ni,.int .i64 P.im,.int .i64 P.bm,.int .i64 P.tb,.int .i64 P.da,.int .i64 P.dc] 3 (0,0))
  have hf3:=HF2.out.alloc (.cells #[.int .i64 P.n,.int .i64 P.ni,.int .i64 P.im,.int .i64 P.bm,.int .i64 P.tb,.int .i64 P.da,.int .i64 P.dc] 3 (0,0))
  have hb3:=HB2.out.frm0 ((Frm.refl NoB y2).alloc (.cells #[.int .i64 P.n,.int .i64 P.ni,.int .i64 P.im,.int .i64 P.bm,.int .i64 P.tb,.int .i64 P.da,.int .i64 P.dc] 3 (0,0)))
  obtain ⟨y3,hy3⟩: ∃y3,y2.alloc (.cells #[.int .i64 P.n,.int .i64 P.ni,.int .i64 P.im,.int .i64 P.bm,.int .i64 P.tb,.int .i64 P.da,.int .i64 P.dc] 3 (0,0))=y3:=⟨_,rfl⟩
  obtain ⟨ga,hga⟩: ∃ga,y2.heap.size=ga:=⟨_,rfl⟩
  rw [hga] at hn3 ⊢
  rw [hy3] at hn3 hf3 hb3 ⊢
  have HN3:=Lib.hid hn3
  have HF3:=Lib.hid hf3
  have HB3:=Lib.hid hb3
  clear hn3 hf3 hb3 hy3 hga d0 d1 d2 d3 d4 d5 d6 HB2 HF2 HP2
  go_loopw [3,4,5,25] (fun t3 _ _ t25 wr=> ∃k gg oo cc:Nat,k≤7∧t25= .int .i64 k∧t3= .slice (some ⟨gg,oo,none⟩) 512 cc∧Hid (BytesAt wr (.slice (some ⟨gg,oo,none⟩) 512 cc) (encN P.num k) (Fresh w))∧Hid (wr.heap[ga]?=some (.cells #[.int .i64 P.n,.int .i64 P.ni,.int .i64 P.im,.int .i64 P.bm,.int .i64 P.tb,.int .i64 P.da,.int .i64 P.dc] 3 (0,0)))∧Hid (Frm NoB w wr)) (fun _ _ _ t25 _=>7-(intOf t25).toNat)
  case atStart=>exact ⟨0,g,0,512,by omega,rfl,rfl,HB3,HN3,HF3⟩
  case round=>
    clear HB3 HN3 HF3
    obtain ⟨k,gg,oo,cc,hk,rfl,rfl,HB,HN,HF⟩:=hrel
    have k0:(0:Int)≤(k:Int):=Int.natCast_nonneg _
    have hlen:=encN_len P.num k hk
    by_cases hk7:k<7
    · have k7:(k:Int)<7:=by omega
      have ca:wr.cell? ⟨ga,k,none⟩=some (.int .i64 (P.num k)):=by
        refine (cell_of_block HN.out).trans ?_
        rcases (by omega:k=0∨k=1∨k=2∨k=3∨k=4∨k=5∨k=6) with rfl | rfl | rfl | rfl | rfl | rfl | rfl<;>rfl
      have hnk:=HNUM.out k
      have HPT:=Lib.hid (bitsPut_any wr _ (encN P.num k) (8+4*k) 4 (P.num k) (Fresh w) HB.out (by omega) (by omega) (by rw [hlen];omega) (by rw [hlen];omega) (by omega))
      rw [show ((8+4*k:Nat):Int)=8+4*(k:Int) by omega] at HPT
      have HEN:Hid (encN P.num (k+1)=putLE (encN P.num k) (8+4*k) 4 (P.num k)):=Lib.hid rfl
      have v0:(0:Int)≤(P.num k:Int):=Int.natCast_nonneg _
      have v1:(P.num k:Int)<4294967296:=by omega
      have hln:(putLE (encN P.num k) (8+4*k) 4 (P.num k)).length=512:=(putLE_length _ _ _ _ (by rw [hlen];omega)).trans hlen
      have HLN:=Lib.hid hln
      clear hlen hnk hln
      generalize P.num k=nk at*
      go_wp2_with fail
      refine HPT.out.mono ?_
      clear HPT ca
      rintro e w2 ⟨hf2,v2,rfl,hb2⟩
      obtain ⟨g2,o2,c2,rfl,-,-,-⟩:=hb2.cells
      rw [HLN.out] at hb2 ⊢
      have HB2:Hid (BytesAt w2 (.slice (some ⟨g2,o2,none⟩) 512 c2) (encN P.num (k+1)) (Fresh w)):=Lib.hid (by
        rw [HEN.out]
        exact hb2.mono fun x _ hx=>Nat.le_trans HF.out.size hx)
      have HN2:=Lib.hid ((hf2.block ga (lt_of_block HN.out) (fun e=>e)).trans HN.out)
      have HF2:=Lib.hid (HF.out.trans hf2 fun _ _ e=>e)
      clear hf2 hb2 HB HN HF
      go_wp2_with fail
      exact ⟨⟨k+1,g2,o2,c2,hk7,by go_num,rfl,HB2,HN2,HF2⟩,by simp [intOf];omega⟩
    · obtain rfl:k=7:=by omega
      have h36:((encN P.num 7).take 36).length=36:=by rw [List.length_take,hlen];rfl
      have hsl:SliceOf wr (.slice (some ⟨gg,oo,none⟩) 36 cc) ((encN P.num 7).take 36):=by
        obtain ⟨blk,off,cap,e,-,hc,-⟩:=HB.out.cells
        cases e
        refine ⟨_,cc,by rw [h36],fun i x hx=>⟨gg,oo,rfl,?_,?_⟩⟩
        · obtain ⟨_,_,_,_,e2,_,h3,_⟩:=HB.out
          cases e2
          exact h3.lt
        · rw [List.getElem?_take] at hx
          split at hx
          · have:=hc i (B8 x) (by rw [List.getElem?_map,hx];rfl)
            rw [show ((⟨gg,oo,none⟩:Addr).add i)=⟨gg,oo+i,none⟩ by
              unfold Addr.add
              split
              · rename_i h0;subst h0;rfl
              · rfl] at this
            exact this
          · cases hx
      have HCR:=Lib.hid (crc_Sum wr _ _ hsl (by rw [h36];omega))
      have hcs:=HCS.out
      have HPT:=Lib.hid (bitsPut_any wr _ (encN P.num 7) 36 4 (crcS ((encN P.num 7).take 36)) (Fresh w) HB.out (by omega) (by omega) (by rw [hlen];omega) (by rw [hlen];omega) (by omega))
      have hln:(putLE (encN P.num 7) 36 4 (crcS ((encN P.num 7).take 36))).length=512:=(putLE_length _ _ _ _ (by rw [hlen];omega)).trans hlen
      rw [←HEP.out] at HPT hln
      have HLN:=Lib.hid hln
      have v0:(0:Int)≤(crcS ((encN P.num 7).take 36):Int):=Int.natCast_nonneg _
      have v1:(crcS ((encN P.num 7).take 36):Int)<4294967296:=by omega
      have hcap:512≤cc:=by
        obtain ⟨_,_,_,_,e2,h2,_⟩:=HB.out
        cases e2
        rw [hlen] at h2
        exact h2
      have hcap2:(36:Int)≤(cc:Int):=by omega
      clear h36 hsl hlen hln hcs HEP HCS hcap
      generalize crcS ((encN P.num 7).take 36)=cr at*
      go_wp2_with fail
      refine HCR.out.mono ?_
      rintro e w1 ⟨rfl,rfl⟩
      go_wp2_with fail
      refine HPT.out.mono ?_
      clear HPT HCR
      rintro e w2 ⟨hf2,v2,rfl,hb2⟩
      obtain ⟨g2,o2,c2,rfl,-,-,-⟩:=hb2.cells
      rw [HLN.out] at hb2 ⊢
      have HB2:=Lib.hid (hb2.mono (R':=Fresh w) fun x _ hx=>Nat.le_trans HF.out.size hx)
      have HF2:=Lib.hid (HF.out.trans hf2 fun _ _ e=>e)
      clear hf2 hb2 HB HN HF
      go_wp2_with fail
      go_ret
      exact ⟨g2,o2,c2,rfl,HB2.out,HF2.out⟩
theorem SliceOf.conv {w:World} {v:Value} {b:Blk} (h:SliceOf w v b) (hb:b≠ []):(convert 76 9 v).run Tryz.prog w= .ok (.string ⟨b.toArray⟩) w:=by
  obtain ⟨a,cap,rfl,hc⟩:=h
  have h0:0<b.length:=List.length_pos_iff.2 hb
  obtain ⟨g,o,rfl,_,_⟩:=hc 0 b[0] (List.getElem?_eq_getElem h0)
  refine run_convert_bytes_back w _ _ 5 ⟨g,o,none⟩ cap b Tryz.underlying76 Tryz.underlying5 Tryz.underlying9 fun j hj=>?_
  obtain ⟨g',o',e,_,hcell⟩:=hc j b[j] (List.getElem?_eq_getElem hj)
  cases e
  rw [show ((⟨g,o,none⟩:Addr).add j)=⟨g,o+j,none⟩ by
    unfold Addr.add
    split
    · rename_i h0;subst h0;rfl
    · rfl]
  exact hcell
theorem y_Equal (w:World) (v1 v2:Value) (b1 b2:Blk) (h1:SliceOf w v1 b1) (h2:SliceOf w v2 b2) (n1:b1≠ []) (n2:b2≠ []):
    Calls Tryz.prog 125 #[v1,v2] w fun e w'=>w=w'∧e= .returned (.bool (b1==b2)):=by
  have c1:=h1.conv n1
  have c2:=h2.conv n2
  have e1:(⟨b1.toArray⟩:ByteArray).toList=b1:=by rw [Go.Lib.toList_data]
  have e2:(⟨b2.toArray⟩:ByteArray).toList=b2:=by rw [Go.Lib.toList_data]
  have HE:=Lib.hid (And.intro e1 e2)
  clear h1 h2 n1 n2 e1 e2
  go_enter Tryz.func125,Tryz.ntmps125
  go_wp2_with fail
  go_ret
  exact ⟨rfl,rfl⟩
theorem encN_get (f:Nat→Nat) (hf: ∀k,f k<4294967296): ∀k j,j<k→k≤7→getLE (encN f k) (8+4*j) 4=f j
  | 0,j,h,_=>by omega
  | k+1,j,h,hk=>by
    have hl:=encN_len f k (by omega)
    show getLE (putLE (encN f k) (8+4*k) 4 (f k)) (8+4*j) 4=f j
    by_cases e:j=k
    · subst e
      exact getLE_putLE_same _ _ 4 _ (by rw [hl];omega) (by have:=hf j;omega)
    · rw [getLE_putLE_other _ _ _ _ _ _ (by rw [hl];omega) (by omega)]
      exact encN_get f hf k j (by omega) (by omega)
theorem encP_get {P:Pl} (h:PlOk P) (j:Nat) (hj:j<7):getLE (encP P) (8+4*j) 4=P.num j:=by
  unfold encP
  rw [getLE_putLE_other _ _ _ _ _ _ (by rw [encN_len P.num 7 (Nat.le_refl _)];omega) (by omega)]
  exact encN_get P.num h.num 7 j hj (Nat.le_refl _)
set_option maxHeartbeats 2000000 in
set_option maxRecDepth 100000 in
theorem l_Decode (w:World) (v:Value) (n ni:Nat) (hf:PlanFit n ni) {R:Nat→Prop} (hv:BytesAt w v (encP (planOf n ni)) R):
    Calls Tryz.prog 65 #[v] w fun e w'=>e= .returned (.tuple #[.agg (plC (planOf n ni)),.int .i64 0])∧Frm NoB w w':=by
  have hok:=hf.ok
  have hlen:=encP_len (planOf n ni)
  have KG:Hid (∀y,Frm NoB w y→Calls Tryz.prog 147 #[v,.int .i64 8,.int .i64 4,.bool false] y fun e w'=>y=w'∧e= .returned (.tuple #[.int .u64 n,.bool true])):=Lib.hid fun y hy=>by
    have:=bitsGet_any y v _ 8 4 (hv.frm0 hy).sliceOf (by omega) (by omega) (by rw [hlen];omega) (by rw [hlen];omega)
    rw [encP_get hok 0 (by omega)] at this
    exact this
  have KG2:Hid (∀y,Frm NoB w y→Calls Tryz.prog 147 #[v,.int .i64 12,.int .i64 4,.bool false] y fun e w'=>y=w'∧e= .returned (.tuple #[.int .u64 ni,.bool true])):=Lib.hid fun y hy=>by
    have:=bitsGet_any y v _ 12 4 (hv.frm0 hy).sliceOf (by omega) (by omega) (by rw [hlen];omega) (by rw [hlen];omega)
    rw [encP_get hok 1 (by omega)] at this
    exact this
  have KM:Hid (∀y,Calls Tryz.prog 88 #[.int .i64 n,.int .i64 ni] y fun e w'=>e= .returned (.tuple #[.agg (plC (planOf n ni)),.int .i64 0])∧Frm NoB y w'):=Lib.hid fun y=>l_Make y n ni hf
  have KE:Hid (∀y,Calls Tryz.prog 93 #[.agg (plC (planOf n ni))] y fun e w'=> ∃g o c,e= .returned (.slice (some ⟨g,o,none⟩) 512 c)∧BytesAt w' (.slice (some ⟨g,o,none⟩) 512 c) (encP (planOf n ni)) (Fresh y)∧Frm NoB y w'):=Lib.hid fun y=>l_Encode y _ hok
  have KQ:Hid (∀y v1 R',Frm NoB w y→BytesAt y v1 (encP (planOf n ni)) R'→Calls Tryz.prog 125 #[v1,v] y fun e w'=>y=w'∧e= .returned (.bool true)):=Lib.hid fun y v1 R' hy h1=>by
    have hne:encP (planOf n ni)≠ []:=fun e=>by rw [e] at hlen;exact absurd hlen (by decide)
    have:=y_Equal y v1 v _ _ h1.sliceOf (hv.frm0 hy).sliceOf hne hne
    rw [beq_self_eq_true] at this
    exact this
  obtain ⟨p1,p2,p3,p4,p5,p6,p7,hpl⟩: ∃p1 p2 p3 p4 p5 p6 p7:Int,plC (planOf n ni)=plz p1 p2 p3 p4 p5 p6 p7:=⟨_,_,_,_,_,_,_,rfl⟩
  obtain ⟨va,vl,vc,hvv⟩: ∃va vl vc,v= .slice va vl vc:=by
    obtain ⟨_,_,_,_,e,_⟩:=hv
    exact ⟨_,_,_,e⟩
  have n0:(0:Int)≤(n:Int):=Int.natCast_nonneg _
  have n1:(n:Int)≤65536:=by have:=hok.n;have:(planOf n ni).n=n:=rfl;omega
  have i0:(0:Int)≤(ni:Int):=Int.natCast_nonneg _
  have i1:(ni:Int)≤4096:=by have:=hf.h1;omega
  clear hf hv hok hlen
  rw [hpl] at KM KE ⊢
  generalize encP (planOf n ni)=ep at*
  clear hpl
  subst hvv
  have hf0:=(Frm.refl NoB w).alloc (.cells (plz 0 0 0 0 0 0 0) 135 (0,0))
  have hb0:=block_alloc_new w (.cells (plz 0 0 0 0 0 0 0) 135 (0,0))
  obtain ⟨y0,hy0⟩: ∃y0,w.alloc (.cells (plz 0 0 0 0 0 0 0) 135 (0,0))=y0:=⟨_,rfl⟩
  obtain ⟨b2,hb2⟩: ∃b2,w.heap.size=b2:=⟨_,rfl⟩
  rw [hy0] at hf0 hb0
  rw [hb2] at hb0
  have HF0:=Lib.hid hf0
  have HB0:=Lib.hid hb0
  have HY0:=Lib.hid (And.intro hy0 hb2)
  clear hf0 hb0 hy0 hb2
  go_enter Tryz.func65,Tryz.ntmps65
  go_upto_region 1 with (refine allocRow rfl _ _ zeroPln rfl ?_)
  rw [HY0.out.1,HY0.out.2]
  go_wp2_with fail
  refine (KG.out y0 HF0.out).mono ?_
  rintro e w1 ⟨rfl,rfl⟩
  go_wp2_with fail
  refine (KG2.out y0 HF0.out).mono ?_
  rintro e w2 ⟨rfl,rfl⟩
  go_wp2_with fail
  refine (KM.out y0).mono ?_
  clear KG KG2 KM
  rintro e w3 ⟨rfl,hf3⟩
  have hn3:=block_alloc_new w3 (.cells (plz 0 0 0 0 0 0 0) 135 (0,0))
  have HN3:=Lib.hid hn3
  have HR3:=Lib.hid (setRow_heap _ _ _ (plz p1 p2 p3 p4 p5 p6 p7) _ _ hn3)
  have hf4:Frm NoB w3 ((w3.alloc (.cells (plz 0 0 0 0 0 0 0) 135 (0,0))).setRow w3.heap.size (plz p1 p2 p3 p4 p5 p6 p7)):=((Frm.refl NoB w3).alloc _).setRowNew (Nat.le_refl _) _
  have HF4:=Lib.hid ((HF0.out.trans hf3 fun _ _ e=>e).trans hf4 fun _ _ e=>e)
  have HB4:=Lib.hid (((hf3.trans hf4 fun _ _ e=>e).block b2 (lt_of_block HB0.out) (fun e=>e)).trans HB0.out)
  clear hf3 hf4 hn3
  go_upto_region 4 with (first | (refine allocRow rfl _ _ zeroPln rfl ?_) | (refine storePln rfl _ _ rfl w3.heap.size p1 p2 p3 p4 p5 p6 p7 rfl rfl _ rfl HN3.out ?_))
  show Code.wp Tryz.prog _ _ _ ((w3.alloc (.cells (plz 0 0 0 0 0 0 0) 135 (0,0))).setRow w3.heap.size (plz p1 p2 p3 p4 p5 p6 p7))
  obtain ⟨y4,hy4⟩: ∃y4,(w3.alloc (.cells (plz 0 0 0 0 0 0 0) 135 (0,0))).setRow w3.heap.size (plz p1 p2 p3 p4 p5 p6 p7)=y4:=⟨_,rfl⟩
  rw [hy4] at HR3 HF4 HB4 ⊢
  clear hy4 HN3
  obtain ⟨g8,hg8⟩: ∃g8,w3.heap.size=g8:=⟨_,rfl⟩
  rw [hg8] at HR3 ⊢
  clear hg8
  go_wp2_with (refine loadPln rfl _ rfl g8 rfl p1 p2 p3 p4 p5 p6 p7 HR3.out ?_)
  refine (KE.out y4).mono ?_
  clear KE
  rintro e w5 ⟨g5,o5,c5,rfl,hb5,hf5⟩
  have HQ:=Lib.hid (KQ.out w5 _ _ (HF4.out.trans hf5 fun _ _ e=>e) hb5)
  have HR5:=Lib.hid ((hf5.block g8 (lt_of_block HR3.out) (fun e=>e)).trans HR3.out)
  have HB5:=Lib.hid ((hf5.block b2 (lt_of_block HB4.out) (fun e=>e)).trans HB4.out)
  have HF5:=Lib.hid (HF4.out.trans hf5 fun _ _ e=>e)
  clear hf5 hb5 KQ HR3 HB4 HF4
  go_wp2_with fail
  refine HQ.out.mono ?_
  clear HQ
  rintro e w6 ⟨rfl,rfl⟩
  have HE:=Lib.hid (setRow_heap _ _ _ (plz p1 p2 p3 p4 p5 p6 p7) _ _ HB5.out)
  have HFE:=Lib.hid (HF5.out.setRowNew (g:=b2) (by rw [←HY0.out.2];exact Nat.le_refl _) (plz p1 p2 p3 p4 p5 p6 p7))
  go_wp2_with (first | (refine loadPln rfl _ rfl g8 rfl p1 p2 p3 p4 p5 p6 p7 HR5.out ?_) | (refine storePln rfl _ _ rfl b2 p1 p2 p3 p4 p5 p6 p7 rfl rfl _ rfl HB5.out ?_))
  have hld:=run_loadVar_row (P:=Tryz.prog) _ b2 135 135 (plz p1 p2 p3 p4 p5 p6 p7) (0,0) _ HE.out Tryz.underlying135 rfl (infoPln _ _ _ _ _ _ _)
  exact bodyPost_ret (v:= .tuple #[.agg (plz p1 p2 p3 p4 p5 p6 p7),.int .i64 0]) (results_ct Tryz.results65 _ _ ⟨b2,0,none⟩ rfl _ hld) rfl ⟨rfl,HFE.out⟩
end
section
open Go.ChangeMaps Go.MapKept Go.RowKit
variable {w0:Gnd} {w:World} {rs:List Res}
theorem a_New (h:St w0 w rs) (cb:Nat) (P:Pl):Calls Tryz.prog 149 #[.pointer (some ⟨cb,0,none⟩),.agg (plC P)] w fun e w'=> ∃ab,e= .returned (.pointer (some ⟨ab,0,none⟩))∧St w0 w' (arr ab (Value.pointer (some ⟨cb,0,none⟩)::P.cells).toArray 266 neAl::rs):=by
  have H1:=Lib.hid (((h.newArr (plC P) 135 nePln).newArr (Value.pointer (some ⟨cb,0,none⟩)::P.cells).toArray 266 neAl).sub (rs':=_::rs) (List.Sublist.cons_cons _ (List.Sublist.cons _ (List.Sublist.refl _))))
  simp only [size_alloc] at H1
  have hP:plC P= #[.int .i64 P.n,.int .i64 P.ni,.int .i64 P.im,.int .i64 P.bm,.int .i64 P.tb,.int .i64 P.da,.int .i64 P.dc]:=rfl
  rw [hP]
  clear h hP
  go_enter Tryz.func149,Tryz.ntmps149
  go_wp2_with fail
  go_ret
  exact ⟨_,rfl,H1.out⟩
theorem i_New (h:St w0 w rs) (cb ab:Nat) (P:Pl):Calls Tryz.prog 150 #[.pointer (some ⟨cb,0,none⟩),.pointer (some ⟨ab,0,none⟩),.agg (plC P)] w fun e w'=> ∃sb,e= .returned (.pointer (some ⟨sb,0,none⟩))∧St w0 w' (arr sb (Value.pointer (some ⟨cb,0,none⟩)::Value.pointer (some ⟨ab,0,none⟩)::P.cells).toArray 291 neSto::rs):=by
  have H1:=Lib.hid (((h.newArr (plC P) 135 nePln).newArr (Value.pointer (some ⟨cb,0,none⟩)::Value.pointer (some ⟨ab,0,none⟩)::P.cells).toArray 291 neSto).sub (rs':=_::rs) (List.Sublist.cons_cons _ (List.Sublist.cons _ (List.Sublist.refl _))))
  simp only [size_alloc] at H1
  have hP:plC P= #[.int .i64 P.n,.int .i64 P.ni,.int .i64 P.im,.int .i64 P.bm,.int .i64 P.tb,.int .i64 P.da,.int .i64 P.dc]:=rfl
  rw [hP]
  clear h hP
  go_enter Tryz.func150,Tryz.ntmps150
  go_wp2_with fail
  go_ret
  exact ⟨_,rfl,H1.out⟩
theorem St.pickA {L L':List Res} (h:St w0 w (L++rs)) (is:List Nat) (hn:is.Nodup) (hr:is.map (L[·]?)=L'.map some):St w0 w (L'++rs):=by
  have h1:=h.perm List.perm_append_comm
  have h2:=St.shut rs h1
  have h3:=h2.pick (0::is.map (· +1)) (bun rs::L') (List.nodup_cons.2 ⟨by simp,(List.pairwise_map.2 (hn.imp fun hab e=>hab (by omega)))⟩) (by
    rw [List.map_cons,List.map_cons,List.map_map]
    congr 1)
  exact h3.unshut.perm List.perm_append_comm
def sysOf (H:Hdl) (jh:JHdl) (J:JSt) (D:DSt) (cb wb ab sb:Nat) (s:Nat→Blk) (n m:Nat) (P:Pl):Sys:=
  { H:=H,jh:=jh,J:=J,D:=D,cb:=cb,wb:=wb,op:=false,ov:=false,l:= [],s:=s,n:=n,g:=1,m:=m,ab:=ab,sb:=sb,P:=P }
set_option maxHeartbeats 1000000 in
set_option maxRecDepth 100000 in
theorem f_stand {H:Hdl} {jh:JHdl} {J:JSt} {D:DSt} (h:St w0 w (jrn H jh J::dev H D::rs)) {n m:Nat} {s:Nat→Blk} {P:Pl} (hl:Live n 1 m J D s) (hP:PlOk P) (hn:P.n=n) (hm:m≤1000000) (ho:D.ops≤1000+123*m):
    Calls Tryz.prog 67 #[.pointer (some ⟨jh.jb,0,none⟩),.agg (plC P)] w fun e w'=> ∃fb lb cb wb ab sb,e= .returned (.pointer (some ⟨fb,0,none⟩))∧At w0 w' (sysOf H jh J D cb wb ab sb s n m P) (fsS ⟨fb,lb,false,false,false⟩ (sysOf H jh J D cb wb ab sb s n m P)::fsL ⟨fb,lb,false,false,false⟩ 0 (fun _=>none)::rs):=by
  have h1:=h.newArr (plC P) 135 nePln
  have HC:=Lib.hid (S_cNew h1 jh.jb)
  have KA:Hid (∀y cb rs',St w0 y rs'→Calls Tryz.prog 149 #[.pointer (some ⟨cb,0,none⟩),.agg (plC P)] y fun e w'=> ∃ab,e= .returned (.pointer (some ⟨ab,0,none⟩))∧St w0 w' (arr ab (Value.pointer (some ⟨cb,0,none⟩)::P.cells).toArray 266 neAl::rs')):=Lib.hid fun y cb rs' hy=>a_New hy cb P
  have KI:Hid (∀y cb ab rs',St w0 y rs'→Calls Tryz.prog 150 #[.pointer (some ⟨cb,0,none⟩),.pointer (some ⟨ab,0,none⟩),.agg (plC P)] y fun e w'=> ∃sb,e= .returned (.pointer (some ⟨sb,0,none⟩))∧St w0 w' (arr sb (Value.pointer (some ⟨cb,0,none⟩)::Value.pointer (some ⟨ab,0,none⟩)::P.cells).toArray 291 neSto::rs')):=Lib.hid fun y cb ab rs' hy=>i_New hy cb ab P
  have hmk: ∀W,(Instr.makeMap 106 none).run Tryz.prog W= .ok (.map (some W.heap.size)) (W.alloc (.map #[] 0)):=fun W=>rfl
  have HOK:Hid (∀cb wb ab sb,SysOk (sysOf H jh J D cb wb ab sb s n m P)):=Lib.hid fun cb wb ab sb=>⟨hl,COk.nil _,hP,hn,by show 1≤1000000;omega,hm,ho⟩
  clear h hl hP hn hm ho h1
  obtain ⟨p1,p2,p3,p4,p5,p6,p7,hpl⟩: ∃p1 p2 p3 p4 p5 p6 p7:Int,plC P=plz p1 p2 p3 p4 p5 p6 p7:=⟨_,_,_,_,_,_,_,rfl⟩
  rw [hpl] at HC KA KI ⊢
  go_enter Tryz.func67,Tryz.ntmps67
  go_wp2_with fail
  refine HC.out.mono ?_
  clear HC
  rintro e w1 ⟨cb,wb,rfl,h1⟩
  have HB1:=Lib.hid (show w1.heap[w.heap.size]?=some (.cells (plz p1 p2 p3 p4 p5 p6 p7) 135 (0,0)) from h1.get (i:=2) rfl)
  have HA:=Lib.hid (KA.out w1 cb _ h1)
  clear h1 KA
  generalize w.heap.size=b3 at*
  go_wp2_with (refine loadPln rfl _ rfl b3 rfl p1 p2 p3 p4 p5 p6 p7 HB1.out ?_)
  refine HA.out.mono ?_
  clear HA HB1
  rintro e w2 ⟨ab,rfl,h2⟩
  have HB2:=Lib.hid (show w2.heap[b3]?=some (.cells (plz p1 p2 p3 p4 p5 p6 p7) 135 (0,0)) from h2.get (i:=3) rfl)
  have HI:=Lib.hid (KI.out w2 cb ab _ h2)
  clear h2 KI
  go_wp2_with (refine loadPln rfl _ rfl b3 rfl p1 p2 p3 p4 p5 p6 p7 HB2.out ?_)
  refine HI.out.mono ?_
  clear HI HB2
  rintro e w3 ⟨sb,rfl,h3⟩
  have h4:=(h3.mapNew LeadK okL).newArr (fsC ⟨0,w3.heap.size,false,false,false⟩ (sysOf H jh J D cb wb ab sb s n m P)) 108 neFS
  have H5:Hid (At w0 ((w3.alloc (.map #[] 0)).alloc (.cells #[.pointer (some ⟨cb,0,none⟩),.pointer (some ⟨ab,0,none⟩),.pointer (some ⟨sb,0,none⟩),.bool false,.bool false,.bool false,.map (some w3.heap.size)] 108 (0,0))) (sysOf H jh J D cb wb ab sb s n m P) (fsS ⟨w3.heap.size+1,w3.heap.size,false,false,false⟩ (sysOf H jh J D cb wb ab sb s n m P)::fsL ⟨w3.heap.size+1,w3.heap.size,false,false,false⟩ 0 (fun _=>none)::rs)):=Lib.hid ⟨St.shut (sysOf H jh J D cb wb ab sb s n m P).all (by
    simp only [size_alloc] at h4
    exact St.pickA (L:= [_,_,_,_,_,_,_,_,_]) (L':= [_,_,_,_,_,_,_,_]) h4 [4,5,7,8,3,2,0,1] (by decide) rfl),HOK.out cb wb ab sb⟩
  clear h3 h4 HOK
  go_wp2_with fail
  go_ret
  exact ⟨w3.heap.size+1,w3.heap.size,cb,wb,ab,sb,rfl,H5.out⟩
end
section
open Go.ChangeMaps Go.MapKept Go.RowKit
theorem entAFmt1:EntersF Tryz.prog 182:=entersF_of Tryz.func182 (by kernel_rfl) rfl
def oneA:Blk:=1::List.replicate 511 0
theorem set_same {α:Type}: ∀(l:List α) (i:Nat) (a:α),l[i]?=some a→l.set i a=l
  | [],_,_,h=>by cases h
  | x::l,0,a,h=>by cases h;rfl
  | x::l,i+1,a,h=>by rw [List.set_cons_succ,set_same l i a h]
theorem oneA_at (w:World) (g:Nat) (R:Nat→Prop) (hg:w.heap[g]?=some (.cells ((madeCells #[.int .u8 0] 512).setIfInBounds 0 (.int .u8 1)) 5 (0,0))) (hR:R g):BytesAt w (.slice (some ⟨g,0,none⟩) 512 512) oneA R:=by
  have hl:oneA.length=512:=by unfold oneA;rw [List.length_cons,List.length_replicate]
  refine ⟨g,0,512,_,by rw [hl],by rw [hl];exact Nat.le_refl _,IsC.of8 hg,fun i hi=>?_,hR⟩
  rw [hl] at hi
  rw [Nat.zero_add,←Array.getElem?_toList,Array.toList_setIfInBounds,madeCells_one]
  cases i with
  | zero=>rfl
  | succ i=>
    unfold oneA
    rw [List.getElem?_set_ne (by omega),List.getElem?_replicate,if_pos hi,List.getD_eq_getElem?_getD,List.getElem?_cons_succ,List.getElem?_replicate,if_pos (by omega)]
    rfl
end
section
open Go.ChangeMaps Go.MapKept Go.RowKit
variable {w0:Gnd} {w:World} {rs:List Res} {X:Sys}
set_option maxHeartbeats 1000000 in
set_option maxRecDepth 100000 in
theorem a_Format1 (h:At w0 w X rs) (hop:X.op=true) (fi many:Nat) (hf:245≤fi) (hfn:fi<X.n) (hr:X.l.length<60) {ia ie im ba be bm:Nat} (b1:rs[im]?=some (arr bm #[.int .i64 fi,.int .i64 many] 186 neAr)) (b2:rs[ia]?=some (arr ba #[.pointer (some ⟨X.ab,0,none⟩)] 104 neApt)) (b3:rs[ie]?=some (arr be #[.int .i64 0] 32 neErn))
    {blk:Blk} (hc:(fi=X.P.im∧many=X.P.ni∧blk=oneA)∨(fi≠X.P.im∧blk=zeros)):
    Calls Tryz.prog 182 #[.int .i64 fi,.int .i64 0,.int .i64 many,.pointer (some ⟨bm,0,none⟩),.pointer (some ⟨ba,0,none⟩),.pointer (some ⟨be,0,none⟩)] w fun e w'=>e= .returned (.bool true)∧At w0 w' (X.put fi blk) rs:=by
  have hmk: ∀W,(Instr.makeSlice 76 (.int .i64 512) (.int .i64 512)).run Tryz.prog W= .ok (.slice (some ⟨W.heap.size,0,none⟩) 512 512) (W.alloc (.cells (madeCells #[.int .u8 0] 512) 5 (0,0))):=run_makeN 512 (by omega)
  have hn0:=nought_at w 512
  have hn1:=block_alloc_new w (.cells (madeCells #[.int .u8 0] 512) 5 (0,0))
  have hf0:=(Frm.refl NoB w).alloc (.cells (madeCells #[.int .u8 0] 512) 5 (0,0))
  obtain ⟨y0,hy0⟩: ∃y0,w.alloc (.cells (madeCells #[.int .u8 0] 512) 5 (0,0))=y0:=⟨_,rfl⟩
  obtain ⟨g,hg⟩: ∃g,w.heap.size=g:=⟨_,rfl⟩
  rw [hy0] at hn0 hn1 hf0
  have H0:=Lib.hid (h.frm hf0)
  have HG:=Lib.hid (And.intro hy0 hg)
  have KC:Hid (∀y,At w0 y X rs→y.cell? ⟨bm,0,none⟩=some (.int .i64 fi)∧y.cell? ⟨bm,1,none⟩=some (.int .i64 many)∧y.cell? ⟨ba,0,none⟩=some (.pointer (some ⟨X.ab,0,none⟩))):=Lib.hid fun y hy=>
    ⟨(hy.arrCell b1 0).trans rfl,(hy.arrCell b1 1).trans rfl,(hy.arrCell b2 0).trans rfl⟩
  have KI:Hid (∀y,At w0 y X rs→Calls Tryz.prog 114 #[.pointer (some ⟨X.ab,0,none⟩)] y fun e w'=>e= .returned (.agg #[.int .i64 X.P.im,.int .i64 X.P.ni])∧Frm NoB y w'):=Lib.hid fun y hy=>a_inodes hy
  rw [hg] at hn0 hn1
  have HN0:=Lib.hid hn0
  have HN1:=Lib.hid hn1
  have HF0:=Lib.hid hf0
  clear hn0 hn1 hf0 hy0 hg
  have HGL:Hid (w.heap.size≤g):=Lib.hid (by rw [HG.out.2];exact Nat.le_refl _)
  have HH:=Lib.hid h
  have KE:Hid (∀y {Y:Sys},At w0 y Y rs→y.cell? ⟨be,0,none⟩=some (.int .i64 0)∧y.frozen? ⟨be,0,none⟩=false):=Lib.hid fun y {Y} hy=>⟨(hy.arrCell b3 0).trans rfl,hy.arrFree b3 0⟩
  have KF:Hid (∀y Y,At w0 y Y rs→At w0 (y.setCell ⟨be,0,none⟩ (.int .i64 0)) Y rs):=Lib.hid fun y Y hy=>by
    have hx:At w0 (y.setCell ⟨be,0,none⟩ (.int .i64 0)) Y (rs.set ie (arr be #[.int .i64 0] 32 neErn)):=hy.setArr ie b3 0 (.int .i64 0)
    rw [set_same rs ie _ b3] at hx
    exact hx
  have KW:Hid (∀y v d,d.length=512→At w0 y X (byt v d::rs)→Calls Tryz.prog 92 #[.pointer (some ⟨X.cb,0,none⟩),.int .i64 fi,v] y fun e w'=>e= .returned (.int .i64 0)∧At w0 w' (X.put fi d) (byt v d::rs)):=Lib.hid fun y v d hd hy=>x_Write hy hop fi 0 hf hfn rfl hd (.inr hr)
  obtain ⟨pim,hpim⟩: ∃pim,X.P.im=pim:=⟨_,rfl⟩
  obtain ⟨pni,hpni⟩: ∃pni,X.P.ni=pni:=⟨_,rfl⟩
  rw [hpim,hpni] at hc
  rw [hpim,hpni] at KI
  rcases hc with ⟨rfl,rfl,rfl⟩ | ⟨hne,rfl⟩
  · clear h hop hf hfn hr b1 b2 b3 hpim hpni
    go_enter Tryz.func182,Tryz.ntmps182
    go_upto_region 2 with fail
    rw [HG.out.1,HG.out.2]
    have H0d:=Lib.hid (H0.out.frm (Frm.refl NoB y0).drew)
    obtain ⟨k0,k1,k2⟩:=KC.out _ H0.out
    go_region_held3 (fun y=>y.cell? ⟨bm,0,none⟩=some (.int .i64 fi)∧y.cell? ⟨bm,1,none⟩=some (.int .i64 many)∧y.cell? ⟨ba,0,none⟩=some (.pointer (some ⟨X.ab,0,none⟩)))
      (first | exact KC.out _ H0.out | exact KC.out _ H0d.out | exact KC.out _ (H0d.out.frm hf4))
      (first
        | (go_at_call 114;(with_reducible refine (KI.out _ H0d.out).mono ?_);rintro e w4 ⟨rfl,hf4⟩))
    have hb4:=(hf4.block g (lt_of_block HN1.out) (fun e=>e)).trans HN1.out
    have k4:=KC.out _ (H0d.out.frm hf4)
    have ke:(w4.setCell ⟨g,0,none⟩ (.int .u8 1)).cell? ⟨be,0,none⟩=some (.int .i64 0):=(KE.out _ (HH.out.frm (((HF0.out.drew.trans hf4 fun _ _ e=>e)).setCell (p:=⟨g,0,none⟩) (.inr HGL.out) _))).1
    have c0:w4.cell? ⟨g,0,none⟩=some (.int .u8 0):=(cell_of_block hb4).trans (by rw [←Array.getElem?_toList,madeCells_one];rfl)
    have f0:w4.frozen? ⟨g,0,none⟩=false:=frozen_of_block hb4
    have hb5:=oneA_at (w4.setCell ⟨g,0,none⟩ (.int .u8 1)) g (Fresh w) (block_setCell_same (i:=0) (.int .u8 1) hb4) HGL.out
    have hf5:Frm NoB w (w4.setCell ⟨g,0,none⟩ (.int .u8 1)):=(HF0.out.drew.trans hf4 fun _ _ e=>e).setCell (p:=⟨g,0,none⟩) (.inr HGL.out) _
    have HA5:=Lib.hid (HH.out.mkByt hf5 hb5)
    have HW:=Lib.hid (KW.out _ _ _ (by unfold oneA;rw [List.length_cons,List.length_replicate]) HA5.out)
    have ka:(w4.setCell ⟨g,0,none⟩ (.int .u8 1)).cell? ⟨ba,0,none⟩=some (.pointer (some ⟨X.ab,0,none⟩)):=(KC.out _ (HA5.out.drop 1)).2.2
    have kb:(w4.setCell ⟨g,0,none⟩ (.int .u8 1)).cell? ⟨X.ab,0,none⟩=some (.pointer (some ⟨X.cb,0,none⟩)):=HA5.out.alCells.1
    clear hb4 hb5 hf5 hf4 k4 k0 k1 k2 H0 H0d KI HA5
    go_wp2_with fail
    refine HW.out.mono ?_
    clear HW ke c0 f0 ka kb
    rintro e w6 ⟨rfl,h6⟩
    have e1:w6.cell? ⟨be,0,none⟩=some (.int .i64 0):=(KE.out _ (h6.drop 1)).1
    have e2:w6.frozen? ⟨be,0,none⟩=false:=(KE.out _ (h6.drop 1)).2
    have H7:=Lib.hid (KF.out _ _ (h6.drop 1))
    have e3:(w6.setCell ⟨be,0,none⟩ (.int .i64 0)).cell? ⟨be,0,none⟩=some (.int .i64 0):=(KE.out _ H7.out).1
    clear h6
    go_wp2_with fail
    go_ret
    exact ⟨rfl,H7.out⟩
  · have hne: ¬(fi:Int)=(pim:Int):=by omega
    clear h hop hf hfn hr b1 b2 b3 hpim hpni
    go_enter Tryz.func182,Tryz.ntmps182
    go_upto_region 2 with fail
    rw [HG.out.1,HG.out.2]
    have H0d:=Lib.hid (H0.out.frm (Frm.refl NoB y0).drew)
    obtain ⟨k0,k1,k2⟩:=KC.out _ H0.out
    go_region_held3 (fun y=>y.cell? ⟨bm,0,none⟩=some (.int .i64 fi)∧y.cell? ⟨bm,1,none⟩=some (.int .i64 many)∧y.cell? ⟨ba,0,none⟩=some (.pointer (some ⟨X.ab,0,none⟩)))
      (first | exact KC.out _ H0.out | exact KC.out _ H0d.out | exact KC.out _ (H0d.out.frm hf4))
      (first
        | (go_at_call 114;(with_reducible refine (KI.out _ H0d.out).mono ?_);rintro e w4 ⟨rfl,hf4⟩))
    have k4:=KC.out _ (H0d.out.frm hf4)
    have ke:w4.cell? ⟨be,0,none⟩=some (.int .i64 0):=(KE.out _ (H0d.out.frm hf4)).1
    have HA5:=Lib.hid (HH.out.mkByt (HF0.out.drew.trans hf4 fun _ _ e=>e) ((HN0.out.frm0 (Frm.refl NoB y0).drew).frm0 hf4))
    have HW:=Lib.hid (KW.out _ _ _ (nought_len 512) HA5.out)
    have ka:w4.cell? ⟨ba,0,none⟩=some (.pointer (some ⟨X.ab,0,none⟩)):=k4.2.2
    have kb:w4.cell? ⟨X.ab,0,none⟩=some (.pointer (some ⟨X.cb,0,none⟩)):=HA5.out.alCells.1
    clear hf4 k4 k0 k1 k2 H0 H0d KI HA5
    go_wp2_with fail
    refine HW.out.mono ?_
    clear HW ke ka kb
    rintro e w6 ⟨rfl,h6⟩
    have e1:w6.cell? ⟨be,0,none⟩=some (.int .i64 0):=(KE.out _ (h6.drop 1)).1
    have e2:w6.frozen? ⟨be,0,none⟩=false:=(KE.out _ (h6.drop 1)).2
    have H7:=Lib.hid (KF.out _ _ (h6.drop 1))
    have e3:(w6.setCell ⟨be,0,none⟩ (.int .i64 0)).cell? ⟨be,0,none⟩=some (.int .i64 0):=(KE.out _ H7.out).1
    clear h6
    go_wp2_with fail
    go_ret
    exact ⟨rfl,H7.out⟩
end
section
open Go.ChangeMaps Go.MapKept Go.RowKit
def Sys.fmtd (X:Sys):Sys:=(X.put X.P.im oneA).put X.P.bm zeros
end
section
open Go.ChangeMaps Go.MapKept Go.RowKit
variable {w0:Gnd} {w:World} {rs:List Res} {X:Sys}
theorem a_eachF (h:At w0 w X rs) (hop:X.op=true) (fi many:Nat) (hf:245≤fi) (hfn:fi<X.n) (hr:X.l.length<60) (m1:1≤many) (m2:many≤4096) {ia ie im ba be bm:Nat} (b1:rs[im]?=some (arr bm #[.int .i64 fi,.int .i64 many] 186 neAr)) (b2:rs[ia]?=some (arr ba #[.pointer (some ⟨X.ab,0,none⟩)] 104 neApt)) (b3:rs[ie]?=some (arr be #[.int .i64 0] 32 neErn))
    {blk:Blk} (hc:(fi=X.P.im∧many=X.P.ni∧blk=oneA)∨(fi≠X.P.im∧blk=zeros)):
    Calls Tryz.prog 181 #[.agg #[.int .i64 fi,.int .i64 many],.func (.func 182) #[] #[.pointer (some ⟨bm,0,none⟩),.pointer (some ⟨ba,0,none⟩),.pointer (some ⟨be,0,none⟩)]] w fun e w'=>e= .returned (.tuple #[])∧At w0 w' (X.put fi blk) rs:=by
  have hn:X.n≤65536:=h.2.pn▸h.2.pl.n
  have hb:=h.newArr #[.int .i64 fi,.int .i64 many] 186 neAr
  refine a_each w fi many m1 m2 (by omega) _ _ entAFmt1 ((a_Format1 hb hop fi many hf hfn hr (ia:=ia+1) (ie:=ie+1) (im:=im+1) b1 b2 b3 hc).mono ?_)
  rintro e w' ⟨he,h'⟩
  exact ⟨true,he,(h'.arrCell (i:=0) rfl 1).trans rfl,h'.sub (List.Sublist.cons _ (List.Sublist.refl _))⟩
set_option maxHeartbeats 1000000 in
set_option maxRecDepth 100000 in
theorem a_Format (h:At w0 w X rs) (hop:X.op=true) (hr:X.l.length<59):
    Calls Tryz.prog 94 #[.pointer (some ⟨X.ab,0,none⟩)] w fun e w'=>e= .returned (.int .i64 0)∧At w0 w' X.fmtd rs:=by
  have h1:=h.newArr #[.pointer (some ⟨X.ab,0,none⟩)] 104 neApt
  have HR:=Lib.hid (a_ready h1)
  rw [hop] at HR
  have c0:(w.alloc (.cells #[.pointer (some ⟨X.ab,0,none⟩)] 104 (0,0))).cell? ⟨w.heap.size,0,none⟩=some (.pointer (some ⟨X.ab,0,none⟩)):=(h1.arrCell (i:=0) rfl 0).trans rfl
  have H1:=Lib.hid h1
  have HX:=Lib.hid h.2
  have HOP:=Lib.hid (And.intro hop hr)
  obtain ⟨w1,hw1⟩: ∃w1,w.alloc (.cells #[.pointer (some ⟨X.ab,0,none⟩)] 104 (0,0))=w1:=⟨_,rfl⟩
  obtain ⟨ba,hba⟩: ∃ba,w.heap.size=ba:=⟨_,rfl⟩
  rw [hw1] at H1 HR c0
  rw [hba] at H1 c0
  have HW:=Lib.hid (And.intro hw1 hba)
  clear h hop h1 hw1 hba hr
  go_enter Tryz.func94,Tryz.ntmps94
  go_upto_region 1 with fail
  rw [HW.out.1,HW.out.2]
  clear HW
  go_wp2_with fail
  refine HR.out.mono ?_
  rintro e w1' ⟨rfl,rfl⟩
  clear HR
  go_upto_region 4 with fail
  have h2:=H1.out.newArr #[.int .i64 0] 32 neErn
  obtain ⟨y2,hy2⟩: ∃y2,w1.alloc (.cells #[.int .i64 0] 32 (0,0))=y2:=⟨_,rfl⟩
  obtain ⟨be,hbe⟩: ∃be,w1.heap.size=be:=⟨_,rfl⟩
  rw [hy2,hbe] at h2
  have HW:=Lib.hid (And.intro hy2 hbe)
  have H2:=Lib.hid h2
  clear h2 hy2 hbe H1 c0
  rw [HW.out.1,HW.out.2]
  clear HW
  obtain ⟨im,him⟩: ∃im,X.P.im=im:=⟨_,rfl⟩
  obtain ⟨ni,hni⟩: ∃ni,X.P.ni=ni:=⟨_,rfl⟩
  obtain ⟨bm,hbm⟩: ∃bm,X.P.bm=bm:=⟨_,rfl⟩
  obtain ⟨dc,hdc⟩: ∃dc,X.P.dc=dc:=⟨_,rfl⟩
  have HP:=Lib.hid (And.intro (And.intro him hni) (And.intro hbm hdc))
  have H2d:=Lib.hid (H2.out.frm (Frm.refl NoB y2).drew)
  have KC:Hid (∀y,At w0 y X (arr be #[.int .i64 0] 32 neErn::arr ba #[.pointer (some ⟨X.ab,0,none⟩)] 104 neApt::rs)→y.cell? ⟨ba,0,none⟩=some (.pointer (some ⟨X.ab,0,none⟩))):=Lib.hid fun y hy=>(hy.arrCell (i:=1) rfl 0).trans rfl
  have KI:Hid (∀y rs',At w0 y X rs'→Calls Tryz.prog 114 #[.pointer (some ⟨X.ab,0,none⟩)] y fun e w'=>e= .returned (.agg #[.int .i64 im,.int .i64 ni])∧Frm NoB y w'):=Lib.hid fun y rs' hy=>by rw [←him,←hni];exact a_inodes hy
  have KB:Hid (∀y rs',At w0 y X rs'→Calls Tryz.prog 113 #[.pointer (some ⟨X.ab,0,none⟩)] y fun e w'=>e= .returned (.agg #[.int .i64 bm,.int .i64 dc])∧Frm NoB y w'):=Lib.hid fun y rs' hy=>by rw [←hbm,←hdc];exact a_blocks hy
  clear him hni hbm hdc
  go_region_held3 (fun y=>y.cell? ⟨ba,0,none⟩=some (.pointer (some ⟨X.ab,0,none⟩)))
    (first | exact KC.out _ H2.out | exact KC.out _ H2d.out | exact KC.out _ (H2d.out.frm hf4) | exact KC.out _ ((H2d.out.frm hf4).frm hf5) | exact KC.out _ (((H2d.out.frm hf4).frm hf5).frm ((Frm.refl NoB _).alloc _)))
    (first
      | (go_at_call 114;(with_reducible refine (KI.out _ _ H2d.out).mono ?_);rintro e w4 ⟨rfl,hf4⟩)
      | (go_at_call 113;(with_reducible refine (KB.out _ _ (H2d.out.frm hf4)).mono ?_);rintro e w5 ⟨rfl,hf5⟩))
  have h6:=(((H2d.out.frm hf4).frm hf5).newArr #[.int .i64 im,.int .i64 ni,.int .i64 bm,.int .i64 dc] 186 neAr)
  obtain ⟨y6,hy6⟩: ∃y6,w5.alloc (.cells #[.int .i64 im,.int .i64 ni,.int .i64 bm,.int .i64 dc] 186 (0,0))=y6:=⟨_,rfl⟩
  obtain ⟨b6,hb6⟩: ∃b6,w5.heap.size=b6:=⟨_,rfl⟩
  rw [hy6,hb6] at h6
  have HW:=Lib.hid (And.intro hy6 hb6)
  have H6:=Lib.hid h6
  clear hf4 hf5 h6 hy6 hb6 H2 H2d KI KB KC
  rw [HW.out.1,HW.out.2]
  clear HW
  have KEach:Hid (∀y Y (fi many:Nat) blk bx,At w0 y Y (arr bx #[.int .i64 fi,.int .i64 many] 186 neAr::arr b6 #[.int .i64 im,.int .i64 ni,.int .i64 bm,.int .i64 dc] 186 neAr::arr be #[.int .i64 0] 32 neErn::arr ba #[.pointer (some ⟨X.ab,0,none⟩)] 104 neApt::rs)→(Y=X∧fi=im∧many=ni∧blk=oneA∨Y=X.put im oneA∧fi=bm∧many=dc∧blk=zeros)→
      Calls Tryz.prog 181 #[.agg #[.int .i64 fi,.int .i64 many],.func (.func 182) #[] #[.pointer (some ⟨bx,0,none⟩),.pointer (some ⟨ba,0,none⟩),.pointer (some ⟨be,0,none⟩)]] y fun e w'=>e= .returned (.tuple #[])∧At w0 w' (Y.put fi blk) (arr b6 #[.int .i64 im,.int .i64 ni,.int .i64 bm,.int .i64 dc] 186 neAr::arr be #[.int .i64 0] 32 neErn::arr ba #[.pointer (some ⟨X.ab,0,none⟩)] 104 neApt::rs)):=Lib.hid fun y Y fi many blk bx hy hc=>by
    have hX:=HX.out
    have e1:=HP.out.1.1;have e2:=HP.out.1.2;have e3:=HP.out.2.1;have e4:=HP.out.2.2
    have p1:=hX.pl.im;have p2:=hX.pl.bm;have p3:=hX.pl.ni;have p4:=hX.pl.dc;have p5:=hX.pl.tb;have p6:=hX.pl.da;have p7:=hX.pl.all;have p8:=hX.pn
    rcases hc with ⟨q1,q2,q3,q4⟩ | ⟨q1,q2,q3,q4⟩<;>rw [q1,q2,q3] at hy<;>rw [q1,q2,q3,q4]
    · refine (a_eachF hy HOP.out.1 im ni (by omega) (by omega) (by have:=HOP.out.2;omega) (by omega) (by omega) (im:=0) (ia:=3) (ie:=2) rfl rfl rfl (.inl ⟨e1.symm,e2.symm,rfl⟩)).mono ?_
      rintro e w' ⟨he,h'⟩
      exact ⟨he,h'.sub (List.Sublist.cons _ (List.Sublist.refl _))⟩
    · refine (a_eachF hy HOP.out.1 bm dc (by omega) (by show bm<X.n;omega) (by show (putW X.l im oneA).length<60;have:=HOP.out.2;have:=put_length X.l (im:Int) oneA;split at this<;>omega) (by omega) (by omega) (im:=0) (ia:=3) (ie:=2) rfl rfl rfl (.inr ⟨by show bm≠X.P.im;omega,rfl⟩)).mono ?_
      rintro e w' ⟨he,h'⟩
      exact ⟨he,h'.sub (List.Sublist.cons _ (List.Sublist.refl _))⟩
  have KE:Hid (∀y Y,At w0 y Y (arr b6 #[.int .i64 im,.int .i64 ni,.int .i64 bm,.int .i64 dc] 186 neAr::arr be #[.int .i64 0] 32 neErn::arr ba #[.pointer (some ⟨X.ab,0,none⟩)] 104 neApt::rs)→(y.cell? ⟨b6,0,none⟩=some (.int .i64 im)∧y.cell? ⟨b6,1,none⟩=some (.int .i64 ni)∧y.cell? ⟨b6,2,none⟩=some (.int .i64 bm)∧y.cell? ⟨b6,3,none⟩=some (.int .i64 dc))∧y.cell? ⟨be,0,none⟩=some (.int .i64 0)∧y.cell? ⟨ba,0,none⟩=some (.pointer (some ⟨X.ab,0,none⟩))):=Lib.hid fun y Y hy=>
    ⟨⟨(hy.arrCell (i:=0) rfl 0).trans rfl,(hy.arrCell (i:=0) rfl 1).trans rfl,(hy.arrCell (i:=0) rfl 2).trans rfl,(hy.arrCell (i:=0) rfl 3).trans rfl⟩,(hy.arrCell (i:=1) rfl 0).trans rfl,(hy.arrCell (i:=2) rfl 0).trans rfl⟩
  have eF:Hid ((X.put im oneA).put bm zeros=X.fmtd):=Lib.hid (by unfold Sys.fmtd;rw [HP.out.1.1,HP.out.2.1])
  have KD:Hid (∀y Y {a:Res},At w0 y Y (a::arr be #[.int .i64 0] 32 neErn::arr ba #[.pointer (some ⟨X.ab,0,none⟩)] 104 neApt::rs)→At w0 y Y rs):=Lib.hid fun y Y a hy=>hy.drop 3
  clear HP HX HOP
  go_wp2_with fail
  go_loopw [15] (fun t wr=> ∃Y:Sys,Hid (At w0 wr Y (arr b6 #[.int .i64 im,.int .i64 ni,.int .i64 bm,.int .i64 dc] 186 neAr::arr be #[.int .i64 0] 32 neErn::arr ba #[.pointer (some ⟨X.ab,0,none⟩)] 104 neApt::rs))∧(t= .int .i64 0∧Y=X∨t= .int .i64 1∧Y=X.put im oneA∨t= .int .i64 2∧Y=(X.put im oneA).put bm zeros)) (fun t _=>3-(intOf t).toNat)
  case atStart=>exact ⟨X,H6,.inl ⟨rfl,rfl⟩⟩
  case round=>
    clear H6
    obtain ⟨Y,HY,hc⟩:=hrel
    have k:=KE.out _ _ HY.out
    obtain ⟨⟨k0,k1,k2,k3⟩,k4,k5⟩:=k
    rcases hc with ⟨rfl,q⟩ | ⟨rfl,q⟩ | ⟨rfl,q⟩<;>rw [q] at HY
    · have HB:=Lib.hid (HY.out.newArr #[.int .i64 im,.int .i64 ni] 186 neAr)
      have HC:=Lib.hid (KEach.out _ _ im ni oneA _ HB.out (.inl ⟨rfl,rfl,rfl,rfl⟩))
      clear KEach HY HB
      go_wp2_with fail
      refine HC.out.mono ?_
      rintro e w7 ⟨rfl,h7⟩
      have H7:=Lib.hid h7
      clear h7 HC k0 k1 k2 k3 k4 k5
      go_wp2
      exact ⟨⟨X.put im oneA,H7,.inr (.inl ⟨rfl,rfl⟩)⟩,by decide⟩
    · have HB:=Lib.hid (HY.out.newArr #[.int .i64 bm,.int .i64 dc] 186 neAr)
      have HC:=Lib.hid (KEach.out _ _ bm dc zeros _ HB.out (.inr ⟨rfl,rfl,rfl,rfl⟩))
      clear KEach HY HB
      go_wp2_with fail
      refine HC.out.mono ?_
      rintro e w7 ⟨rfl,h7⟩
      have H7:=Lib.hid h7
      clear h7 HC k0 k1 k2 k3 k4 k5
      go_wp2
      exact ⟨⟨(X.put im oneA).put bm zeros,H7,.inr (.inr ⟨rfl,rfl⟩)⟩,by decide⟩
    · rw [eF.out] at HY
      have H9:=Lib.hid (KD.out _ _ HY.out)
      clear HY KD KEach k0 k1 k2 k3 k5
      go_wp2
      go_ret
      exact ⟨rfl,H9.out⟩
end
section
open Go.ChangeMaps Go.MapKept Go.RowKit
theorem run_mf (P:Program) (fn:Fn) (first cap:Array Value) (w:World):(Instr.makeFunc fn first cap).run P w= .ok (.func fn first cap) w:=rfl
end
section
open Go.ChangeMaps Go.MapKept Go.RowKit
variable {w0:Gnd} {w:World} {rs:List Res} {X:Sys}
attribute [local go_sem] run_mf in
theorem x_CommitH (h:At w0 w X rs) (hop:X.op=true) (hlim:X.D.lim=none) (hm:X.m<1000000):
    Calls Tryz.prog 96 #[.pointer (some ⟨X.cb,0,none⟩)] w fun e w'=>e= .returned (.int .i64 0)∧∃Y,Same X Y∧Y.H=X.H∧Y.g=X.g∧At w0 w' Y rs∧Y.op=false∧Y.l= []∧Y.s=X.v∧Y.m=X.m+1:=by
  have ho:=h.ok
  have hs:=h.open
  rw [hop] at hs
  refine (S_cCommitL hs 0 rfl ho.live ho.cok (by have:=ho.pl.im;have:=ho.pl.bm;have:=ho.pl.tb;have:=ho.pl.da;have:=ho.pl.all;have:=ho.pn;omega) (by have:=ho.pl.n;have:=ho.pn;omega) (by omega) (by have:=ho.g;omega) (by have:=ho.ops;omega) hlim).mono ?_
  rintro e w' ⟨jh',J',D',hjb,he,hs',hl',hlim',hops'⟩
  rw [←hjb] at hs'
  exact ⟨he,{ X with jh:=jh',J:=J',D:=D',op:=false,l:= [],s:=cvw X.l X.s,m:=X.m+1 },⟨rfl,rfl,rfl,rfl,rfl,rfl,hlim'.trans hlim.symm⟩,rfl,rfl,At.back (Y:= { X with jh:=jh',J:=J',D:=D',op:=false,l:= [],s:=cvw X.l X.s,m:=X.m+1 }) hs' ⟨hl',COk.nil _,ho.pl,ho.pn,ho.g,by show X.m+1≤_;omega,by show D'.ops≤1000+123*(X.m+1);have:=ho.ops;omega⟩,rfl,rfl,rfl,rfl⟩
attribute [local go_sem] run_mf in
theorem new_last (n k:Nat):(DSt.new n).last k=zeros:=by rfl
attribute [local go_sem] run_mf in
set_option maxRecDepth 100000 in
theorem f_opened {H:Hdl} {n:Nat} (h:St w0 w (dev H (DSt.new n)::rs)) (hn:246≤n) (hn2:n≤65536):
    Calls Tryz.prog 89 #[.pointer (some ⟨H.b,0,none⟩)] w fun e w'=> ∃jh J D,e= .returned (.tuple #[.pointer (some ⟨jh.jb,0,none⟩),.int .i64 0])∧St w0 w' (jrn H jh J::dev H D::rs)∧Live n 1 0 J D (fun _=>zeros)∧D.lim=none∧D.ops≤100:=by
  have HB:=Lib.hid (S_OpenBad h 0 rfl hn (by show 0<1000000000;omega) (by rw [new_last];decide))
  have KF:Hid (∀y,St w0 y (dev H (DSt.new n)::rs)→Calls Tryz.prog 175 #[.pointer (some ⟨H.b,0,none⟩)] y fun e w'=>e= .returned (.int .i64 0)∧St w0 w' (dev H (fmtD (DSt.new n) 0 7)::rs)):=Lib.hid fun y hy=>by
    have:=S_Format hy 0 rfl hn (by show 0<1000000;omega) rfl (by rw [new_last];decide) (by rw [new_last];decide)
    rw [show getLE ((DSt.new n).last 0) 8 8=0 by rw [new_last];decide] at this
    exact this
  have KO:Hid (∀y,St w0 y (dev H (fmtD (DSt.new n) 0 7)::rs)→Calls Tryz.prog 63 #[.pointer (some ⟨H.b,0,none⟩)] y fun e w'=> ∃jh J D,e= .returned (.tuple #[.pointer (some ⟨jh.jb,0,none⟩),.int .i64 0])∧St w0 w' (jrn H jh J::dev H D::rs)∧Live n 1 0 J D (fun _=>zeros)∧D.lim=none∧D.ops≤100):=Lib.hid fun y hy=>by
    obtain ⟨f1,f2,f3⟩:=fmt_tells n hn hn2
    obtain ⟨g1,g2,g3⟩:=fmtD_ok (DSt.new n) 0 rfl 7
    refine (S_OpenL hy 0 rfl f3 (g1.trans (show (DSt.new n).n=n from rfl)) f2 f1 hn (by omega) (by omega) (by rw [g2];show 0+7<1000000000;omega) g3).mono ?_
    rintro e w' ⟨jh,J,D,he,h1,h2,h3,h4⟩
    exact ⟨jh,J,D,he,h1,h2,h3,by rw [g2] at h4;have h4:D.ops≤0+7+61:=h4;omega⟩
  clear h hn hn2
  go_enter Tryz.func89,Tryz.ntmps89
  go_wp2_with fail
  refine HB.out.mono ?_
  clear HB
  rintro e w1 ⟨rfl,h1⟩
  have HF:=Lib.hid (KF.out _ h1)
  clear h1 KF
  go_wp2_with fail
  refine HF.out.mono ?_
  clear HF
  rintro e w2 ⟨rfl,h2⟩
  have HO:=Lib.hid (KO.out _ h2)
  clear h2 KO
  go_wp2_with fail
  refine HO.out.mono ?_
  clear HO
  rintro e w3 ⟨jh,J,D,rfl,h3,h4,h5,h6⟩
  have H3:=Lib.hid h3
  have H4:=Lib.hid (And.intro h4 (And.intro h5 h6))
  clear h3 h4 h5 h6
  go_wp2
  go_ret2
  exact ⟨jh,J,D,rfl,H3.out,H4.out⟩
end
end Go.Proofs.YtlemndledcmhiaaGreatDoor
