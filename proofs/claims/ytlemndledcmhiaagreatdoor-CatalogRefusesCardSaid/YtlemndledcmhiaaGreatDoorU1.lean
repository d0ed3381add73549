/-
  The catalog, from the device up, part 1.
-/
import Derived.Test.YtlemndledcmhiaaGreatDoorU0
namespace Go.Proofs.YtlemndledcmhiaaGreatDoor
set_option linter.unusedVariables false
set_option linter.unusedSimpArgs false
section
open Go.ChangeMaps Go.MapKept Go.RowKit
theorem Flush_off (w:World) (h:Hdl) (D:DSt) (R:Nat→Prop) (H:DevAt w h D R) (ho:D.ops<4611686018427387904) (hoff:D.off=true):
    Calls Tryz.prog 143 #[.pointer (some ⟨h.b,0,none⟩)] w fun e w'=>
      e= .returned (.int .i64 9)∧DevAt w' h D.op R∧Frm h.M w w':=by
  have HC:=Lib.hid (op_any w h D R H ho)
  go_enter Tryz.func143,Tryz.ntmps143
  go_wp2_with fail
  refine HC.out.mono ?_
  rintro e w1 ⟨rfl,hd,hf,hs⟩
  rw [hoff]
  have HP:=Lib.hid (And.intro hd (hf.mono (N:=h.M) fun x _ e=>by obtain rfl:x=h.b:=e;exact h.Mb))
  clear hd hf hs HC
  go_wp2
  go_ret
  exact ⟨rfl,HP.out.1,HP.out.2⟩
def FlushRel (w1:World) (h:Hdl) (D:DSt) (R:Nat→Prop) (nm:Nat) (m:Int→Option Value) (wr:World):Prop:=
  ∃(left:Int→Prop) (cnt:Nat) (B:Nat→Blk),RangeAt IntK okI wr h.mm w1.heap.size nm m left cnt∧DevAt wr h { D with base:=B } R∧(∀a,okI a→left a→(m a).isSome=true)∧
    (∀a:Nat,okI (a:Int)→(¬left a→B a=D.last a))∧Frm (fun x=>x=h.fm) w1 wr
set_option maxRecDepth 100000 in
theorem Flush_ok (w:World) (h:Hdl) (D:DSt) (R:Nat→Prop) (H:DevAt w h D R) (ho:D.ops<4611686018427387903) (hoff:D.off=false):
    Calls Tryz.prog 143 #[.pointer (some ⟨h.b,0,none⟩)] w fun e w'=>
      e= .returned (.int .i64 0)∧DevAt w' h D.op.flushed R∧Frm h.M w w':=by
  have HC:=Lib.hid (op_any w h D R H (by omega))
  go_enter Tryz.func143,Tryz.ntmps143
  go_wp2_with fail
  refine HC.out.mono ?_
  rintro e w1 ⟨rfl,hd,hf,hs⟩
  rw [hoff]
  have ho1:D.op.ops<4611686018427387904:=by show D.ops+1<_;omega
  have HF1:=Lib.hid (hf.mono (N:=h.M) fun x _ e=>by obtain rfl:x=h.b:=e;exact h.Mb)
  obtain ⟨D1,hD1⟩: ∃D1,D1=D.op:=⟨_,rfl⟩
  rw [←hD1] at hd ho1
  have HD1:=Lib.hid hD1
  have HS:=Lib.hid hs
  clear hD1 hs
  obtain ⟨left,hb,hl,hokl⟩:=hd.blk
  obtain ⟨c0,c1,c2,c3,c4,c5,c6,fz⟩:=devObj_cells h _ _ _ _ hb
  obtain ⟨nm,m,Mm,m1,m2⟩:=hd.mn
  have HD:=Lib.hid hd
  have HB:=Lib.hid hb
  have HM1:=Lib.hid m1
  have HM2:=Lib.hid m2
  have HO:=Lib.hid ho1
  have hbl:=lt_of_block hb
  clear hd hb m1 m2 ho1 hf HC hl hokl ho
  go_wp2_with (at_range;refine wpList_range_at rfl _ 127 rfl 3 3 Tryz.underlying127 rfl Mm ?_;intro o' hrg)
  go_frame
  go_loopw [3] (fun _ wr=>FlushRel w1 h D1 R nm m wr) (fun _ wr=>wr.rangeLeft h.mm w1.heap.size)
  case atStart=>
    refine ⟨_,_,D1.base,hrg,HD.out.alloc _,fun a _ h=>h,fun a ha hna=>?_,(Frm.refl _ _).alloc _⟩
    have:=HM1.out a ha
    unfold DSt.last
    by_cases hp:D1.pend a= []
    · rw [hp];rfl
    · rw [if_neg hp] at this
      rw [this] at hna
      exact absurd rfl hna
  case round=>
    clear c0 c1 c2 c3 c4 c5 c6 fz Mm hrg HB
    obtain ⟨left,cnt,B,hrg,hd,hsub,hdone,hfr⟩:=hrel
    go_wp2_with (at_next;refine wpList_next_at rfl _ rfl kindInt rfl hrg ?_ ?_)
    · intro hno
      obtain ⟨left',hb,_,_⟩:=hd.blk
      obtain ⟨_,_,c2,c3,_,_,_,_⟩:=devObj_cells h _ _ _ _ hb
      have ap:=hd.apart
      have hbl':=lt_of_block hb
      obtain ⟨ng,g,Mg,_⟩:=hd.wr
      obtain ⟨o1,p1,p2⟩:=Mg.clear Tryz.underlying126 0
      obtain ⟨o2,q1,q2⟩:=hrg.map.clear Tryz.underlying127 0
      have p1':=p1 wr rfl
      have q1':=q1 (setBlock wr h.wm o1) (block_setBlock_other _ rfl (Ne.symm ap.2.2.2.2.2))
      have d3:(setBlock wr h.wm o1).cell? ⟨h.b,3,none⟩=some (.map (some h.mm)):=by
        rw [←c3];exact World.cell?_of_block (w:=wr) (block_setBlock_other _ rfl ap.2.1)
      have sz:(setBlock wr h.wm o1).heap.size=wr.heap.size:=by simp [ChangeMaps.setBlock]
      have FIN:DevAt (setBlock (setBlock wr h.wm o1) h.mm o2) h D1.flushed R:=by
        have hB:B=fun a=>B a:=rfl
        have h1:=hd.cleared (w':=setBlock (setBlock wr h.wm o1) h.mm o2) (fun b _ hb1 hb2=>(block_setBlock_other _ (block_setBlock_other _ rfl hb1) hb2))
          ((p2 wr Mg.lt).of_block (block_setBlock_other _ rfl ap.2.2.2.2.2)) (q2 _ (by rw [sz];exact hrg.map.lt))
        have hBl: ∀a:Nat,a<D1.n→B a=D1.last a:=fun a ha=>by
          have hok:okI (a:Int):=hd.okn (by omega) (by show (a:Int)<(D1.n:Int);omega)
          exact hdone a hok (hno _ hok)
        exact h1.rebased rfl rfl rfl rfl (DSt.flushed_wf HD.out.wf) hBl
      have FRM:Frm h.M w (setBlock (setBlock wr h.wm o1) h.mm o2):=by
        have f1:Frm h.M w wr:=HF1.out.trans hfr (fun x _ e=>by obtain rfl:x=h.fm:=e;exact h.Mf)
        exact (f1.setBlock (.inl h.Mw) _).setBlock (.inl h.Mm) _
      have HFIN:=Lib.hid FIN
      have HFRM:=Lib.hid FRM
      clear FIN FRM p1 p2 q1 q2 sz ap Mg hno hdone hsub hfr hb
      go_wp2
      go_ret
      exact ⟨rfl,HD1.out▸HFIN.out,HFRM.out⟩
    · intro x v w2 cnt' hokx hlx hmx hrg2 hlt hf2 hs2 hen
      have hx0:0≤x:=by
        rcases Int.lt_or_le x 0 with hx | hx
        · rw [HM2.out x hokx hx] at hmx;cases hmx
        · exact hx
      have hxk:((x.toNat:Nat):Int)=x:=by omega
      have hpx:D1.pend x.toNat≠ []:=fun e=>by
        have:=HM1.out x.toNat (by rw [hxk];exact hokx)
        rw [if_pos e,hxk,hmx] at this;cases this
      have hxn:x<D1.n:=by
        rcases Int.lt_or_le x D1.n with hx | hx
        · exact hx
        · exact absurd (HD.out.wf.far x.toNat (by omega)) hpx
      have hit: ∃a b c d,wr.heap[w1.heap.size]?=some (.mapIter a b c d):=by
        obtain ⟨_,_,_,_,_,_,_,_,h6,_⟩:=hrg
        exact ⟨_,_,_,_,h6⟩
      have hd2:DevAt w2 h { D1 with base:=B } R:=hd.frm2 hf2 (fun y hy hM=>by
        obtain rfl:y=w1.heap.size:=hM
        obtain ⟨a,b,c,d,hit⟩:=hit
        exact ⟨fun hM=>hd.noIter _ hM a b c d hit,fun _ c' ⟨_,_,e⟩=>by rw [hit] at e;cases e⟩)
      obtain ⟨left',hb2,_,_⟩:=hd2.blk
      obtain ⟨_,d1,_,_,_,_,_,_⟩:=devObj_cells h _ _ _ _ hb2
      have HPX:=Lib.hid hpx
      have HMX:=Lib.hid hmx
      have HXK:=Lib.hid hxk
      have HD2:=Lib.hid hd2
      have HSUB:=Lib.hid hsub
      have HDONE:=Lib.hid hdone
      have HB2:=Lib.hid hb2
      have HS2:=Lib.hid hs2
      have HF2:=Lib.hid hf2
      have HFR:=Lib.hid hfr
      have HLX:=Lib.hid hlx
      have HOK:=Lib.hid hokx
      have HLT:=Lib.hid hlt
      clear hpx hmx hxk hd2 hsub hdone hb2 hs2 hf2 hfr hlx hokx hlt hd
      go_wp2_with fail
      have KA:Hid (∀y,Agree w2 y→y.cell? ⟨h.b,1,none⟩=some (.map (some h.fm))):=Lib.hid fun y hy=>by
        rw [←d1];exact hy.cell (lt_of_block HB2.out)
      have KB:Hid (∀y o,Agree w2 y→(setBlock y h.fm o).cell? ⟨h.b,1,none⟩=some (.map (some h.fm))):=Lib.hid fun y o hy=>by
        rw [←KA.out y hy];exact World.cell?_of_block (w:=y) (block_setBlock_other _ rfl HD2.out.apart.1)
      go_region_held3 (fun y=>y.cell? ⟨h.b,1,none⟩=some (.map (some h.fm)))
        (first | (refine KB.out _ _ ?_;intro _ _;rfl) | (refine KA.out _ ?_;intro _ _;rfl))
        (first | (go_at_call 226;refine (last_any _ h { D1 with base:=B } R ?_ x hx0 hxn HO.out).mono ?_;exact HD2.out.keep (fun _ _ _=>rfl);rintro e w3 ⟨rfl,v',rfl,_,hb3⟩;have hb3':=hb3 HPX.out;clear hb3;obtain ⟨o3,q1,q2⟩:=HD2.out.setBase hx0 hxn (DSt.last_length HD2.out.wf x.toNat) hb3';have q1':=q1 w2.drew rfl;clear q1))
      have hfr12:w1.heap.size<w2.heap.size:=by have:=hrg2.lt;exact this
      have hfm1:h.fm≠w1.heap.size:=fun e=>by
        have hM:=HD.out.fl
        obtain ⟨_,_,Mf,_⟩:=hM
        have:=Mf.lt
        omega
      have ap:=HD2.out.apart
      have hrg4:RangeAt IntK okI (setBlock w2.drew h.fm o3) h.mm w1.heap.size nm m (fun y=>left y∧y≠x) cnt':=
        hrg2.of_blocks (block_setBlock_other _ rfl (Ne.symm ap.2.2.2.2.1)) (block_setBlock_other _ rfl (Ne.symm hfm1))
      have REL:FlushRel w1 h D1 R nm m (setBlock w2.drew h.fm o3):=by
        refine ⟨_,cnt',_,hrg4,q2 w2.drew (fun _ _=>rfl) (Nat.le_refl _),fun a ha hl=>HSUB.out a ha hl.1,fun a ha hna=>?_,?_⟩
        · show (if a=x.toNat then DSt.last { D1 with base:=B } x.toNat else B a)=D1.last a
          by_cases hax:a=x.toNat
          · subst hax
            rw [if_pos rfl]
            unfold DSt.last
            show (D1.pend x.toNat).getLastD (B x.toNat)=(D1.pend x.toNat).getLastD (D1.base x.toNat)
            cases hp:D1.pend x.toNat with
            | nil=>exact absurd hp HPX.out
            | cons c l=>rfl
          · rw [if_neg hax]
            exact HDONE.out a ha (fun hl=>hna ⟨hl,fun e=>hax (by omega)⟩)
        · have f1:Frm (fun x=>x=h.fm) w1 w2:=HFR.out.trans HF2.out (fun y hy e=>by have e':y=w1.heap.size:=e;omega)
          exact f1.drew.setBlock (.inl rfl) _
      have HREL:=Lib.hid REL
      have HR4:=Lib.hid hrg4
      have HRG:=Lib.hid hrg
      clear REL hrg4 ap hfr12 hfm1 hrg
      go_roundw
      case rel=>first | exact HREL.out | ((repeat apply Exists.intro);exact ⟨HREL.out,rfl⟩)
      case measure=>rw [HR4.out.left_eq,HRG.out.left_eq];exact HLT.out
end
end Go.Proofs.YtlemndledcmhiaaGreatDoor
