/-
  The catalog, from the device up, part 3.
-/
import Derived.Test.YtlemndledcmhiaaGreatDoorU2
namespace Go.Proofs.YtlemndledcmhiaaGreatDoor
set_option linter.unusedVariables false
set_option linter.unusedSimpArgs false
section
open Go.ChangeMaps Go.MapKept Go.RowKit
set_option maxRecDepth 100000 in
theorem S_Format {w0:Gnd} {w:World} {rs:List Res} (h:St w0 w rs) (a:Nat) {H:Hdl} {D:DSt} (hr:rs[a]?=some (dev H D)) (hn:246≤D.n) (ho:D.ops<1000000) (hlim:D.lim=none) (hm:isMagic (D.last 0)=false) (hg:getLE (D.last 0) 8 8<18446744073709551615):
    Calls Tryz.prog 175 #[.pointer (some ⟨H.b,0,none⟩)] w fun e w'=>e= .returned (.int .i64 0)∧St w0 w' (rs.set a (dev H (fmtD D (getLE (D.last 0) 8 8) 7))):=by
  obtain ⟨g,hgg⟩: ∃g,getLE (D.last 0) 8 8=g:=⟨_,rfl⟩
  have HD:=Lib.hid (h.newArr #[.pointer (some ⟨H.b,0,none⟩)] 23 neDp)
  have c1:=HD.out.arrCell (i:=0) rfl 0
  have c1:(w.alloc (.cells #[.pointer (some ⟨H.b,0,none⟩)] 23 (0,0))).cell? ⟨w.heap.size,0,none⟩=some (.pointer (some ⟨H.b,0,none⟩)):=c1
  have HB:=Lib.hid (S_Blocks HD.out (a+1) hr)
  have HFI:=Lib.hid (S_first HD.out (a+1) hr (by omega) (by omega))
  rw [hgg,hm] at HFI
  rw [hgg] at hg ⊢
  have hn': ¬(D.n:Int)<246:=by omega
  have HG:=Lib.hid hg
  have HLIM:=Lib.hid hlim
  clear hgg hm hg h hlim
  go_enter Tryz.func175,Tryz.ntmps175
  go_wp2_with fail
  refine HB.out.mono ?_
  rintro e w2 ⟨rfl,rfl⟩
  go_wp2_with fail
  refine HFI.out.mono ?_
  rintro e w3 ⟨rfl,h3⟩
  have H3:=Lib.hid h3
  clear h3 HD HB HFI c1
  generalize w.heap.size=bd at*
  go_wp2_with fail
  have H4:=Lib.hid ((H3.out.newArr #[.int .u64 (g:Int)] 101 neU64).fnNil)
  clear H3
  generalize w3.heap.size=bg at*
  go_loopw [5,6,17] (fun v _ t wr=> ∃bl:List Nat,bl.length≤4∧t= .int .i64 bl.length∧St w0 wr (fnRow v (fmtFns bd bl)::(capR bl++(arr bg #[.int .u64 (g:Int)] 101 neU64::arr bd #[.pointer (some ⟨H.b,0,none⟩)] 23 neDp::rs)))) (fun _ _ t _=>4-(intOf t).toNat)
  case atStart=>exact ⟨[],Nat.zero_le _,rfl,H4.out⟩
  case round=>
    clear H4
    obtain ⟨bl,hbl,rfl,hst⟩:=hrel
    have HST:=Lib.hid hst
    clear hst
    by_cases hlt:bl.length<4
    · have hi0:(0:Int)≤(bl.length:Int):=Int.natCast_nonneg _
      have hi1:(bl.length:Int)<4:=by omega
      have H5:=Lib.hid (HST.out.capMore (z:=(bl.length:Int)) rfl)
      have HO:=Lib.hid (World.ownsRow.alloc (H5.out.get (i:=0) rfl) (.cells #[.func (.func 243) #[] #[.pointer (some ⟨bd,0,none⟩),.pointer (some ⟨wr.heap.size,0,none⟩)]] 100 (0,0)))
      have hxl:=fmtFns_length bd bl
      obtain ⟨ii,hi0i,hz0,hz1,hz2⟩:=info_parts infoFn
      have HN:Hid (∀(j:Nat) u,[Value.func (.func 243) #[] #[.pointer (some ⟨bd,0,none⟩),.pointer (some ⟨wr.heap.size,0,none⟩)]][j]?=some u→((wr.alloc (.cells #[.int .i64 (bl.length:Int)] 3 (0,0))).alloc (.cells #[.func (.func 243) #[] #[.pointer (some ⟨bd,0,none⟩),.pointer (some ⟨wr.heap.size,0,none⟩)]] 100 (0,0))).cell? ((⟨wr.heap.size+1,0,none⟩:Addr).add j)=some u):=Lib.hid fun j u hj=>by
        obtain ⟨h1,h2⟩:=List.getElem?_eq_some_iff.1 hj
        obtain rfl:j=0:=by simp at h1;exact h1
        have e:wr.heap.size+1=(wr.alloc (.cells #[.int .i64 (bl.length:Int)] 3 (0,0))).heap.size:=(size_alloc _ _).symm
        rw [show ((⟨wr.heap.size+1,0,none⟩:Addr).add 0)=⟨wr.heap.size+1,0,none⟩ from rfl,e,cell_of_block (block_alloc_new _ _),←h2]
        rfl
      have hmf: ∀(fn:Fn) (first cap:Array Value) (W:World),(Instr.makeFunc fn first cap).run Tryz.prog W= .ok (.func fn first cap) W:=fun _ _ _ _=>rfl
      go_wp2_with (at_builtin;refine wpList_append_own_at _ rfl _ _ 171 rfl 0 100 ii .nilFunc 1 8 Tryz.underlying171 hi0i hz0 hz1 hz2 rfl (by decide) _ _ _ rfl HO.out ⟨wr.heap.size+1,0,none⟩ 1 1 [.func (.func 243) #[] #[.pointer (some ⟨bd,0,none⟩),.pointer (some ⟨wr.heap.size,0,none⟩)]] rfl rfl HN.out ?c0 ?c1 ?c2 ?c3 ?_)
      case c0=>intro u hu;simp at hu;subst hu;rfl
      case c1=>simp only [maxLen];omega
      case c2=>omega
      case c3=>omega
      intro v' w6 ho hg2 hnn hat
      have h7:=H5.out.fnAppend 0 rfl (.cells #[.func (.func 243) #[] #[.pointer (some ⟨bd,0,none⟩),.pointer (some ⟨wr.heap.size,0,none⟩)]] 100 (0,0)) (news:= [.func (.func 243) #[] #[.pointer (some ⟨bd,0,none⟩),.pointer (some ⟨wr.heap.size,0,none⟩)]]) (by rw [hxl];exact ho) hg2 (by rw [size_alloc,size_alloc];first | exact hat | (rw [size_alloc,size_alloc] at hat;exact hat))
      have H7:=Lib.hid (show St w0 w6 (fnRow v' (fmtFns bd (wr.heap.size::bl))::(capR (wr.heap.size::bl)++(arr bg #[.int .u64 (g:Int)] 101 neU64::arr bd #[.pointer (some ⟨H.b,0,none⟩)] 23 neDp::rs))) from h7)
      clear ho hg2 hnn hat h7
      go_wp2
      first | exact ⟨⟨wr.heap.size::bl,hlt,by go_num,H7.out⟩,by simp [intOf];omega⟩ | (go_roundw;case rel=>first | exact ⟨wr.heap.size::bl,hlt,by go_num,H7.out⟩ | ((repeat apply Exists.intro);exact ⟨⟨wr.heap.size::bl,hlt,by go_num,H7.out⟩,rfl⟩);case measure=>simp [intOf];omega)
    · have hi1: ¬(bl.length:Int)<4:=by omega
      have hmf: ∀(fn:Fn) (first cap:Array Value) (W:World),(Instr.makeFunc fn first cap).run Tryz.prog W= .ok (.func fn first cap) W:=fun _ _ _ _=>rfl
      obtain ⟨pd,hpd⟩: ∃pd,capR bl++(arr bg #[.int .u64 (g:Int)] 101 neU64::arr bd #[.pointer (some ⟨H.b,0,none⟩)] 23 neDp::rs)=pd:=⟨_,rfl⟩
      have hcd:wr.cell? ⟨bd,0,none⟩=some (.pointer (some ⟨H.b,0,none⟩)):=
        ((HST.out.arrCell (i:=1+(capR bl).length+1) (b:=bd) (c:= #[.pointer (some ⟨H.b,0,none⟩)]) (t:=23) (ht:=neDp) (by
          rw [show 1+(capR bl).length+1=((capR bl).length+1)+1 from by omega,List.getElem?_cons_succ,List.getElem?_append_right (by omega),show (capR bl).length+1-(capR bl).length=1 from by omega]
          rfl) 0).trans rfl)
      clear hpd
      have hxl:=fmtFns_length bd bl
      have hbl4:bl.length=4:=by omega
      have HO:=Lib.hid (World.ownsRow.alloc (HST.out.get (i:=0) rfl) (.cells #[.func (.func 143) #[.pointer (some ⟨H.b,0,none⟩)] #[],.func (.func 244) #[] #[.pointer (some ⟨bd,0,none⟩),.pointer (some ⟨bg,0,none⟩)],.func (.func 143) #[.pointer (some ⟨H.b,0,none⟩)] #[]] 100 (0,0)))
      have HN:Hid (∀(j:Nat) u,(([.func (.func 143) #[.pointer (some ⟨H.b,0,none⟩)] #[],.func (.func 244) #[] #[.pointer (some ⟨bd,0,none⟩),.pointer (some ⟨bg,0,none⟩)],.func (.func 143) #[.pointer (some ⟨H.b,0,none⟩)] #[]]:List Value))[j]?=some u→(wr.alloc (.cells #[.func (.func 143) #[.pointer (some ⟨H.b,0,none⟩)] #[],.func (.func 244) #[] #[.pointer (some ⟨bd,0,none⟩),.pointer (some ⟨bg,0,none⟩)],.func (.func 143) #[.pointer (some ⟨H.b,0,none⟩)] #[]] 100 (0,0))).cell? ((⟨wr.heap.size,0,none⟩:Addr).add j)=some u):=Lib.hid fun j u hj=>by
        have e:((⟨wr.heap.size,0,none⟩:Addr).add j)=⟨wr.heap.size,j,none⟩:=by unfold Addr.add;split<;>simp_all
        rw [e,cell_of_block (block_alloc_new _ _),←Array.getElem?_toList]
        exact hj
      obtain ⟨ii,hi0i,hz0,hz1,hz2⟩:=info_parts infoFn
      go_wp2_with (at_builtin;refine wpList_append_own_at _ rfl _ _ 171 rfl 0 100 ii .nilFunc 1 8 Tryz.underlying171 hi0i hz0 hz1 hz2 rfl (by decide) _ _ _ rfl HO.out ⟨wr.heap.size,0,none⟩ 3 3 [.func (.func 143) #[.pointer (some ⟨H.b,0,none⟩)] #[],.func (.func 244) #[] #[.pointer (some ⟨bd,0,none⟩),.pointer (some ⟨bg,0,none⟩)],.func (.func 143) #[.pointer (some ⟨H.b,0,none⟩)] #[]] rfl rfl HN.out ?c0 ?c1 ?c2 ?c3 ?_)
      case c0=>exact ⟨rfl,rfl,rfl⟩
      case c1=>simp only [maxLen];omega
      try case c2=>omega
      try case c3=>omega
      intro v' w6 ho hg2 hnn hat
      have H7:=Lib.hid (HST.out.fnAppend 0 rfl (.cells #[.func (.func 143) #[.pointer (some ⟨H.b,0,none⟩)] #[],.func (.func 244) #[] #[.pointer (some ⟨bd,0,none⟩),.pointer (some ⟨bg,0,none⟩)],.func (.func 143) #[.pointer (some ⟨H.b,0,none⟩)] #[]] 100 (0,0)) (news:= [.func (.func 143) #[.pointer (some ⟨H.b,0,none⟩)] #[],.func (.func 244) #[] #[.pointer (some ⟨bd,0,none⟩),.pointer (some ⟨bg,0,none⟩)],.func (.func 143) #[.pointer (some ⟨H.b,0,none⟩)] #[]]) (by rw [hxl,hbl4];exact ho) hg2 (by rw [size_alloc];exact hat))
      have HNE:Hid (v'≠ .slice none 0 0):=Lib.hid (by first | exact hnn | exact fun e=>by have:=(hnn.1 e).2;omega)
      clear ho hg2 hnn hat HO HN HST hxl hi1 hcd
      go_wp2_with fail
      match bl,hbl4 with
      | [b3,b2,b1,b0],_=>
      have H8:=H7.out
      obtain ⟨XS,hXS⟩: ∃XS,fmtFns bd [b3,b2,b1,b0]++ [.func (.func 143) #[.pointer (some ⟨H.b,0,none⟩)] #[],.func (.func 244) #[] #[.pointer (some ⟨bd,0,none⟩),.pointer (some ⟨bg,0,none⟩)],.func (.func 143) #[.pointer (some ⟨H.b,0,none⟩)] #[]]=XS:=⟨_,rfl⟩
      rw [hXS] at H8
      have hlen:XS.length=7:=by rw [←hXS];rfl
      have hgetX: ∀i,i<7→XS[i]?=some (.func (.func ([243,243,243,243,143,244,143].getD i 0)) ([#[],#[],#[],#[],#[.pointer (some ⟨H.b,0,none⟩)],#[],#[.pointer (some ⟨H.b,0,none⟩)]].getD i #[]) ([#[.pointer (some ⟨bd,0,none⟩),.pointer (some ⟨b0,0,none⟩)],#[.pointer (some ⟨bd,0,none⟩),.pointer (some ⟨b1,0,none⟩)],#[.pointer (some ⟨bd,0,none⟩),.pointer (some ⟨b2,0,none⟩)],#[.pointer (some ⟨bd,0,none⟩),.pointer (some ⟨b3,0,none⟩)],#[],#[.pointer (some ⟨bd,0,none⟩),.pointer (some ⟨bg,0,none⟩)],#[]].getD i #[])):=fun i hi=>by
        rw [←hXS]
        rcases (by omega:i=0∨i=1∨i=2∨i=3∨i=4∨i=5∨i=6) with rfl | rfl | rfl | rfl | rfl | rfl | rfl<;>rfl
      clear hXS
      obtain ⟨gb,gc,rfl⟩: ∃gb gc,v'= .slice (some ⟨gb,0,none⟩) 7 gc:=by
        have ho:w6.ownsRow 0 100 1 v' XS.length XS:=H8.get (i:=0) rfl
        rcases ho.2 with h | ⟨gb,gc,_,h,_⟩
        · exact absurd h.1 HNE.out
        · exact ⟨gb,gc,by rw [h,hlen]⟩
      obtain ⟨ha1,ha2⟩:=List.getElem?_eq_some_iff.1 hr
      have hok:=fmtD_ok D g HLIM.out
      have hdev: ∀X:Res,(rs.set a X)[a]?=some X:=fun X=>List.getElem?_set_self ha1
      have hrs:rs.set a (dev H D)=rs:=by rw [←ha2];exact List.set_getElem_self ha1
      have hnext: ∀(W:World) (i:Nat) (X:Res),X=dev H (fmtD D g (i+1))→St w0 W ((fnRow (.slice (some ⟨gb,0,none⟩) 7 gc) XS::arr b3 #[.int .i64 ((3:Nat):Int)] 3 neI8::arr b2 #[.int .i64 ((2:Nat):Int)] 3 neI8::arr b1 #[.int .i64 ((1:Nat):Int)] 3 neI8::arr b0 #[.int .i64 ((0:Nat):Int)] 3 neI8::arr bg #[.int .u64 (g:Int)] 101 neU64::arr bd #[.pointer (some ⟨H.b,0,none⟩)] 23 neDp::rs.set a (dev H (fmtD D g i))).set (a+7) X)→St w0 W (fnRow (.slice (some ⟨gb,0,none⟩) 7 gc) XS::arr b3 #[.int .i64 ((3:Nat):Int)] 3 neI8::arr b2 #[.int .i64 ((2:Nat):Int)] 3 neI8::arr b1 #[.int .i64 ((1:Nat):Int)] 3 neI8::arr b0 #[.int .i64 ((0:Nat):Int)] 3 neI8::arr bg #[.int .u64 (g:Int)] 101 neU64::arr bd #[.pointer (some ⟨H.b,0,none⟩)] 23 neDp::rs.set a (dev H (fmtD D g (i+1)))):=fun W i X hX h=>by
        subst hX
        have h':St w0 W (fnRow (.slice (some ⟨gb,0,none⟩) 7 gc) XS::arr b3 #[.int .i64 ((3:Nat):Int)] 3 neI8::arr b2 #[.int .i64 ((2:Nat):Int)] 3 neI8::arr b1 #[.int .i64 ((1:Nat):Int)] 3 neI8::arr b0 #[.int .i64 ((0:Nat):Int)] 3 neI8::arr bg #[.int .u64 (g:Int)] 101 neU64::arr bd #[.pointer (some ⟨H.b,0,none⟩)] 23 neDp::(rs.set a (dev H (fmtD D g i))).set a (dev H (fmtD D g (i+1)))):=h
        rw [List.set_set] at h'
        exact h'
      refine (tries_any w6 gb 0 7 gc (fun i W=>St w0 W (fnRow (.slice (some ⟨gb,0,none⟩) 7 gc) XS::arr b3 #[.int .i64 ((3:Nat):Int)] 3 neI8::arr b2 #[.int .i64 ((2:Nat):Int)] 3 neI8::arr b1 #[.int .i64 ((1:Nat):Int)] 3 neI8::arr b0 #[.int .i64 ((0:Nat):Int)] 3 neI8::arr bg #[.int .u64 (g:Int)] 101 neU64::arr bd #[.pointer (some ⟨H.b,0,none⟩)] 23 neDp::rs.set a (dev H (fmtD D g i)))) (fun _ _=>False) (fun i=> [243,243,243,243,143,244,143].getD i 0) (fun i=> [#[],#[],#[],#[],#[.pointer (some ⟨H.b,0,none⟩)],#[],#[.pointer (some ⟨H.b,0,none⟩)]].getD i #[]) (fun i=> [#[.pointer (some ⟨bd,0,none⟩),.pointer (some ⟨b0,0,none⟩)],#[.pointer (some ⟨bd,0,none⟩),.pointer (some ⟨b1,0,none⟩)],#[.pointer (some ⟨bd,0,none⟩),.pointer (some ⟨b2,0,none⟩)],#[.pointer (some ⟨bd,0,none⟩),.pointer (some ⟨b3,0,none⟩)],#[],#[.pointer (some ⟨bd,0,none⟩),.pointer (some ⟨bg,0,none⟩)],#[]].getD i #[]) ?_ ?_ ?_ (by omega) ?_).mono ?_
      · show St w0 w6 (fnRow (.slice (some ⟨gb,0,none⟩) 7 gc) XS::arr b3 #[.int .i64 ((3:Nat):Int)] 3 neI8::arr b2 #[.int .i64 ((2:Nat):Int)] 3 neI8::arr b1 #[.int .i64 ((1:Nat):Int)] 3 neI8::arr b0 #[.int .i64 ((0:Nat):Int)] 3 neI8::arr bg #[.int .u64 (g:Int)] 101 neU64::arr bd #[.pointer (some ⟨H.b,0,none⟩)] 23 neDp::rs.set a (dev H (D)))
        rw [hrs]
        exact H8
      · intro i W hi hT
        have ho:W.ownsRow 0 100 1 (.slice (some ⟨gb,0,none⟩) 7 gc) XS.length XS:=hT.get (i:=0) rfl
        have h1:=ho.cells (g:=gb) rfl i _ (hgetX i hi)
        rw [show (⟨gb,0,none⟩:Addr).add i=⟨gb,0+i,none⟩ from by unfold Addr.add;split<;>simp_all] at h1
        exact h1
      · intro i hi
        rcases (by omega:i=0∨i=1∨i=2∨i=3∨i=4∨i=5∨i=6) with rfl | rfl | rfl | rfl | rfl | rfl | rfl
        · exact entFmt1
        · exact entFmt1
        · exact entFmt1
        · exact entFmt1
        · exact entFlush
        · exact entFmt2
        · exact entFlush
      · intro i W hi hT
        rcases (by omega:i=0∨i=1∨i=2∨i=3∨i=4∨i=5∨i=6) with rfl | rfl | rfl | rfl | rfl | rfl | rfl
        · exact (S_fmt1 (k:=0) hT (a+7) 6 4 (hdev _) rfl rfl (by omega) (by rw [(hok 0).1];exact hn) (by rw [(hok 0).2.1];omega) (off_of_lim (hok 0).2.2) (by omega) (by omega)).mono fun _ _ ⟨e,h⟩=>⟨0,e,fun _=>hnext _ 0 _ rfl h,fun h=>absurd rfl h⟩
        · exact (S_fmt1 (k:=1) hT (a+7) 6 3 (hdev _) rfl rfl (by omega) (by rw [(hok 1).1];exact hn) (by rw [(hok 1).2.1];omega) (off_of_lim (hok 1).2.2) (by omega) (by omega)).mono fun _ _ ⟨e,h⟩=>⟨0,e,fun _=>hnext _ 1 _ rfl h,fun h=>absurd rfl h⟩
        · exact (S_fmt1 (k:=2) hT (a+7) 6 2 (hdev _) rfl rfl (by omega) (by rw [(hok 2).1];exact hn) (by rw [(hok 2).2.1];omega) (off_of_lim (hok 2).2.2) (by omega) (by omega)).mono fun _ _ ⟨e,h⟩=>⟨0,e,fun _=>hnext _ 2 _ rfl h,fun h=>absurd rfl h⟩
        · exact (S_fmt1 (k:=3) hT (a+7) 6 1 (hdev _) rfl rfl (by omega) (by rw [(hok 3).1];exact hn) (by rw [(hok 3).2.1];omega) (off_of_lim (hok 3).2.2) (by omega) (by omega)).mono fun _ _ ⟨e,h⟩=>⟨0,e,fun _=>hnext _ 3 _ rfl h,fun h=>absurd rfl h⟩
        · exact (S_Flush hT (a+7) (hdev _) (by rw [(hok 4).2.1];omega) (off_of_lim (hok 4).2.2)).mono fun _ _ ⟨e,h⟩=>⟨0,e,fun _=>hnext _ 4 _ rfl h,fun h=>absurd rfl h⟩
        · exact (S_fmt2 (g:=g) hT (a+7) 6 5 (hdev _) rfl rfl HG.out (by rw [(hok 5).1];exact hn) (by rw [(hok 5).2.1];omega) (off_of_lim (hok 5).2.2) (by omega) (by omega)).mono fun _ _ ⟨e,h⟩=>⟨0,e,fun _=>hnext _ 5 _ rfl h,fun h=>absurd rfl h⟩
        · exact (S_Flush hT (a+7) (hdev _) (by rw [(hok 6).2.1];omega) (off_of_lim (hok 6).2.2)).mono fun _ _ ⟨e,h⟩=>⟨0,e,fun _=>hnext _ 6 _ rfl h,fun h=>absurd rfl h⟩
      · rintro e w7 (⟨rfl,h9⟩ | ⟨x,hx,_,hf⟩)
        · have H9:=Lib.hid (h9.drop 7)
          clear h9 hnext hdev hrs hok hgetX hlen H8
          go_wp2
          go_ret
          exact ⟨rfl,H9.out⟩
        · exact hf.elim
theorem fmtD_last0 (D:DSt) (g:Nat):(fmtD D g 7).last 0=laidB magicL [g+1]:=by
  show (fmtStep g 6 (fmtStep g 5 (fmtD D g 5))).last 0=_
  show ((fmtD D g 5).op.put 0 (laidB magicL [g+1])).last 0=_
  exact last_put_same _ _ _
theorem fmtD_pend (D:DSt) (g k:Nat):(fmtD D g 7).pend k= []:=rfl
theorem laid_gen (g:Nat) (hg:g<18446744073709551615):getLE (laidB magicL [g+1]) 8 8=g+1:=
  getLE_putLE_same (textBlk magicL) 8 8 (g+1) (by rw [textBlk_length _ (by decide)];omega) (by omega)
theorem laid_magic (g:Nat):isMagic (laidB magicL [g+1])=true:=by
  have h:(laidB magicL [g+1]).take 8=(textBlk magicL).take 8:=by
    apply List.ext_getElem?
    intro i
    rw [List.getElem?_take,List.getElem?_take]
    split
    · show (putLE (textBlk magicL) 8 8 (g+1))[i]?=_
      rw [putLE_get _ _ _ _ _ (by rw [textBlk_length _ (by decide)];omega),if_neg (by omega)]
    · rfl
  unfold isMagic
  rw [h]
  rfl
end
section
inductive DOp where
  | wr (k:Nat) (b:Blk)
  | fl
def DOp.did:DOp→DSt→DSt
  | .wr k b,D=>D.op.put k b
  | .fl,D=>D.op.flushed
def DOp.ok (n:Nat):DOp→Prop
  | .wr k b=>k<n∧b.length=512
  | .fl=>True
def runD:List DOp→DSt→DSt
  | [],D=>D
  | o::r,D=>if D.off then D.op else runD r (o.did D)
def endD:List DOp→DSt→Int
  | [],_=>0
  | o::r,D=>if D.off then 9 else endD r (o.did D)
theorem runD_yes {o:DOp} {r:List DOp} {D:DSt} (h:D.off=true):runD (o::r) D=D.op:=by unfold runD;rw [if_pos h]
theorem runD_no {o:DOp} {r:List DOp} {D:DSt} (h: ¬D.off=true):runD (o::r) D=runD r (o.did D):=by conv=>lhs;unfold runD;rw [if_neg h]
theorem endD_yes {o:DOp} {r:List DOp} {D:DSt} (h:D.off=true):endD (o::r) D=9:=by unfold endD;rw [if_pos h]
theorem endD_no {o:DOp} {r:List DOp} {D:DSt} (h: ¬D.off=true):endD (o::r) D=endD r (o.did D):=by conv=>lhs;unfold endD;rw [if_neg h]
theorem did_n (o:DOp) (D:DSt):(o.did D).n=D.n:=by cases o<;>rfl
theorem did_ops (o:DOp) (D:DSt):(o.did D).ops=D.ops+1:=by cases o<;>rfl
theorem did_lim (o:DOp) (D:DSt):(o.did D).lim=D.lim.map (· -1):=by cases o<;>rfl
theorem did_wf {o:DOp} {D:DSt} (h:D.Wf) (ho:o.ok D.n):(o.did D).Wf:=by
  cases o with
  | wr k b=>exact DSt.put_wf (DSt.op_wf h) ho.1 ho.2 (Nat.succ_le_succ (h.few _))
  | fl=>exact DSt.flushed_wf (DSt.op_wf h)
theorem runD_n: ∀(l:List DOp) (D:DSt),(runD l D).n=D.n
  | [],_=>rfl
  | o::r,D=>by
    unfold runD
    split
    · rfl
    · rw [runD_n r,did_n]
theorem runD_ops: ∀(l:List DOp) (D:DSt),(runD l D).ops≤D.ops+l.length
  | [],_=>Nat.le_refl _
  | o::r,D=>by
    unfold runD
    split
    · show D.ops+1≤_;simp
    · have:=runD_ops r (o.did D)
      rw [did_ops] at this
      simp only [List.length_cons];omega
theorem runD_wf: ∀(l:List DOp) (D:DSt),D.Wf→(∀o∈l,o.ok D.n)→(runD l D).Wf
  | [],_,h,_=>h
  | o::r,D,h,hl=>by
    unfold runD
    split
    · exact DSt.op_wf h
    · exact runD_wf r _ (did_wf h (hl o (by simp))) (fun p hp=>by rw [did_n];exact hl p (by simp [hp]))
theorem endD_cases: ∀(l:List DOp) (D:DSt),endD l D=0∨endD l D=9
  | [],_=> .inl rfl
  | o::r,D=>by
    unfold endD
    split
    · exact .inr rfl
    · exact endD_cases r _
theorem runD_append: ∀(a b:List DOp) (D:DSt),endD a D=0→runD (a++b) D=runD b (runD a D)∧endD (a++b) D=endD b (runD a D)
  | [],_,_,_=>⟨rfl,rfl⟩
  | o::r,b,D,h=>by
    by_cases ho:D.off=true
    · rw [endD_yes ho] at h;cases h
    · rw [endD_no ho] at h
      rw [List.cons_append,runD_no ho,endD_no ho,runD_no ho]
      exact runD_append r b _ h
theorem runD_stop: ∀(a b:List DOp) (D:DSt),endD a D=9→runD (a++b) D=runD a D∧endD (a++b) D=9
  | [],_,_,h=>by cases h
  | o::r,b,D,h=>by
    by_cases ho:D.off=true
    · rw [List.cons_append,runD_yes ho,endD_yes ho,runD_yes ho];exact ⟨rfl,rfl⟩
    · rw [endD_no ho] at h
      rw [List.cons_append,runD_no ho,endD_no ho,runD_no ho]
      exact runD_stop r b _ h
theorem endD_none: ∀(l:List DOp) (D:DSt),D.lim=none→endD l D=0∧(runD l D).lim=none
  | [],_,h=>⟨rfl,h⟩
  | o::r,D,h=>by
    have ho:D.off=false:=off_of_lim h
    unfold endD runD
    rw [if_neg (by simp [ho]),if_neg (by simp [ho])]
    exact endD_none r _ (by rw [did_lim,h];rfl)
def Img (D:DSt) (C:Nat→Blk):Prop:= ∀k,C k=D.base k∨C k∈D.pend k
def setB (C:Nat→Blk) (k:Nat) (b:Blk):Nat→Blk:=fun x=>if x=k then b else C x
theorem img_last (D:DSt):Img D D.last:=fun k=>by
  unfold DSt.last
  cases hp:D.pend k with
  | nil=>exact .inl rfl
  | cons a l=>exact .inr (List.getLast_mem (l:=a::l) (by simp))
theorem img_put {D:DSt} {k:Nat} {b:Blk} {C:Nat→Blk} (h:Img (D.put k b) C): ∃C',Img D C'∧(C=C'∨C=setB C' k b):=by
  by_cases hk:C k=D.base k∨C k∈D.pend k
  · refine ⟨C,fun x=>?_,.inl rfl⟩
    by_cases hx:x=k
    · subst hx;exact hk
    · have:=h x
      simp only [DSt.put,if_neg hx] at this
      exact this
  · refine ⟨setB C k (D.base k),fun x=>?_,.inr ?_⟩
    · unfold setB
      by_cases hx:x=k
      · subst hx;rw [if_pos rfl];exact .inl rfl
      · rw [if_neg hx]
        have:=h x
        simp only [DSt.put,if_neg hx] at this
        exact this
    · have hb:C k=b:=by
        have:=h k
        simp only [DSt.put,if_true] at this
        rcases this with h1 | h1
        · exact absurd (.inl h1) hk
        · rcases List.mem_append.1 h1 with h2 | h2
          · exact absurd (.inr h2) hk
          · simpa using h2
      funext x
      unfold setB
      by_cases hx:x=k
      · subst hx;rw [if_pos rfl];exact hb
      · rw [if_neg hx,if_neg hx]
def Safe (D:DSt) (P:(Nat→Blk)→Prop):Prop:= ∀C,Img D C→P C
theorem Safe.mono {D:DSt} {P Q:(Nat→Blk)→Prop} (h:Safe D P) (hq: ∀C,P C→Q C):Safe D Q:=fun C hC=>hq C (h C hC)
theorem Safe.put {D:DSt} {P:(Nat→Blk)→Prop} (h:Safe D P) (k:Nat) (b:Blk) (hk: ∀C,P C→P (setB C k b)):Safe (D.op.put k b) P:=fun C hC=>by
  obtain ⟨C',h1,h2 | h2⟩:=img_put hC
  · subst h2;exact h _ h1
  · subst h2;exact hk _ (h _ h1)
theorem Safe.fl {D:DSt} {P:(Nat→Blk)→Prop} (h:Safe D P):Safe D.op.flushed P:=fun C hC=>by
  have:C=D.last:=funext fun k=>by
    rcases hC k with h1 | h1
    · exact h1
    · simp [DSt.flushed] at h1
  subst this
  exact h _ (img_last D)
theorem Safe.run {P:(Nat→Blk)→Prop}: ∀(l:List DOp) {D:DSt},Safe D P→(∀k b,.wr k b∈l→∀C,P C→P (setB C k b))→Safe (runD l D) P
  | [],_,h,_=>h
  | o::r,D,h,hl=>by
    unfold runD
    split
    · exact h
    · refine Safe.run r ?_ (fun k b hm=>hl k b (by simp [hm]))
      cases o with
      | wr k b=>exact h.put k b (hl k b (by simp))
      | fl=>exact h.fl
theorem Safe.clean {D:DSt} {P:(Nat→Blk)→Prop} (hp: ∀k,D.pend k= []) (h:P D.base):Safe D P:=fun C hC=>by
  have:C=D.base:=funext fun k=>by
    rcases hC k with h1 | h1
    · exact h1
    · rw [hp] at h1;cases h1
  rw [this];exact h
theorem Safe.base {D:DSt} {P:(Nat→Blk)→Prop} (h:Safe D P):P D.base:=h _ (fun k=> .inl rfl)
theorem last_fun_clean {D:DSt} (hp: ∀k,D.pend k= []):D.last=D.base:=funext fun k=>last_of_clean D k (hp k)
def laysOn:List DOp→(Nat→Blk)→(Nat→Blk)
  | [],C=>C
  | .wr k b::r,C=>laysOn r (setB C k b)
  | .fl::r,C=>laysOn r C
theorem last_put_fun (D:DSt) (k:Nat) (b:Blk):(D.op.put k b).last=setB D.last k b:=funext fun x=>by
  unfold setB
  by_cases hx:x=k
  · subst hx;rw [if_pos rfl];exact last_put_same _ _ _
  · rw [if_neg hx];exact last_put_other _ _ hx
theorem runD_last: ∀(l:List DOp) (D:DSt),endD l D=0→(runD l D).last=laysOn l D.last
  | [],_,_=>rfl
  | o::r,D,h=>by
    unfold endD at h
    unfold runD
    split
    · rename_i ho;rw [if_pos ho] at h;cases h
    · rename_i ho
      rw [if_neg ho] at h
      rw [runD_last r _ h]
      cases o with
      | wr k b=>show laysOn r (D.op.put k b).last=_;rw [last_put_fun];rfl
      | fl=>rfl
theorem runD_fl (l:List DOp) (D:DSt) (h:endD (l++ [.fl]) D=0):(∀k,(runD (l++ [.fl]) D).pend k= [])∧(runD (l++ [.fl]) D).base=laysOn l D.last:=by
  rcases endD_cases l D with h0 | h9
  · obtain ⟨e1,e2⟩:=runD_append l [.fl] D h0
    rw [e2] at h
    rw [e1]
    unfold endD at h
    unfold runD
    split
    · rename_i ho;rw [if_pos ho] at h;cases h
    · exact ⟨fun k=>rfl,by show (runD l D).last=_;exact runD_last l D h0⟩
  · rw [(runD_stop l [.fl] D h9).2] at h;cases h
theorem laysOn_append: ∀(a b:List DOp) (C:Nat→Blk),laysOn (a++b) C=laysOn b (laysOn a C)
  | [],_,_=>rfl
  | .wr k x::r,b,C=>laysOn_append r b _
  | .fl::r,b,C=>laysOn_append r b _
def markL:List UInt8:= [66,79,76,76,65,82,68,72]
def hdrOk (g:Nat) (b:Blk):Bool:=b.take 8==markL && getLE b 8 8==g
def hdrN (b:Blk):Nat:=getLE b 16 8
def hdrCnt (b:Blk):Nat:=getLE b 24 8
def hdrAt (b:Blk) (i:Nat):Nat:=getLE b (32+4*i) 4
def hdrL (b:Blk):List Nat:=(List.range (hdrCnt b)).map (hdrAt b)
def slotB (i:Nat):Nat:=1+61*i
def slotD (C:Nat→Blk) (s m:Nat):List Blk:=(List.range m).map fun i=>C (slotB s+1+i)
theorem slotD_length (C:Nat→Blk) (s m:Nat):(slotD C s m).length=m:=by simp [slotD]
theorem slotD_get (C:Nat→Blk) (s m i:Nat) (h:i<m):(slotD C s m)[i]?=some (C (slotB s+1+i)):=by simp [slotD,h]
structure JDisk (n g:Nat) (C:Nat→Blk) (last:Nat) (o:List Nat) (dt:List Blk):Prop where
  magic:isMagic (C 0)=true
  gen:getLE (C 0) 8 8=g
  slots: ∀i,i<4→hdrOk g (C (slotB i))=true→hdrCnt (C (slotB i))≤60∧hdrN (C (slotB i))%4=i∧hdrN (C (slotB i))≤last
  chosen:(last=0∧o= []∧dt= [])∨(0<last∧hdrOk g (C (slotB (last%4)))=true∧hdrN (C (slotB (last%4)))=last∧o=hdrL (C (slotB (last%4)))∧dt=slotD C (last%4) o.length)
  homes: ∀k∈o,245≤k∧k<n
  nodup:o.Nodup
theorem JDisk.len {n g last:Nat} {C:Nat→Blk} {o:List Nat} {dt:List Blk} (h:JDisk n g C last o dt):dt.length=o.length:=by
  rcases h.chosen with ⟨_,rfl,rfl⟩ | ⟨_,_,_,_,h5⟩
  · rfl
  · rw [h5,slotD_length]
theorem JDisk.few {n g last:Nat} {C:Nat→Blk} {o:List Nat} {dt:List Blk} (h:JDisk n g C last o dt):o.length≤60:=by
  rcases h.chosen with ⟨_,rfl,rfl⟩ | ⟨h0,h1,h2,h3,h5⟩
  · exact Nat.zero_le _
  · rw [h3]
    have:=(h.slots (last%4) (by omega) h1).1
    simpa [hdrL] using this
def pickTo (g:Nat) (C:Nat→Blk):Nat→Nat×List Nat
  | 0=>(0,[])
  | i+1=>if hdrOk g (C (slotB i))=true∧(pickTo g C i).1<hdrN (C (slotB i)) then (hdrN (C (slotB i)),hdrL (C (slotB i))) else pickTo g C i
theorem pickTo_le {n g last:Nat} {C:Nat→Blk} {o:List Nat} {dt:List Blk} (h:JDisk n g C last o dt): ∀i,i≤4→(pickTo g C i).1≤last
  | 0,_=>Nat.zero_le _
  | i+1,hi=>by
    unfold pickTo
    split
    · rename_i hc;exact (h.slots i (by omega) hc.1).2.2
    · exact pickTo_le h i (by omega)
theorem pickTo_lt {n g last:Nat} {C:Nat→Blk} {o:List Nat} {dt:List Blk} (h:JDisk n g C last o dt) (hl:0<last): ∀i,i≤last%4→(pickTo g C i).1<last
  | 0,_=>hl
  | i+1,hi=>by
    unfold pickTo
    split
    · rename_i hc
      obtain ⟨_,h2,h3⟩:=h.slots i (by omega) hc.1
      show hdrN (C (slotB i))<last
      rcases Nat.lt_or_eq_of_le h3 with h4 | h4
      · exact h4
      · rw [h4] at h2;omega
    · exact pickTo_lt h hl i (by omega)
theorem pickTo_stay {n g last:Nat} {C:Nat→Blk} {o:List Nat} {dt:List Blk} (h:JDisk n g C last o dt) (hl:0<last): ∀d,last%4+1+d≤4→pickTo g C (last%4+1+d)=(last,o)
  | 0,_=>by
    rcases h.chosen with ⟨h0,_⟩ | ⟨_,h1,h2,h3,_⟩
    · omega
    · show pickTo g C (last%4+1)=_
      unfold pickTo
      rw [if_pos ⟨h1,by rw [h2];exact pickTo_lt h hl _ (Nat.le_refl _)⟩,h2,h3]
  | d+1,hd=>by
    show pickTo g C (last%4+1+d+1)=_
    have ih:=pickTo_stay h hl d (by omega)
    unfold pickTo
    rw [ih]
    split
    · rename_i hc
      have:=(h.slots (last%4+1+d) (by omega) hc.1).2.2
      have h2:last<hdrN (C (slotB (last%4+1+d))):=hc.2
      omega
    · rfl
theorem JDisk.pick {n g last:Nat} {C:Nat→Blk} {o:List Nat} {dt:List Blk} (h:JDisk n g C last o dt):pickTo g C 4=(last,o):=by
  rcases Nat.eq_zero_or_pos last with h0 | h0
  · subst h0
    have ho:o= []:=by
      rcases h.chosen with ⟨_,h1,_⟩ | ⟨h1,_⟩
      · exact h1
      · omega
    subst ho
    have: ∀i,i≤4→pickTo g C i=(0,[]):=by
      intro i
      induction i with
      | zero=>intro _;rfl
      | succ i ih=>
        intro hi
        unfold pickTo
        rw [ih (by omega)]
        split
        · rename_i hc
          have:=(h.slots i (by omega) hc.1).2.2
          have h2:0<hdrN (C (slotB i)):=hc.2
          omega
        · rfl
    exact this 4 (Nat.le_refl _)
  · have:=pickTo_stay h h0 (3-last%4) (by omega)
    rwa [show last%4+1+(3-last%4)=4 from by omega] at this
def over (o:List Nat) (dt:List Blk) (C:Nat→Blk) (k:Nat):Blk:=
  match o,dt with
  | x::o',b::dt'=>if x=k then b else over o' dt' C k
  | _,_=>C k
theorem over_not: ∀(o:List Nat) (dt:List Blk) (C:Nat→Blk) (k:Nat),k∉o→over o dt C k=C k
  | [],_,_,_,_=>by unfold over;rfl
  | x::o,[],_,_,_=>by unfold over;rfl
  | x::o,b::dt,C,k,h=>by
    unfold over
    rw [if_neg (fun e=>h (by simp [e]))]
    exact over_not o dt C k (fun e=>h (by simp [e]))
theorem over_at: ∀(o:List Nat) (dt:List Blk) (C:Nat→Blk) (i k:Nat) (b:Blk),o.Nodup→o[i]?=some k→dt[i]?=some b→over o dt C k=b
  | [],_,_,_,_,_,_,h,_=>by simp at h
  | x::o,[],_,_,_,_,_,_,h=>by simp at h
  | x::o,c::dt,C,0,k,b,_,h1,h2=>by
    simp at h1 h2;subst h1 h2;unfold over;rw [if_pos rfl]
  | x::o,c::dt,C,i+1,k,b,hn,h1,h2=>by
    simp only [List.getElem?_cons_succ] at h1 h2
    have hm:k∈o:=List.mem_of_getElem? h1
    unfold over
    have hne: ¬x=k:=fun e=>(List.nodup_cons.1 hn).1 (by rw [e];exact hm)
    rw [if_neg hne]
    exact over_at o dt C i k b (List.nodup_cons.1 hn).2 h1 h2
theorem over_congr: ∀(o:List Nat) (dt:List Blk) (C C':Nat→Blk) (k:Nat),dt.length=o.length→(k∉o→C k=C' k)→over o dt C k=over o dt C' k
  | [],_,C,C',k,_,h=>by unfold over;exact h (by simp)
  | x::o,[],_,_,_,hl,_=>by simp at hl
  | x::o,b::dt,C,C',k,hl,h=>by
    unfold over
    split
    · rfl
    · rename_i hx
      exact over_congr o dt C C' k (by simpa using hl) (fun hk=>h (by simp [hk];exact fun e=>hx e.symm))
def Tells (n g m:Nat) (s:Nat→Blk) (C:Nat→Blk):Prop:= ∃last o dt,last≤m∧JDisk n g C last o dt∧∀k,245≤k→k<n→over o dt C k=s k
def TellsAt (n g last:Nat) (o:List Nat) (dt:List Blk) (s:Nat→Blk) (C:Nat→Blk):Prop:=JDisk n g C last o dt∧∀k,245≤k→k<n→over o dt C k=s k
theorem JDisk.congr {n g last:Nat} {C C':Nat→Blk} {o:List Nat} {dt:List Blk} (h:JDisk n g C last o dt) (h0:C' 0=C 0) (hh: ∀i,i<4→C' (slotB i)=C (slotB i))
    (hd: ∀i,i<o.length→C' (slotB (last%4)+1+i)=C (slotB (last%4)+1+i)):JDisk n g C' last o dt:=by
  refine ⟨by rw [h0];exact h.magic,by rw [h0];exact h.gen,fun i hi=>by rw [hh i hi];exact h.slots i hi,?_,h.homes,h.nodup⟩
  rcases h.chosen with hc | ⟨h1,h2,h3,h4,h5⟩
  · exact .inl hc
  · refine .inr ⟨h1,?_,?_,?_,?_⟩
    · rw [hh _ (by omega)];exact h2
    · rw [hh _ (by omega)];exact h3
    · rw [hh _ (by omega)];exact h4
    · rw [h5]
      unfold slotD
      apply List.map_congr_left
      intro i hi
      exact (hd i (by simpa using hi)).symm
theorem TellsAt.lay {n g last:Nat} {o:List Nat} {dt:List Blk} {s:Nat→Blk} {C:Nat→Blk} (h:TellsAt n g last o dt s C) {i k:Nat} {b:Blk} (hk:o[i]?=some k) (hb:dt[i]?=some b):
    TellsAt n g last o dt s (setB C k b):=by
  have hkm:=List.mem_of_getElem? hk
  have hk2:=h.1.homes k hkm
  have hf:=h.1.few
  refine ⟨h.1.congr ?_ ?_ ?_,fun x h1 h2=>?_⟩
  · unfold setB;rw [if_neg (by omega)]
  · intro j hj;unfold setB;rw [if_neg (by unfold slotB;omega)]
  · intro j hj;unfold setB;rw [if_neg (by unfold slotB;omega)]
  · rw [←h.2 x h1 h2]
    refine over_congr o dt _ _ x h.1.len (fun hx=>?_)
    have hne: ¬x=k:=fun e=>hx (by rw [e];exact hkm)
    unfold setB;rw [if_neg hne]
theorem TellsAt.data {n g last:Nat} {o:List Nat} {dt:List Blk} {s:Nat→Blk} {C:Nat→Blk} (h:TellsAt n g last o dt s C) {t i:Nat} (b:Blk) (ht:t<4) (hne:t≠last%4) (hi:i<60):
    TellsAt n g last o dt s (setB C (slotB t+1+i) b):=by
  have hf:=h.1.few
  refine ⟨h.1.congr ?_ ?_ ?_,fun x h1 h2=>?_⟩
  · unfold setB;rw [if_neg (by omega)]
  · intro j hj;unfold setB;rw [if_neg (by unfold slotB;omega)]
  · intro j hj;unfold setB;rw [if_neg (by unfold slotB;omega)]
  · rw [←h.2 x h1 h2]
    refine over_congr o dt _ _ x h.1.len (fun hx=>?_)
    unfold setB;rw [if_neg (by unfold slotB;omega)]
def settleOps:List Nat→List Blk→List DOp
  | k::o,b::dt=> .wr k b::settleOps o dt
  | _,_=> []
theorem settleOps_mem: ∀(o:List Nat) (dt:List Blk) (k:Nat) (b:Blk),DOp.wr k b∈settleOps o dt→∃i:Nat,o[i]?=some k∧dt[i]?=some b
  | [],_,_,_,h=>by unfold settleOps at h;cases h
  | x::o,[],_,_,h=>by unfold settleOps at h;cases h
  | x::o,c::dt,k,b,h=>by
    unfold settleOps at h
    rcases List.mem_cons.1 h with e | h
    · injection e with e1 e2
      exact ⟨0,by simp [e1],by simp [e2]⟩
    · obtain ⟨i,h1,h2⟩:=settleOps_mem o dt k b h
      exact ⟨i+1,by simpa using h1,by simpa using h2⟩
theorem settleOps_length: ∀(o:List Nat) (dt:List Blk),dt.length=o.length→(settleOps o dt).length=o.length
  | [],_,_=>by unfold settleOps;rfl
  | x::o,[],h=>by simp at h
  | x::o,c::dt,h=>by unfold settleOps;simp [settleOps_length o dt (by simpa using h)]
theorem settleOps_take: ∀(o:List Nat) (dt:List Blk) (i k:Nat) (b:Blk),o[i]?=some k→dt[i]?=some b→settleOps (o.take (i+1)) (dt.take (i+1))=settleOps (o.take i) (dt.take i)++ [.wr k b]
  | [],_,_,_,_,h,_=>by simp at h
  | x::o,[],_,_,_,_,h=>by simp at h
  | x::o,c::dt,0,k,b,h1,h2=>by
    simp at h1 h2;subst h1 h2
    simp [settleOps]
  | x::o,c::dt,i+1,k,b,h1,h2=>by
    simp only [List.getElem?_cons_succ] at h1 h2
    simp only [List.take_succ_cons,settleOps,List.cons_append]
    rw [settleOps_take o dt i k b h1 h2]
theorem settleOps_split: ∀(o:List Nat) (dt:List Blk) (n:Nat),settleOps (o.take n) (dt.take n)++settleOps (o.drop n) (dt.drop n)=settleOps o dt
  | [],_,n=>by simp [settleOps]
  | x::o,[],n=>by
    cases n with
    | zero=>simp [settleOps]
    | succ n=>simp only [List.take_nil,List.drop_nil];cases (o.drop n)<;>simp [settleOps]
  | x::o,c::dt,0=>by simp [settleOps]
  | x::o,c::dt,n+1=>by
    simp only [List.take_succ_cons,List.drop_succ_cons,settleOps,List.cons_append]
    rw [settleOps_split o dt n]
theorem lays_settle: ∀(o:List Nat) (dt:List Blk) (C:Nat→Blk),dt.length=o.length→o.Nodup→laysOn (settleOps o dt) C=over o dt C
  | [],_,C,_,_=>by funext k;unfold settleOps over laysOn;rfl
  | x::o,[],_,h,_=>by simp at h
  | x::o,c::dt,C,h,hn=>by
    unfold settleOps laysOn
    rw [lays_settle o dt _ (by simpa using h) (List.nodup_cons.1 hn).2]
    funext k
    conv=>rhs;unfold over
    split
    · rename_i e;subst e
      rw [over_not o dt _ _ (List.nodup_cons.1 hn).1]
      unfold setB;rw [if_pos rfl]
    · rename_i e
      refine over_congr o dt _ _ k (by simpa using h) (fun _=>?_)
      unfold setB;rw [if_neg (fun e'=>e e'.symm)]
def openOps (o:List Nat) (dt:List Blk):List DOp:=settleOps o dt++ [.fl]
theorem openOps_safe {n g last:Nat} {o:List Nat} {dt:List Blk} {s:Nat→Blk} {D:DSt} (h:Safe D (TellsAt n g last o dt s)):Safe (runD (openOps o dt) D) (TellsAt n g last o dt s):=by
  refine h.run _ (fun k b hm C hC=>?_)
  rcases List.mem_append.1 hm with hm | hm
  · obtain ⟨i,h1,h2⟩:=settleOps_mem o dt k b hm
    exact hC.lay h1 h2
  · simp at hm
def Settled (o:List Nat) (dt:List Blk) (C:Nat→Blk):Prop:= ∀(i k:Nat),o[i]?=some k→dt[i]?=some (C k)
theorem over_settled {o:List Nat} {dt:List Blk} {C:Nat→Blk} (hl:dt.length=o.length) (hn:o.Nodup) (h:Settled o dt C) (k:Nat):over o dt C k=C k:=by
  by_cases hk:k∈o
  · obtain ⟨i,hi⟩:=List.getElem?_of_mem hk
    exact over_at o dt C i k _ hn hi (h i k hi)
  · exact over_not o dt C k hk
theorem settled_over {o:List Nat} {dt:List Blk} {C:Nat→Blk} (hl:dt.length=o.length) (hn:o.Nodup):Settled o dt (over o dt C):=fun i k hk=>by
  obtain ⟨h1,_⟩:=List.getElem?_eq_some_iff.1 hk
  have hb:dt[i]?=some (dt[i]'(by omega)):=List.getElem?_eq_getElem (by omega)
  rw [over_at o dt C i k _ hn hk hb]
  exact hb
theorem openOps_done {n g last:Nat} {o:List Nat} {dt:List Blk} {s:Nat→Blk} {D:DSt} (h:TellsAt n g last o dt s D.last) (hs:Safe D (TellsAt n g last o dt s)) (he:endD (openOps o dt) D=0):
    (∀k,(runD (openOps o dt) D).pend k= [])∧TellsAt n g last o dt s (runD (openOps o dt) D).base∧Settled o dt (runD (openOps o dt) D).base:=by
  obtain ⟨h1,h2⟩:=runD_fl _ _ he
  refine ⟨h1,(openOps_safe hs).base,?_⟩
  unfold openOps
  rw [h2,lays_settle o dt _ h.1.len h.1.nodup]
  exact settled_over h.1.len h.1.nodup
def headPut:Blk→Nat→List Nat→Blk
  | b,_,[]=>b
  | b,i,k::r=>headPut (putLE b (32+4*i) 4 k) (i+1) r
def headB (g n:Nat) (ks:List Nat):Blk:=headPut (laidB markL [g,n,ks.length]) 0 ks
theorem headPut_snoc: ∀(l:List Nat) (b:Blk) (i k:Nat),headPut b i (l++ [k])=putLE (headPut b i l) (32+4*(i+l.length)) 4 k
  | [],b,i,k=>rfl
  | m::r,b,i,k=>by
    have:=headPut_snoc r (putLE b (32+4*i) 4 m) (i+1) k
    rw [show i+(m::r).length=i+1+r.length from by simp;omega]
    exact this
theorem headPut_take (b:Blk) (ks:List Nat) (i k:Nat) (h:ks[i]?=some k):headPut b 0 (ks.take (i+1))=putLE (headPut b 0 (ks.take i)) (32+4*i) 4 k:=by
  obtain ⟨h1,h2⟩:=List.getElem?_eq_some_iff.1 h
  rw [List.take_succ_eq_append_getElem h1,h2,headPut_snoc,List.length_take,Nat.min_eq_left (by omega),Nat.zero_add]
theorem headPut_length: ∀(l:List Nat) (b:Blk) (i:Nat),b.length=512→i+l.length≤120→(headPut b i l).length=512
  | [],b,i,h,_=>h
  | m::r,b,i,h,hl=>by
    simp at hl
    exact headPut_length r _ _ ((putLE_length _ _ _ _ (by omega)).trans h) (by omega)
theorem headPut_below: ∀(l:List Nat) (b:Blk) (i x:Nat),b.length=512→i+l.length≤120→x<32+4*i→(headPut b i l)[x]?=b[x]?
  | [],b,i,x,_,_,_=>rfl
  | m::r,b,i,x,h,hl,hx=>by
    simp at hl
    have h1:=headPut_below r (putLE b (32+4*i) 4 m) (i+1) x ((putLE_length _ _ _ _ (by omega)).trans h) (by omega) (by omega)
    show (headPut (putLE b (32+4*i) 4 m) (i+1) r)[x]?=_
    rw [h1,putLE_get _ _ _ _ _ (by omega),if_neg (by omega)]
theorem headPut_at: ∀(l:List Nat) (b:Blk) (i j k:Nat),b.length=512→i+l.length≤120→l[j]?=some k→k<4294967296→getLE (headPut b i l) (32+4*(i+j)) 4=k
  | [],b,i,j,k,_,_,h,_=>by simp at h
  | m::r,b,i,0,k,h,hl,hj,hk=>by
    simp at hj;subst hj
    simp at hl
    have hlen:(putLE b (32+4*i) 4 m).length=512:=(putLE_length _ _ _ _ (by omega)).trans h
    show getLE (headPut (putLE b (32+4*i) 4 m) (i+1) r) _ 4=m
    rw [getLE_congr (bs:=putLE b (32+4*i) 4 m) (fun x h1 h2=>headPut_below r _ (i+1) x hlen (by omega) (by omega))]
    exact getLE_putLE_same _ _ _ _ (by omega) (by omega)
  | m::r,b,i,j+1,k,h,hl,hj,hk=>by
    simp at hl
    have hlen:(putLE b (32+4*i) 4 m).length=512:=(putLE_length _ _ _ _ (by omega)).trans h
    have:=headPut_at r (putLE b (32+4*i) 4 m) (i+1) j k hlen (by omega) (by simpa using hj) hk
    rwa [show i+1+j=i+(j+1) from by omega] at this
theorem mark3_length (g n m:Nat):(laidB markL [g,n,m]).length=512:=laidFrom_length _ _ _ (textBlk_length _ (by decide)) (by simp)
theorem headB_length (g n:Nat) (ks:List Nat) (h:ks.length≤60):(headB g n ks).length=512:=headPut_length _ _ _ (mark3_length _ _ _) (by omega)
theorem mark3_below (g n m x:Nat) (hx:x<8):(laidB markL [g,n,m])[x]?=(textBlk markL)[x]?:=by
  have h0:(textBlk markL).length=512:=textBlk_length _ (by decide)
  have h1:(putLE (textBlk markL) 8 8 g).length=512:=(putLE_length _ _ _ _ (by omega)).trans h0
  have h2:(putLE (putLE (textBlk markL) 8 8 g) 16 8 n).length=512:=(putLE_length _ _ _ _ (by omega)).trans h1
  show (putLE (putLE (putLE (textBlk markL) 8 8 g) 16 8 n) 24 8 m)[x]?=_
  rw [putLE_get _ _ _ _ _ (by omega),if_neg (by omega),putLE_get _ _ _ _ _ (by omega),if_neg (by omega),putLE_get _ _ _ _ _ (by omega),if_neg (by omega)]
theorem mark3_get (g n m:Nat) (hg:g<18446744073709551616) (hn:n<18446744073709551616) (hm:m<18446744073709551616):
    getLE (laidB markL [g,n,m]) 8 8=g∧getLE (laidB markL [g,n,m]) 16 8=n∧getLE (laidB markL [g,n,m]) 24 8=m:=by
  have h0:(textBlk markL).length=512:=textBlk_length _ (by decide)
  have h1:(putLE (textBlk markL) 8 8 g).length=512:=(putLE_length _ _ _ _ (by omega)).trans h0
  have h2:(putLE (putLE (textBlk markL) 8 8 g) 16 8 n).length=512:=(putLE_length _ _ _ _ (by omega)).trans h1
  show getLE (putLE (putLE (putLE (textBlk markL) 8 8 g) 16 8 n) 24 8 m) 8 8=g∧getLE (putLE (putLE (putLE (textBlk markL) 8 8 g) 16 8 n) 24 8 m) 16 8=n∧getLE (putLE (putLE (putLE (textBlk markL) 8 8 g) 16 8 n) 24 8 m) 24 8=m
  refine ⟨?_,?_,getLE_putLE_same _ _ _ _ (by omega) (by omega)⟩
  · rw [getLE_putLE_other _ _ _ _ _ _ (by omega) (by omega),getLE_putLE_other _ _ _ _ _ _ (by omega) (by omega)]
    exact getLE_putLE_same _ _ _ _ (by omega) (by omega)
  · rw [getLE_putLE_other _ _ _ _ _ _ (by omega) (by omega)]
    exact getLE_putLE_same _ _ _ _ (by omega) (by omega)
theorem headB_ok (g n:Nat) (ks:List Nat) (h:ks.length≤60) (hg:g<18446744073709551616) (hn:n<18446744073709551616) (hk: ∀k∈ks,k<4294967296):
    hdrOk g (headB g n ks)=true∧hdrN (headB g n ks)=n∧hdrCnt (headB g n ks)=ks.length∧hdrL (headB g n ks)=ks:=by
  obtain ⟨a1,a2,a3⟩:=mark3_get g n ks.length hg hn (by omega)
  have hl:=mark3_length g n ks.length
  have e1:getLE (headB g n ks) 8 8=g:=(getLE_congr (fun x h1 h2=>headPut_below ks _ 0 x hl (by omega) (by omega))).trans a1
  have e2:getLE (headB g n ks) 16 8=n:=(getLE_congr (fun x h1 h2=>headPut_below ks _ 0 x hl (by omega) (by omega))).trans a2
  have e3:getLE (headB g n ks) 24 8=ks.length:=(getLE_congr (fun x h1 h2=>headPut_below ks _ 0 x hl (by omega) (by omega))).trans a3
  have e4:(headB g n ks).take 8=markL:=by
    have:(headB g n ks).take 8=(textBlk markL).take 8:=by
      apply List.ext_getElem?
      intro x
      rw [List.getElem?_take,List.getElem?_take]
      split
      · rename_i hx
        exact (headPut_below ks _ 0 x hl (by omega) (by omega)).trans (mark3_below _ _ _ _ hx)
      · rfl
    rw [this];rfl
  refine ⟨?_,e2,e3,?_⟩
  · unfold hdrOk;rw [e1,e4];simp
  · unfold hdrL
    have e3':hdrCnt (headB g n ks)=ks.length:=e3
    rw [e3']
    apply List.ext_getElem?
    intro i
    rw [List.getElem?_map]
    rcases Nat.lt_or_ge i ks.length with hi | hi
    · have hki:ks[i]?=some ks[i]:=List.getElem?_eq_getElem hi
      rw [List.getElem?_range hi,hki]
      have:=headPut_at ks (laidB markL [g,n,ks.length]) 0 i ks[i] hl (by omega) hki (hk _ (List.getElem_mem hi))
      rw [Nat.zero_add] at this
      show some (getLE (headB g n ks) (32+4*i) 4)=_
      exact congrArg some this
    · rw [List.getElem?_eq_none (by simpa using hi),List.getElem?_eq_none hi];rfl
def dataFrom (t:Nat):Nat→List Blk→List DOp
  | _,[]=> []
  | i,b::r=> .wr (slotB t+1+i) b::dataFrom t (i+1) r
theorem dataFrom_mem (t:Nat): ∀(l:List Blk) (i k:Nat) (b:Blk),DOp.wr k b∈dataFrom t i l→∃j,k=slotB t+1+(i+j)∧l[j]?=some b
  | [],_,_,_,h=>by simp [dataFrom] at h
  | c::r,i,k,b,h=>by
    unfold dataFrom at h
    rcases List.mem_cons.1 h with e | h
    · injection e with e1 e2
      exact ⟨0,by omega,by simp [e2]⟩
    · obtain ⟨j,h1,h2⟩:=dataFrom_mem t r (i+1) k b h
      exact ⟨j+1,by omega,by simpa using h2⟩
theorem dataFrom_fl (t:Nat): ∀(l:List Blk) (i:Nat),DOp.fl∉dataFrom t i l
  | [],_=>by simp [dataFrom]
  | c::r,i=>by unfold dataFrom;simp [dataFrom_fl t r]
theorem dataFrom_length (t:Nat): ∀(l:List Blk) (i:Nat),(dataFrom t i l).length=l.length
  | [],_=>rfl
  | c::r,i=>by unfold dataFrom;simp [dataFrom_length t r]
theorem lays_data (t:Nat): ∀(l:List Blk) (i:Nat) (C:Nat→Blk) (x:Nat),laysOn (dataFrom t i l) C x=if slotB t+1+i≤x then (l[x-(slotB t+1+i)]?).getD (C x) else C x
  | [],i,C,x=>by simp [dataFrom,laysOn]
  | b::r,i,C,x=>by
    unfold dataFrom laysOn
    rw [lays_data t r (i+1) _ x]
    unfold setB
    rcases Nat.lt_trichotomy x (slotB t+1+i) with h | h | h
    · rw [if_neg (by omega),if_neg (by omega),if_neg (by omega)]
    · subst h
      rw [if_neg (by omega),if_pos rfl,if_pos (Nat.le_refl _),Nat.sub_self];rfl
    · rw [if_pos (by omega),if_neg (by omega),if_pos (by omega),show x-(slotB t+1+i)=(x-(slotB t+1+(i+1)))+1 from by omega,List.getElem?_cons_succ]
def writeOps (g last:Nat) (om:List Nat) (dm:List Blk) (ks:List Nat) (ds:List Blk):List DOp:=
  (settleOps om dm++dataFrom ((last+1)%4) 0 ds)++ [.fl]++ [.wr (slotB ((last+1)%4)) (headB g (last+1) ks),.fl]
def Knows (o:List Nat) (dt:List Blk) (C:Nat→Blk) (om:List Nat) (dm:List Blk):Prop:=(om=o∧dm=dt)∨(om= []∧dm= []∧Settled o dt C)
structure MayL (n:Nat) (ks:List Nat) (ds:List Blk):Prop where
  home: ∀k∈ks,245≤k∧k<n
  nodup:ks.Nodup
  few:ks.length≤60
  len:ds.length=ks.length
theorem headed {n g last:Nat} {o ks:List Nat} {dt ds:List Blk} {s:Nat→Blk} {C:Nat→Blk} (h:TellsAt n g last o dt s C) (hs:Settled o dt C) (hl:MayL n ks ds) (hd: ∀(i:Nat) (b:Blk),ds[i]?=some b→C (slotB ((last+1)%4)+1+i)=b)
    (hn:n≤65536) (hg:g<18446744073709551616) (hla:last+1<18446744073709551616):
    TellsAt n g (last+1) ks ds (over ks ds s) (setB C (slotB ((last+1)%4)) (headB g (last+1) ks)):=by
  obtain ⟨b1,b2,b3,b4⟩:=headB_ok g (last+1) ks hl.few hg hla (fun k hk=>by have:=hl.home k hk;omega)
  have hset: ∀i,i<4→i≠(last+1)%4→setB C (slotB ((last+1)%4)) (headB g (last+1) ks) (slotB i)=C (slotB i):=fun i hi hne=>by
    unfold setB;rw [if_neg (by unfold slotB;omega)]
  have hself:setB C (slotB ((last+1)%4)) (headB g (last+1) ks) (slotB ((last+1)%4))=headB g (last+1) ks:=by unfold setB;rw [if_pos rfl]
  have h0:setB C (slotB ((last+1)%4)) (headB g (last+1) ks) 0=C 0:=by unfold setB;rw [if_neg (by unfold slotB;omega)]
  refine ⟨⟨by rw [h0];exact h.1.magic,by rw [h0];exact h.1.gen,fun i hi=>?_,.inr ⟨by omega,by rw [hself];exact b1,by rw [hself];exact b2,by rw [hself];exact b4.symm,?_⟩,hl.home,hl.nodup⟩,fun k h1 h2=>?_⟩
  · by_cases hi2:i=(last+1)%4
    · subst hi2
      rw [hself]
      exact fun _=>⟨by rw [b3];exact hl.few,by rw [b2],by rw [b2];exact Nat.le_refl _⟩
    · rw [hset i hi hi2]
      exact fun hok=>by obtain ⟨c1,c2,c3⟩:=h.1.slots i hi hok;exact ⟨c1,c2,by omega⟩
  · apply List.ext_getElem?
    intro i
    rcases Nat.lt_or_ge i ks.length with hi | hi
    · rw [slotD_get _ _ _ _ hi]
      have hb:ds[i]?=some (ds[i]'(by rw [hl.len];exact hi)):=List.getElem?_eq_getElem _
      have:=hd i _ hb
      unfold setB
      rw [if_neg (by unfold slotB;omega),this]
      exact hb
    · rw [List.getElem?_eq_none (by rw [hl.len];exact hi),List.getElem?_eq_none (by rw [slotD_length];exact hi)]
  · refine over_congr ks ds _ _ k hl.len (fun hk=>?_)
    rw [←h.2 k h1 h2,over_settled h.1.len h.1.nodup hs]
    unfold setB;rw [if_neg (by unfold slotB;omega)]
theorem commit_safe {n g last:Nat} {o om ks:List Nat} {dt dm ds:List Blk} {s:Nat→Blk} {D:DSt} (hp: ∀k,D.pend k= []) (h:TellsAt n g last o dt s D.base) (hk:Knows o dt D.base om dm) (hl:MayL n ks ds)
    (hn:n≤65536) (hg:g<18446744073709551616) (hla:last+1<18446744073709551616):
    Safe (runD (writeOps g last om dm ks ds) D) (fun C=>TellsAt n g last o dt s C∨TellsAt n g (last+1) ks ds (over ks ds s) C)∧
    (endD (writeOps g last om dm ks ds) D=0→(∀k,(runD (writeOps g last om dm ks ds) D).pend k= [])∧TellsAt n g (last+1) ks ds (over ks ds s) (runD (writeOps g last om dm ks ds) D).base):=by
  obtain ⟨l1,hl1⟩: ∃l1,settleOps om dm++dataFrom ((last+1)%4) 0 ds=l1:=⟨_,rfl⟩
  have hS1:Safe (runD (l1++ [.fl]) D) (TellsAt n g last o dt s):=by
    refine (Safe.clean hp h).run _ (fun k b hm C hC=>?_)
    rw [←hl1] at hm
    rcases List.mem_append.1 hm with hm | hm
    · rcases List.mem_append.1 hm with hm | hm
      · obtain ⟨i,h1,h2⟩:=settleOps_mem om dm k b hm
        rcases hk with ⟨rfl,rfl⟩ | ⟨rfl,rfl,_⟩
        · exact hC.lay h1 h2
        · simp at h1
      · obtain ⟨j,h1,h2⟩:=dataFrom_mem _ ds 0 k b hm
        have hj:=(List.getElem?_eq_some_iff.1 h2).1
        subst h1
        have:=hl.few
        have:=hl.len
        exact hC.data b (by omega) (by omega) (by omega)
    · simp at hm
  unfold writeOps
  rw [hl1]
  rcases endD_cases (l1++ [.fl]) D with h0 | h9
  · obtain ⟨e1,e2⟩:=runD_append (l1++ [.fl]) [.wr (slotB ((last+1)%4)) (headB g (last+1) ks),.fl] D h0
    rw [e1,e2]
    obtain ⟨p1,p2⟩:=runD_fl l1 D h0
    have hT:=hS1.base
    have p2:(runD (l1++ [.fl]) D).base=laysOn (dataFrom ((last+1)%4) 0 ds) (laysOn (settleOps om dm) D.base):=by rw [p2,last_fun_clean hp,←laysOn_append,hl1]
    obtain ⟨C1,hC1⟩: ∃C1,laysOn (settleOps om dm) D.base=C1:=⟨_,rfl⟩
    rw [hC1] at p2
    have hset1:Settled o dt C1:=by
      rcases hk with ⟨rfl,rfl⟩ | ⟨rfl,rfl,hs⟩
      · rw [←hC1,lays_settle _ _ _ h.1.len h.1.nodup];exact settled_over h.1.len h.1.nodup
      · rw [←hC1];exact hs
    have hset:Settled o dt (runD (l1++ [.fl]) D).base:=fun i k hik=>by
      have:=h.1.homes k (List.mem_of_getElem? hik)
      have h60:=hl.few
      have h61:=hl.len
      rw [p2,lays_data]
      split
      · have hno:ds[k-(slotB ((last+1)%4)+1+0)]?=none:=List.getElem?_eq_none (by unfold slotB;omega)
        rw [hno]
        exact hset1 i k hik
      · exact hset1 i k hik
    have hdat: ∀(i:Nat) (b:Blk),ds[i]?=some b→(runD (l1++ [.fl]) D).base (slotB ((last+1)%4)+1+i)=b:=fun i b hb=>by
      rw [p2,lays_data,if_pos (by omega),show slotB ((last+1)%4)+1+i-(slotB ((last+1)%4)+1+0)=i from by omega,hb];rfl
    have hH:=headed hT hset hl hdat hn hg hla
    obtain ⟨D1,hD1⟩: ∃D1,runD (l1++ [.fl]) D=D1:=⟨_,rfl⟩
    rw [hD1] at p1 hT hH ⊢
    clear p2 hset hdat hC1 hset1
    have hbase:Safe D1 (fun C=>C=D1.base):=Safe.clean p1 rfl
    by_cases hoff:D1.off=true
    · rw [runD_yes hoff,endD_yes hoff]
      exact ⟨Safe.clean (D:=D1.op) p1 (.inl hT),fun h=>by cases h⟩
    · rw [runD_no hoff,endD_no hoff]
      have hS2:Safe (DOp.did (.wr (slotB ((last+1)%4)) (headB g (last+1) ks)) D1) (fun C=>TellsAt n g last o dt s C∨TellsAt n g (last+1) ks ds (over ks ds s) C):=fun C hC=>by
        obtain ⟨C',h1,h2⟩:=img_put (D:=D1.op) hC
        have:C'=D1.base:=hbase _ h1
        subst this
        rcases h2 with rfl | rfl
        · exact .inl hT
        · exact .inr hH
      have hlast:(DOp.did (.wr (slotB ((last+1)%4)) (headB g (last+1) ks)) D1).last=setB D1.base (slotB ((last+1)%4)) (headB g (last+1) ks):=by
        show (D1.op.put _ _).last=_
        rw [last_put_fun,last_fun_clean p1]
      obtain ⟨D2,hD2⟩: ∃D2,DOp.did (.wr (slotB ((last+1)%4)) (headB g (last+1) ks)) D1=D2:=⟨_,rfl⟩
      rw [hD2] at hS2 hlast ⊢
      by_cases hoff2:D2.off=true
      · rw [runD_yes hoff2,endD_yes hoff2]
        exact ⟨hS2,fun h=>by cases h⟩
      · rw [runD_no hoff2,endD_no hoff2]
        refine ⟨hS2.fl,fun _=>⟨fun k=>rfl,?_⟩⟩
        show TellsAt _ _ _ _ _ _ D2.last
        rw [hlast];exact hH
  · obtain ⟨e1,e2⟩:=runD_stop (l1++ [.fl]) [.wr (slotB ((last+1)%4)) (headB g (last+1) ks),.fl] D h9
    rw [e1,e2]
    exact ⟨hS1.mono (fun C hC=> .inl hC),fun h=>by cases h⟩
end
section
open Go.ChangeMaps Go.MapKept Go.RowKit
theorem neJrn: ¬U8T (219:TypeId):=by decide
set_option maxRecDepth 100000 in
theorem S_home {w0:Gnd} {w:World} {rs:List Res} (h:St w0 w rs) (a i:Nat) {H:Hdl} {D:DSt} {jb:Nat} {c:Array Value} {ht: ¬U8T (219:TypeId)} (hr:rs[a]?=some (dev H D)) (hj:rs[i]?=some (arr jb c 219 ht))
    (hc:c[0]?=some (.pointer (some ⟨H.b,0,none⟩))) (k:Int):
    Calls Tryz.prog 144 #[.pointer (some ⟨jb,0,none⟩),.int .i64 k] w fun e w'=>w=w'∧e= .returned (.bool (decide (245≤k) && decide (k<(D.n:Int)))):=by
  have hcell:w.cell? ⟨jb,0,none⟩=some (.pointer (some ⟨H.b,0,none⟩)):=(h.arrCell hj 0).trans hc
  have HB:=Lib.hid (S_Blocks h a hr)
  clear h
  by_cases h1:245≤k
  · by_cases h2:k<(D.n:Int)
    · have HT:Hid ((decide (245≤k) && decide (k<(D.n:Int)))=true):=Lib.hid (by rw [decide_eq_true h1,decide_eq_true h2];rfl)
      go_enter Tryz.func144,Tryz.ntmps144
      go_wp2_with fail
      refine HB.out.mono ?_
      rintro e w2 ⟨rfl,rfl⟩
      go_wp2
      go_ret
      exact ⟨rfl,by rw [HT.out];rfl⟩
    · have HT:Hid ((decide (245≤k) && decide (k<(D.n:Int)))=false):=Lib.hid (by rw [decide_eq_false h2,Bool.and_false])
      go_enter Tryz.func144,Tryz.ntmps144
      go_wp2_with fail
      refine HB.out.mono ?_
      rintro e w2 ⟨rfl,rfl⟩
      go_wp2
      go_ret
      exact ⟨rfl,congrArg (fun b=>Ending.returned (.bool b)) ((decide_eq_false (by omega)).trans HT.out.symm)⟩
  · have HT:Hid ((decide (245≤k) && decide (k<(D.n:Int)))=false):=Lib.hid (by rw [decide_eq_false h1,Bool.false_and])
    go_enter Tryz.func144,Tryz.ntmps144
    go_wp2
    go_ret
    exact ⟨rfl,congrArg (fun b=>Ending.returned (.bool b)) HT.out.symm⟩
def FirstAt (l:List Int) (k:Int) (r:Int):Prop:=
  (∃i:Nat,r=i∧l[i]?=some k∧∀j,j<i→l[j]?≠some k)∨(r= -1∧∀j:Nat,l[j]?≠some k)
set_option maxRecDepth 100000 in
theorem index_any (w:World) (v:Value) (l:List Int) (k:Int) (hv:Elems w v (l.map IntK)) (hl:l.length≤1000000):
    Calls Tryz.prog 145 #[v,.int .i64 k] w fun e w'=>w=w'∧∃r,e= .returned (.int .i64 r)∧FirstAt l k r:=by
  obtain ⟨a,cap,rfl,ha⟩:=hv
  have HA:=Lib.hid ha
  rw [List.length_map]
  clear ha
  go_enter Tryz.func145,Tryz.ntmps145
  go_wp2_with fail
  go_loopw [5,8] (fun _ t wr=>wr=w∧∃i:Nat,i≤l.length∧t= .int .i64 i∧∀j,j<i→l[j]?≠some k) (fun _ t _=>l.length-(intOf t).toNat)
  case atStart=>exact ⟨rfl,0,Nat.zero_le _,rfl,fun j hj=>by omega⟩
  case round=>
    obtain ⟨rfl,i,hi,rfl,hno⟩:=hrel
    have HNO:=Lib.hid hno
    clear hno
    by_cases hlt:i<l.length
    · obtain ⟨x,hx⟩: ∃x,l[i]?=some x:=⟨_,List.getElem?_eq_getElem hlt⟩
      obtain ⟨blk,off,rfl,hb,hc⟩:=HA.out i (IntK x) (by rw [List.getElem?_map,hx];rfl)
      have hc':wr.cell? ⟨blk,off+i,none⟩=some (.int .i64 x):=hc
      have hi0:(0:Int)≤(i:Int):=Int.natCast_nonneg _
      have hi1:(i:Int)<(l.length:Int):=by omega
      have HX:=Lib.hid hx
      clear hx hc hb
      by_cases hk:k=x
      · have hk2:(k==x)=true:=beq_iff_eq.2 hk
        have HK:=Lib.hid hk
        clear hk
        go_wp2
        go_ret
        exact ⟨rfl,_,rfl,.inl ⟨i,rfl,by rw [HX.out,HK.out],HNO.out⟩⟩
      · have hk2:(k==x)=false:=beq_eq_false_iff_ne.2 hk
        have HK:=Lib.hid hk
        clear hk
        have hno2: ∀j,j<i+1→l[j]?≠some k:=fun j hj=>by
          rcases Nat.lt_or_ge j i with h | h
          · exact HNO.out j h
          · obtain rfl:j=i:=by omega
            rw [HX.out]
            intro e
            injection e with e
            exact HK.out e.symm
        have HN2:=Lib.hid hno2
        clear hno2
        go_wp2
        exact ⟨⟨trivial,i+1,hlt,by go_num,HN2.out⟩,by simp [intOf];omega⟩
    · obtain rfl:i=l.length:=by omega
      go_wp2
      go_ret
      refine ⟨rfl,_,rfl,.inr ⟨rfl,fun j=>?_⟩⟩
      rcases Nat.lt_or_ge j l.length with h | h
      · exact HNO.out j h
      · rw [List.getElem?_eq_none h];intro e;cases e
def rowR (t:TypeId) (ht: ¬U8T t) (s:Nat) (v:Value) (n:Nat) (xs:List Value):Res where
  M:=fun x=>v.ownBlock=some x
  inv:=fun Z w=>w.ownsRow 0 t s v n xs
  lt:=fun Z w H x hx=>(H.lt x hx).2
  dry:=fun Z w H x hx c' e=>by
    rcases H.2 with ⟨rfl,_⟩ | ⟨g,cap,cur,rfl,_,h2,_⟩
    · cases hx
    · obtain rfl:g=x:=by simpa [Value.ownBlock] using hx
      exact notC_cells h2 ht _ e
  keep:=fun Z w w' N H hf hd ha=>ownsRow_of_block H (fun g hg=>hf.block g (H.lt g hg).2 (ha g hg))
  zone:=fun Z Z' w H _ _=>H
theorem St.rowNil {w0:Gnd} {w:World} {rs:List Res} (h:St w0 w rs) (t:TypeId) (ht: ¬U8T t) (s:Nat):St w0 w (rowR t ht s (.slice none 0 0) 0 []::rs):=
  h.make (Frm.refl _ _) (rowR t ht s _ _ _) (World.ownsRow_nil _ _ _ _) (fun _ hx=>by cases hx)
theorem St.rowAppend {w0:Gnd} {w:World} {rs:List Res} (h:St w0 w rs) (i:Nat) {t:TypeId} {ht: ¬U8T t} {s n:Nat} {v:Value} {xs:List Value} (hr:rs[i]?=some (rowR t ht s v n xs)) (o:Obj) {v':Value} {w':World} {m:Nat} {ys:List Value}
    (ho:w'.ownsRow 0 t s v' m ys) (hg:(w.alloc o).grownBy w' v.ownBlock) (hat:v'.ownBlock=v.ownBlock∨v'.ownBlock=some (w.alloc o).heap.size):
    St w0 w' (rs.set i (rowR t ht s v' m ys)):=by
  refine h.write i hr (((Frm.refl (rowR t ht s v n xs).M w).alloc o).trans (Frm.ofGrown hg) (fun y _ e=>e)) (rowR t ht s v' m ys) ho (fun x hx=>?_)
  rcases hat with e | e
  · exact .inl (show v.ownBlock=some x from e▸(show v'.ownBlock=some x from hx))
  · have hx:v'.ownBlock=some x:=hx
    rw [e] at hx
    have e':(w.alloc o).heap.size=x:=by injection hx
    have:=((Frm.refl NoB w).alloc o).size
    exact .inr (by omega)
theorem St.drop2nd {w0:Gnd} {w:World} {x y:Res} {rs:List Res} (h:St w0 w (x::y::rs)):St w0 w (x::rs):=h.sub ((List.sublist_cons_self y rs).cons_cons x)
theorem St.drop3rd {w0:Gnd} {w:World} {x y z:Res} {rs:List Res} (h:St w0 w (x::y::z::rs)):St w0 w (x::y::rs):=h.sub (((List.sublist_cons_self z rs).cons_cons y).cons_cons x)
theorem St.swap {w0:Gnd} {w:World} {x y:Res} {rs:List Res} (h:St w0 w (x::y::rs)):St w0 w (y::x::rs):=h.perm (List.Perm.swap _ _ _)
theorem new_one (w:World) (x:Value) (t:TypeId) (j:Nat) (u:Value) (h:([x]:List Value)[j]?=some u):(w.alloc (.cells #[x] t (0,0))).cell? ((⟨w.heap.size,0,none⟩:Addr).add j)=some u:=by
  obtain ⟨h1,h2⟩:=List.getElem?_eq_some_iff.1 h
  obtain rfl:j=0:=by simpa using h1
  rw [show ((⟨w.heap.size,0,none⟩:Addr).add 0)=⟨w.heap.size,0,none⟩ from rfl,cell_of_block (block_alloc_new _ _),←h2]
  rfl
def NatK (k:Nat):Value:= .int .i64 (k:Int)
abbrev rowI (v:Value) (l:List Nat):Res:=rowR 3 neI8 1 v l.length (l.map NatK)
theorem elems_rowI {w:World} {v:Value} {l:List Nat} (h:w.ownsRow 0 3 1 v l.length (l.map NatK)):Elems w v ((l.map (fun k:Nat=>(k:Int))).map IntK):=by
  have e:(l.map (fun k:Nat=>(k:Int))).map IntK=l.map NatK:=by rw [List.map_map];rfl
  have:=elems_of_owns (w:=w) (base:=0) (v:=v) (l:=l.map (fun k:Nat=>(k:Int))) (by rw [List.length_map,e];exact h)
  exact this
theorem St.rowICell {w0:Gnd} {w:World} {rs:List Res} (h:St w0 w rs) {i n cap:Nat} {a:Option Addr} {l:List Nat} (hr:rs[i]?=some (rowI (.slice a n cap) l)) {k x:Nat} (hx:l[k]?=some x):
    ∃gb go,a=some ⟨gb,go,none⟩∧gb<w.heap.size∧w.cell? ⟨gb,go+k,none⟩=some (.int .i64 x):=by
  obtain ⟨a',cap',e,hc⟩:=elems_rowI (h.get hr)
  injection e with e1 e2 e3
  subst e1
  obtain ⟨gb,go,h1,h2,h3⟩:=hc k (.int .i64 x) (by rw [List.getElem?_map,List.getElem?_map,hx];rfl)
  exact ⟨gb,go,h1,h2,h3⟩
theorem St.rowILen {w0:Gnd} {w:World} {rs:List Res} (h:St w0 w rs) {i:Nat} {v:Value} {l:List Nat} (hr:rs[i]?=some (rowI v l)): ∃a cap,v= .slice a l.length cap:=by
  obtain ⟨a',cap',e,hc⟩:=elems_rowI (h.get hr)
  exact ⟨a',cap',by rw [e];simp⟩
theorem infoInt:(Tryz.prog.info? 3).map (fun i=>(i.zero,i.size,i.bytes))=some (some (.int .i64 0),1,8):=infoI64
def HdrRet (w0:Gnd) (rs:List Res) (g:Nat) (b:Blk) (e:Ending) (w':World):Prop:=
  ∃v,e= .returned (.tuple #[.int .u64 (if hdrOk g b then hdrN b else 0:Nat),v])∧St w0 w' (rowI v (if hdrOk g b then hdrL b else [])::rs)
theorem HdrRet.no {w0:Gnd} {w':World} {rs:List Res} {g:Nat} {b:Blk} (h:hdrOk g b=false) (hs:St w0 w' rs):HdrRet w0 rs g b (.returned (.tuple #[.int .u64 0,.slice none 0 0])) w':=
  ⟨_,by rw [h];rfl,by rw [h];exact hs.rowNil _ _ _⟩
theorem HdrRet.yes {w0:Gnd} {w':World} {rs:List Res} {g:Nat} {b:Blk} {v:Value} (h:hdrOk g b=true) (hs:St w0 w' (rowI v (hdrL b)::rs)):HdrRet w0 rs g b (.returned (.tuple #[.int .u64 (hdrN b),v])) w':=
  ⟨_,by rw [h];rfl,by rw [h];exact hs⟩
end
end Go.Proofs.YtlemndledcmhiaaGreatDoor
