/-
  The catalog, from the device up, part 4.
-/
import Derived.Test.YtlemndledcmhiaaGreatDoorU3
import Derived.StillTailTactics
import Derived.IntWalk
namespace Go.Proofs.YtlemndledcmhiaaGreatDoor
set_option linter.unusedVariables false
set_option linter.unusedSimpArgs false
section
open Go.ChangeMaps Go.MapKept Go.RowKit
set_option maxRecDepth 100000 in
theorem S_header {w0:Gnd} {w:World} {rs:List Res} (h:St w0 w rs) (a i:Nat) {H:Hdl} {D:DSt} {jb:Nat} {c:Array Value} {ht: ¬U8T (219:TypeId)} (hr:rs[a]?=some (dev H D)) (hj:rs[i]?=some (arr jb c 219 ht))
    (hc0:c[0]?=some (.pointer (some ⟨H.b,0,none⟩))) {g:Nat} (hc1:c[1]?=some (.int .u64 g)) (s:Nat) (hs:s<4) (hn:246≤D.n) (ho:D.ops<4611686018427387904) (b:Blk) (hb:D.last (slotB s)=b) (hok:hdrOk g b=true→hdrCnt b≤60):
    Calls Tryz.prog 137 #[.pointer (some ⟨jb,0,none⟩),.int .i64 s] w (HdrRet w0 rs g b):=by
  have H0:=Lib.hid h
  have KA:Hid (∀y,Frm NoB w y→y.cell? ⟨jb,0,none⟩=some (.pointer (some ⟨H.b,0,none⟩))):=Lib.hid fun y hy=>((h.frm0 hy).arrCell hj 0).trans hc0
  have c1:=KA.out w (Frm.refl _ _)
  have KB:Hid (∀y v,St w0 y (v::rs)→y.cell? ⟨jb,0,none⟩=some (.pointer (some ⟨H.b,0,none⟩))∧y.cell? ⟨jb,1,none⟩=some (.int .u64 g)):=Lib.hid fun y v hy=>
    ⟨(hy.arrCell (i:=i+1) hj 0).trans hc0,(hy.arrCell (i:=i+1) hj 1).trans hc1⟩
  have hs0:(0:Int)≤(s:Int):=Int.natCast_nonneg _
  have hs1:(s:Int)≤3:=by omega
  have HL:Hid (b.length=512):=Lib.hid (hb▸DSt.last_length (h.get hr).wf (slotB s))
  have HB:=Lib.hid hb
  clear hb
  have HOK:=Lib.hid hok
  clear h hok
  go_enter Tryz.func137,Tryz.ntmps137
  go_wp2_with fail
  clear c1
  go_region_held3 (fun y=>y.cell? ⟨jb,0,none⟩=some (.pointer (some ⟨H.b,0,none⟩)))
    (first | exact hS5 | (refine KA.out _ ?_;first | assumption | exact (Frm.refl NoB w).drew | exact ⟨rfl,rfl,rfl,Nat.le_refl _,fun _ _ _=>rfl⟩))
    (first
      | (go_at_call 140;refine (at_any w.drew (s:Int) 0 hs0 (by omega) (by omega) (by omega)).mono ?_;rintro e w3 ⟨hf3,rfl⟩;have hf3':Frm NoB w w3:=((Frm.refl NoB w).drew).trans hf3 (fun _ _ e=>e))
      | (go_at_call 139;refine (S_Read (H0.out.frm0 hf3') a hr (1+(s:Int)*61) (by omega) (by omega) ho).mono ?_;rintro e w5 ⟨v5,rfl,h5⟩;have hS5:=(KB.out _ _ h5).1))
  all_goals
   have e:((1+(s:Int)*61)).toNat=slotB s:=by unfold slotB;omega
   rw [e,HB.out] at h5
   have H5:=Lib.hid h5
   clear h5 hS5 e hs hn ho
   obtain ⟨blk,off,cap,rfl,hcap,_,_⟩:=(H5.out.get (i:=0) rfl).cells
   have hcap8:8≤cap:=by have:=HL.out;omega
   have hl8:8≤b.length:=by have:=HL.out;omega
   have hce:w5.cell? ⟨jb,1,none⟩=some (.int .u64 g):=(KB.out _ _ H5.out).2
   have HG:Hid (∀k,Calls Tryz.prog 225 #[.slice (some ⟨blk,off,none⟩) b.length cap,.int .i64 1] (w5.drewN k) fun e w'=>e= .returned (.int .u64 (getLE b 8 8))∧w'=w5.drewN k):=Lib.hid fun k=>
    (getN_any (w5.drewN k) _ _ 1 (BytesAt.frm0 (H5.out.get (i:=0) rfl) ((Frm.refl NoB w5).drewN k)).sliceOf (by omega) HL.out).mono fun _ _ ⟨a,b⟩=>⟨b,a.symm⟩
   by_cases hm:b.take 8=markL
   · have hst: ∀k c2,(convert 76 9 (.slice (some ⟨blk,off,none⟩) 8 c2)).run Tryz.prog (w5.drewN k)= .ok (.string { data:= #[66,79,76,76,65,82,68,72] }) (w5.drewN k):=fun k c2=>
      (head_string (BytesAt.frm0 (H5.out.get (i:=0) rfl) ((Frm.refl NoB w5).drewN k)) hl8 c2).trans (by rw [hm];rfl)
     have HM:=Lib.hid hm
     clear hm
     obtain ⟨x,hx⟩: ∃x,getLE b 8 8=x:=⟨_,rfl⟩
     rw [hx] at HG
     have HX:=Lib.hid hx
     clear hx
     by_cases hxg:x=g
     · subst hxg
       have HT:Hid (hdrOk x b=true):=Lib.hid (by unfold hdrOk;rw [HM.out,HX.out];simp)
       have hcnt:((hdrCnt b:Nat):Int)≤60:=by have:=HOK.out HT.out;omega
       have hcnt0:(0:Int)≤((hdrCnt b:Nat):Int):=Int.natCast_nonneg _
       have HG3:Hid (∀W,BytesAt W (.slice (some ⟨blk,off,none⟩) b.length cap) b AnyB→Calls Tryz.prog 225 #[.slice (some ⟨blk,off,none⟩) b.length cap,.int .i64 3] W fun e w'=>W=w'∧e= .returned (.int .u64 (hdrCnt b))):=Lib.hid fun W hW=>getN_any W _ _ 3 hW.sliceOf (by omega) HL.out
       have HG2:Hid (∀W,BytesAt W (.slice (some ⟨blk,off,none⟩) b.length cap) b AnyB→Calls Tryz.prog 225 #[.slice (some ⟨blk,off,none⟩) b.length cap,.int .i64 2] W fun e w'=>W=w'∧e= .returned (.int .u64 (hdrN b))):=Lib.hid fun W hW=>getN_any W _ _ 2 hW.sliceOf (by omega) HL.out
       have HGP:Hid (∀W (p:Nat),p≤508→BytesAt W (.slice (some ⟨blk,off,none⟩) b.length cap) b AnyB→Calls Tryz.prog 147 #[.slice (some ⟨blk,off,none⟩) b.length cap,.int .i64 p,.int .i64 4,.bool false] W fun e w'=>W=w'∧e= .returned (.tuple #[.int .u64 (getLE b p 4),.bool true])):=
        Lib.hid fun W p hp hW=>bitsGet_any W _ _ p 4 hW.sliceOf (by omega) (by omega) (by rw [HL.out];omega) (by rw [HL.out];omega)
       have HLT:Hid (∀p,p≤508→getLE b p 4<4294967296):=Lib.hid fun p hp=>getLE_lt b p 4 (by rw [HL.out];omega)
       clear HOK
       generalize b.length=n512 at*
       obtain ⟨m,hm⟩: ∃m,hdrCnt b=m:=⟨_,rfl⟩
       rw [hm] at hcnt hcnt0 HG3
       have HMM:=Lib.hid hm
       clear hm
       go_wp2_with fail
       go_quiet ((go_at_call 225;exact Calls.quiet_of_same (HG.out _)))
       have H6:Hid (St w0 (w5.drewN nq) (byt (.slice (some ⟨blk,off,none⟩) n512 cap) b::rs)):=Lib.hid (H5.out.frm0 ((Frm.refl NoB w5).drewN _))
       clear hce hst HG
       go_wp2_with fail
       refine (HG3.out _ (H6.out.get (i:=0) rfl)).mono ?_
       rintro e w6 ⟨rfl,rfl⟩
       go_wp2_with fail
       go_loopw [5,8,9,10,42] (fun v _ _ _ t wr=> ∃k:Nat,k≤m∧t= .int .i64 k∧St w0 wr (rowI v ((List.range k).map (hdrAt b))::byt (.slice (some ⟨blk,off,none⟩) n512 cap) b::rs)) (fun _ _ _ _ t _=>m-(intOf t).toNat)
       case atStart=>exact ⟨0,Nat.zero_le _,rfl,H6.out.rowNil _ _ _⟩
       case round=>
         clear H6
         obtain ⟨k,hk,rfl,hst⟩:=hrel
         have HST:=Lib.hid hst
         clear hst
         by_cases hlt:k<m
         · have hk0:(0:Int)≤(k:Int):=Int.natCast_nonneg _
           have hk1:(k:Int)<(m:Int):=by omega
           obtain ⟨p,hp⟩: ∃p:Nat,32+4*k=p:=⟨_,rfl⟩
           have hp2:32+4*(k:Int)=(p:Int):=by omega
           have hp3:p≤508:=by omega
           have HG4:=Lib.hid (HGP.out wr p hp3 (HST.out.get (i:=1) rfl))
           obtain ⟨y,hy⟩: ∃y,getLE b p 4=y:=⟨_,rfl⟩
           rw [hy] at HG4
           have hyl:y<4294967296:=hy▸HLT.out p hp3
           have hy0:(0:Int)≤(y:Int):=Int.natCast_nonneg _
           have hy1:(y:Int)<4294967296:=by omega
           have HY:Hid ((List.range (k+1)).map (hdrAt b)=(List.range k).map (hdrAt b)++ [y]):=Lib.hid (by
             rw [List.range_succ,List.map_append]
             have:hdrAt b k=y:=by unfold hdrAt;rw [hp];exact hy
             simp [this])
           have HLN:Hid (((List.range k).map (hdrAt b)).length=k):=Lib.hid (by simp)
           obtain ⟨L,hL⟩: ∃L,(List.range k).map (hdrAt b)=L:=⟨_,rfl⟩
           rw [hL] at HY HLN HST
           have HHP:=Lib.hid hp
           clear hy hyl hp hp3 hL
           go_wp2_with fail
           refine HG4.out.mono ?_
           clear HG4
           rintro e w7 ⟨rfl,rfl⟩
           have HO:=Lib.hid (World.ownsRow.alloc (HST.out.get (i:=0) rfl) (.cells #[.int .i64 (y:Int)] 3 (0,0)))
           obtain ⟨ii,hi0i,hz0,hz1,hz2⟩:=info_parts infoInt
           have HN:Hid (∀(j:Nat) u,([.int .i64 (y:Int)]:List Value)[j]?=some u→(wr.alloc (.cells #[.int .i64 (y:Int)] 3 (0,0))).cell? ((⟨wr.heap.size,0,none⟩:Addr).add j)=some u):=Lib.hid (new_one wr _ _)
           go_wp2_with (at_builtin;refine wpList_append_own_at _ rfl _ _ 64 rfl 0 3 ii (.int .i64 0) 1 8 Tryz.underlying64 hi0i hz0 hz1 hz2 rfl (by decide) _ _ _ rfl HO.out ⟨wr.heap.size,0,none⟩ 1 1 [.int .i64 (y:Int)] rfl rfl HN.out ?c0 ?c1 ?c2 ?c3 ?_)
           case c0=>intro u hu;simp at hu;subst hu;rfl
           case c1=>rw [HLN.out];simp only [maxLen];omega
           case c2=>rw [HLN.out];omega
           case c3=>omega
           intro v' w8 ho hg2 hnn hat
           have h7:=HST.out.rowAppend 0 rfl (.cells #[.int .i64 (y:Int)] 3 (0,0)) (m:=(L++ [y]).length) (ys:=(L++ [y]).map NatK) (by rw [List.length_append,List.map_append];exact ho) hg2 (by rw [size_alloc];first | exact hat | (rw [size_alloc] at hat;exact hat))
           have H7:=Lib.hid (show St w0 w8 (rowI v' (L++ [y])::byt (.slice (some ⟨blk,off,none⟩) n512 cap) b::rs) from h7)
           rw [←HY.out] at H7
           clear ho hg2 hnn hat h7 HO HN
           go_wp2
           first | exact ⟨⟨k+1,hlt,by go_num,H7.out⟩,by simp [intOf];omega⟩ | (go_roundw;case rel=>first | exact ⟨k+1,hlt,by go_num,H7.out⟩ | ((repeat apply Exists.intro);exact ⟨⟨k+1,hlt,by go_num,H7.out⟩,rfl⟩);case measure=>simp [intOf];omega)
         · have hk1: ¬(k:Int)<(m:Int):=by omega
           have HKM:Hid (k=m):=Lib.hid (by omega)
           have HGT:=Lib.hid (HG2.out wr (HST.out.get (i:=1) rfl))
           go_wp2_with fail
           refine HGT.out.mono ?_
           clear HGT
           rintro e w7 ⟨rfl,rfl⟩
           go_wp2
           go_ret2
           refine HdrRet.yes HT.out ?_
           have e:hdrL b=(List.range k).map (hdrAt b):=by unfold hdrL;rw [HMM.out,HKM.out]
           rw [e]
           exact HST.out.drop2nd
     · have HT:Hid (hdrOk g b=false):=Lib.hid (by unfold hdrOk;rw [HX.out];simp [hxg])
       have hb1:((x:Int)!=(g:Int))=true:=by rw [bne_iff_ne];omega
       clear hxg HOK
       generalize b.length=n512 at*
       go_wp2_with fail
       go_quiet ((go_at_call 225;exact Calls.quiet_of_same (HG.out _)))
       go_wp2
       go_ret2
       exact HdrRet.no HT.out ((H5.out.frm0 ((Frm.refl NoB w5).drewN _)).drop 1)
   · have hst: ∀k c2,(convert 76 9 (.slice (some ⟨blk,off,none⟩) 8 c2)).run Tryz.prog (w5.drewN k)= .ok (.string ⟨(b.take 8).toArray⟩) (w5.drewN k):=fun k c2=>
      head_string (BytesAt.frm0 (H5.out.get (i:=0) rfl) ((Frm.refl NoB w5).drewN k)) hl8 c2
     have HT:Hid (hdrOk g b=false):=Lib.hid (by unfold hdrOk;simp [hm])
     have hb1:(b.take 8== [66,79,76,76,65,82,68,72])=false:=by simpa [markL] using hm
     clear hm HG hce HOK
     generalize b.length=n512 at*
     go_wp2_with fail
     go_quiet (fail)
     go_wp2
     go_ret2
     exact HdrRet.no HT.out ((H5.out.frm0 ((Frm.refl NoB w5).drewN _)).drop 1)
theorem keyTyPlace:Tryz.prog.keyType 224=true:=by kernel_rfl
theorem cellsPlace:Tryz.prog.cellsOf 224=2:=by kernel_rfl
theorem keyOf_place (a b:Int) (wa:okI a) (wb:okI b):
    keyOf Tryz.prog 224 (.agg #[.int .i64 a,.int .i64 b])=some (.string (keyBytes [.int .i64 a,.int .i64 b])):=by
  obtain ⟨d,hd⟩:=typesSz
  unfold keyOf
  simp only [Tryz.underlying224]
  rw [if_pos (by simp [keyTyPlace,Value.formed,Tryz.underlying224,cellsPlace]),hd]
  unfold Program.keyLits
  simp only [Tryz.underlying224,Value.cells]
  rw [if_pos (by rw [cellsPlace];exact ⟨rfl,by decide+kernel⟩)]
  simp only [List.mapM_cons,List.mapM_nil,cellsInt,List.drop_zero,List.take_succ_cons,List.take_zero,List.drop_succ_cons,keyLits_int _ _ wa,keyLits_int _ _ wb]
  rfl
theorem kindPlace:KeyKind Tryz.prog 224 PairK okP:=by
  have K:WideMaps.KeyLaw Tryz.prog 224:=deep_law_laid laidOutP (m:=2) (by omega) (by decide+kernel) (by kernel_rfl) (by kernel_rfl)
  refine ⟨Go.Maps.Keyed.of_law K,fun a ha=>⟨_,keyOf_place a.1 a.2 ha.1 ha.2⟩,fun a b h=>?_⟩
  simp only [PairK,Value.agg.injEq] at h
  have h0:=congrArg (fun x=>x[0]?) h
  have h1:=congrArg (fun x=>x[1]?) h
  simp at h0 h1
  exact Prod.ext h0 h1
def chg (mb sl:Nat) (dt:List Blk):Res where
  M:=Only mb
  inv:=fun Z w=> ∃n f,MapAt PairK okP w mb n f∧∀(i:Nat) b,dt[i]?=some b→∃v,f ((sl:Int),(i:Int))=some v∧BytesAt w v b (Off Z)
  lt:=fun Z w H x hx=>by obtain rfl:x=mb:=hx;obtain ⟨n,f,h,_⟩:=H;exact h.lt
  dry:=fun Z w H x hx c e=>by
    obtain rfl:x=mb:=hx
    obtain ⟨n,f,⟨es,clock,h,_⟩,_⟩:=H
    exact notC_map h c e
  keep:=fun Z w w' N H hf hd ha=>by
    obtain ⟨n,f,h,hb⟩:=H
    refine ⟨n,f,h.of_block (hf.block mb h.lt (ha mb rfl)),fun i b hi=>?_⟩
    obtain ⟨v,h1,h2⟩:=hb i b hi
    exact ⟨v,h1,h2.frmZ hf hd⟩
  zone:=fun Z Z' w H hz _=>by
    obtain ⟨n,f,h,hb⟩:=H
    refine ⟨n,f,h,fun i b hi=>?_⟩
    obtain ⟨v,h1,h2⟩:=hb i b hi
    exact ⟨v,h1,h2.zone hz⟩
theorem okI_small (i:Nat) (h:i<1000000):okI (i:Int):=(okI_iff _).2 (by omega)
theorem St.chgNew {w0:Gnd} {w:World} {rs:List Res} (h:St w0 w rs) (sl:Nat):St w0 (w.alloc (.map #[] 0)) (chg w.heap.size sl []::rs):=
  h.make ((Frm.refl _ _).alloc _) (chg w.heap.size sl []) ⟨0,_,MapAt.made w,fun i b hi=>by simp at hi⟩ (fun x hx=>by obtain rfl:x=w.heap.size:=hx;exact Nat.le_refl _)
theorem St.chgLook {w0:Gnd} {w:World} {rs:List Res} (h:St w0 w rs) {i mb sl:Nat} {dt:List Blk} (hr:rs[i]?=some (chg mb sl dt)) (k:Nat) {b:Blk} (hb:dt[k]?=some b) (hk:k<1000000) (hs:sl<1000000):
    ∃v,(∀W,W.heap[mb]?=w.heap[mb]?→(Instr.lookup 217 (.map (some mb)) (.agg #[.int .i64 sl,.int .i64 k]) false).run Tryz.prog W= .ok v W)∧BytesAt w v b (Off w0.Z):=by
  obtain ⟨n,f,hm,hv⟩:=h.get hr
  obtain ⟨v,h1,h2⟩:=hv k b hb
  refine ⟨v,fun W hW=>?_,h2⟩
  have:=hm.lookup kindPlace Tryz.underlying217 (a:=((sl:Int),(k:Int))) ⟨okI_small _ hs,okI_small _ hk⟩ zeroBytes W hW
  rw [h1] at this
  exact this
theorem S_WriteOp {w0:Gnd} {w:World} {rs:List Res} (h:St w0 w rs) (i j:Nat) {H:Hdl} {D:DSt} {v:Value} {bs:Blk} (hr:rs[i]?=some (dev H D)) (hv:rs[j]?=some (byt v bs)) (k:Int) (ho:D.ops<4611686018427387904) (h0:0≤k) (hk:k<D.n) (hbs:bs.length=512):
    Calls Tryz.prog 227 #[.pointer (some ⟨H.b,0,none⟩),.int .i64 k,v] w fun e w'=>e= .returned (.int .i64 (endD [.wr k.toNat bs] D))∧St w0 w' (rs.set i (dev H (runD [.wr k.toNat bs] D))):=by
  by_cases ho2:D.off=true
  · rw [endD_yes ho2,runD_yes ho2]
    exact S_WriteOff h i hr k v ho ho2
  · rw [endD_no ho2,runD_no ho2]
    exact S_Write h i j hr hv k ho (by simpa using ho2) h0 hk hbs
theorem S_FlushOp {w0:Gnd} {w:World} {rs:List Res} (h:St w0 w rs) (i:Nat) {H:Hdl} {D:DSt} (hr:rs[i]?=some (dev H D)) (ho:D.ops<4611686018427387903):
    Calls Tryz.prog 143 #[.pointer (some ⟨H.b,0,none⟩)] w fun e w'=>e= .returned (.int .i64 (endD [.fl] D))∧St w0 w' (rs.set i (dev H (runD [.fl] D))):=by
  by_cases ho2:D.off=true
  · rw [endD_yes ho2,runD_yes ho2]
    exact S_FlushOff h i hr (by omega) ho2
  · rw [endD_no ho2,runD_no ho2]
    exact S_Flush h i hr ho (by simpa using ho2)
theorem slot_is (w:World) (n s:Nat) (hn:n<18446744073709551616) (hs:n%4=s):
    Calls Tryz.prog 138 #[.int .u64 n] w fun e w'=>e= .returned (.int .i64 s)∧w'=w:=by
  subst hs
  exact (slot_any w n hn).mono fun _ _ ⟨a,b⟩=>⟨b,a.symm⟩
def OpsRet (w0:Gnd) (rs:List Res) (a:Nat) (H:Hdl) (l:List DOp) (D:DSt) (e:Ending) (w':World):Prop:=
  e= .returned (.int .i64 (endD l D))∧St w0 w' (rs.set a (dev H (runD l D)))
set_option maxRecDepth 100000 in
theorem S_settle {w0:Gnd} {w:World} {rs:List Res} (h:St w0 w rs) (a i p q:Nat) {H:Hdl} {D:DSt} {jb mb last sl:Nat} {ov:Value} {o:List Nat} {dt:List Blk} {c:Array Value} {ht: ¬U8T (219:TypeId)} (hr:rs[a]?=some (dev H D)) (hj:rs[i]?=some (arr jb c 219 ht))
    (hov:rs[p]?=some (rowI ov o)) (hmb:rs[q]?=some (chg mb sl dt)) (hc0:c[0]?=some (.pointer (some ⟨H.b,0,none⟩))) (hc2:c[2]?=some (.int .u64 last)) (hc4:c[4]?=some ov) (hc5:c[5]?=some (.map (some mb)))
    (hsl:last%4=sl) (hla:last<18446744073709551616) (hlen:dt.length=o.length) (ho60:o.length≤60) (hho: ∀k∈o,k<D.n) (hb512: ∀b∈dt,b.length=512) (ho:D.ops<1000000000) (hia:i≠a) (hpa:p≠a) (hqa:q≠a):
    Calls Tryz.prog 142 #[.pointer (some ⟨jb,0,none⟩)] w (OpsRet w0 rs a H (settleOps o dt) D):=by
  have H0:=Lib.hid h
  obtain ⟨oa,ocap,rfl⟩:=h.rowILen hov
  have c4:w.cell? ⟨jb,4,none⟩=some (.slice oa o.length ocap):=(h.arrCell hj 4).trans hc4
  have KC:Hid (∀W X,St w0 W (rs.set a X)→W.cell? ⟨jb,0,none⟩=some (.pointer (some ⟨H.b,0,none⟩))∧W.cell? ⟨jb,2,none⟩=some (.int .u64 last)∧W.cell? ⟨jb,5,none⟩=some (.map (some mb))):=Lib.hid fun W X hW=>
    ⟨(hW.arrCell (i:=i) (by rw [List.getElem?_set_ne (Ne.symm hia)];exact hj) 0).trans hc0,(hW.arrCell (i:=i) (by rw [List.getElem?_set_ne (Ne.symm hia)];exact hj) 2).trans hc2,(hW.arrCell (i:=i) (by rw [List.getElem?_set_ne (Ne.symm hia)];exact hj) 5).trans hc5⟩
  obtain ⟨ha1,ha2⟩:=List.getElem?_eq_some_iff.1 hr
  have hrs:rs.set a (dev H D)=rs:=by rw [←ha2];exact List.set_getElem_self ha1
  have HRS:=Lib.hid hrs
  have HSL:Hid (∀W,Calls Tryz.prog 138 #[.int .u64 last] W fun e w'=>e= .returned (.int .i64 sl)∧w'=W):=Lib.hid fun W=>slot_is W last sl hla hsl
  have hsl4:sl<4:=by omega
  have HHO:=Lib.hid hho
  have HLEN:=Lib.hid hlen
  have H512:=Lib.hid hb512
  have HX:Hid (∀X,(rs.set a X)[a]?=some X):=Lib.hid fun X=>List.getElem?_set_self ha1
  have HOV:Hid (∀X,(rs.set a X)[p]?=some (rowI (.slice oa o.length ocap) o)):=Lib.hid fun X=>by rw [List.getElem?_set_ne (Ne.symm hpa)];exact hov
  have HMB:Hid (∀X,(rs.set a X)[q]?=some (chg mb sl dt)):=Lib.hid fun X=>by rw [List.getElem?_set_ne (Ne.symm hqa)];exact hmb
  have HD:=Lib.hid ho
  clear h hrs ha2 ha1 hr hj hov hmb hc0 hc2 hc4 hc5 hho hlen hb512 hsl hla ho
  go_enter Tryz.func142,Tryz.ntmps142
  go_wp2_with fail
  go_loopw [2,3,4,5,11] (fun _ _ _ _ t wr=> ∃k:Nat,k≤o.length∧t= .int .i64 k∧endD (settleOps (o.take k) (dt.take k)) D=0∧St w0 wr (rs.set a (dev H (runD (settleOps (o.take k) (dt.take k)) D)))) (fun _ _ _ _ t _=>o.length-(intOf t).toNat)
  case atStart=>exact ⟨0,Nat.zero_le _,rfl,by simp [settleOps,endD],by simp only [List.take_zero,settleOps,runD];rw [HRS.out];exact H0.out⟩
  case round=>
    clear H0 HRS c4
    obtain ⟨k,hk,rfl,he,hst⟩:=hrel
    have HST:=Lib.hid hst
    have HE:=Lib.hid he
    clear hst he
    by_cases hlt:k<o.length
    · have hk0:(0:Int)≤(k:Int):=Int.natCast_nonneg _
      have hk1:(k:Int)<(o.length:Int):=by omega
      obtain ⟨x,hx⟩: ∃x,o[k]?=some x:=⟨_,List.getElem?_eq_getElem hlt⟩
      obtain ⟨b,hb⟩: ∃b,dt[k]?=some b:=⟨_,List.getElem?_eq_getElem (by rw [HLEN.out];exact hlt)⟩
      obtain ⟨gb,go,rfl,hgb,hcx⟩:=HST.out.rowICell (HOV.out _) hx
      obtain ⟨v,hlk0,hbv⟩:=HST.out.chgLook (HMB.out _) k hb (by omega) (by omega)
      have hlk:(Instr.lookup 217 (.map (some mb)) (.agg #[.int .i64 sl,.int .i64 k]) false).run Tryz.prog wr.drew= .ok v wr.drew:=hlk0 _ rfl
      have hxn:x<D.n:=HHO.out x (List.mem_of_getElem? hx)
      have hbl:b.length=512:=H512.out b (List.mem_of_getElem? hb)
      obtain ⟨E,hE⟩: ∃E,runD (settleOps (o.take k) (dt.take k)) D=E:=⟨_,rfl⟩
      have HS:=Lib.hid (settleOps_take o dt k x b hx hb)
      rw [hE] at HST
      have hEn:E.n=D.n:=hE▸runD_n _ _
      have hEo:E.ops≤1000001000:=by
        have h1:=runD_ops (settleOps (o.take k) (dt.take k)) D
        rw [hE,settleOps_length _ _ (by rw [List.length_take,List.length_take,HLEN.out])] at h1
        have h2:=HD.out
        rw [List.length_take] at h1
        omega
      have HAP:=Lib.hid (runD_append (settleOps (o.take k) (dt.take k)) [.wr x b] D HE.out)
      rw [hE,←HS.out] at HAP
      have hkc:=KC.out _ _ HST.out
      obtain ⟨k0,k2,k5⟩:=hkc
      have HW:Hid (Calls Tryz.prog 227 #[.pointer (some ⟨H.b,0,none⟩),.int .i64 x,v] wr.drew fun e w'=>e= .returned (.int .i64 (endD [.wr x b] E))∧St w0 w' (rs.set a (dev H (runD [.wr x b] E)))):=by
        have h1:St w0 wr.drew (byt v b::rs.set a (dev H E)):=(HST.out.mkByt (Frm.refl _ _) hbv).frm0 ((Frm.refl NoB wr).drew)
        have:=S_WriteOp h1 (a+1) 0 (HX.out _) rfl (x:Int) (by omega) (by omega) (by omega) hbl
        refine Lib.hid (this.mono fun e w' ⟨h1,h2⟩=>⟨h1,?_⟩)
        have h3:=h2.drop 1
        rw [show (x:Int).toNat=x from by omega] at h3
        simp only [List.set_cons_succ,List.drop_succ_cons,List.drop_zero,List.set_set] at h3
        exact h3
      clear hx hb hE hEn hEo hbl hxn hbv hlk0 hgb
      go_wp2_with fail
      refine wp_region_still_tail 17 (by kernel_rfl) (by kernel_rfl) ?_
      simp only [List.take_succ_cons,List.take_zero,List.drop_succ_cons,List.drop_zero]
      repeat still_step
      still_call (HSL.out _)
      repeat still_step
      refine wpStill_nil ?_
      change wpList _ _ _ _ _ wr.drew
      go_wp2_with fail
      refine HW.out.mono ?_
      rintro e w2 ⟨he,h2⟩
      rcases endD_cases [.wr x b] E with e0 | e9
      · rw [e0] at he
        subst he
        have hend:endD (settleOps (o.take (k+1)) (dt.take (k+1))) D=0:=HAP.out.2.trans e0
        rw [←HAP.out.1] at h2
        have H2:=Lib.hid h2
        have HE2:=Lib.hid hend
        clear h2 hend e0 HW hlk k0 k2 k5 hcx
        go_wp2
        first | exact ⟨⟨k+1,hlt,by go_num,HE2.out,H2.out⟩,by simp [intOf];omega⟩ | (go_roundw;case rel=>first | exact ⟨k+1,hlt,by go_num,HE2.out,H2.out⟩ | ((repeat apply Exists.intro);exact ⟨⟨k+1,hlt,by go_num,HE2.out,H2.out⟩,rfl⟩);case measure=>simp [intOf];omega)
      · rw [e9] at he
        subst he
        have hst2:=runD_stop (settleOps (o.take (k+1)) (dt.take (k+1))) (settleOps (o.drop (k+1)) (dt.drop (k+1))) D (HAP.out.2.trans e9)
        have hsp:=settleOps_split o dt (k+1)
        rw [hsp] at hst2
        rw [←HAP.out.1,←hst2.1] at h2
        have H2:=Lib.hid h2
        have HE2:=Lib.hid hst2.2
        clear h2 e9 HW hlk k0 k2 k5 hcx hst2 hsp
        go_wp2
        go_ret
        exact ⟨by rw [HE2.out];rfl,H2.out⟩
    · have hk1: ¬(k:Int)<(o.length:Int):=by omega
      have hkl:k=o.length:=by omega
      have HE2:Hid (endD (settleOps o dt) D=0):=Lib.hid (by have:=HE.out;rw [hkl,List.take_length,←HLEN.out,List.take_length] at this;exact this)
      have H2:Hid (St w0 wr (rs.set a (dev H (runD (settleOps o dt) D)))):=Lib.hid (by have:=HST.out;rw [hkl,List.take_length,←HLEN.out,List.take_length] at this;exact this)
      clear hkl HE HST
      go_wp2
      go_ret
      exact ⟨by rw [HE2.out];rfl,H2.out⟩
def Res.and (r s:Res):Res where
  M:=fun x=>r.M x∨s.M x
  inv:=fun Z w=>r.inv Z w∧s.inv Z w∧∀x,r.M x→¬s.M x
  lt:=fun Z w H x hx=>hx.elim (r.lt Z w H.1 x) (s.lt Z w H.2.1 x)
  dry:=fun Z w H x hx=>hx.elim (r.dry Z w H.1 x) (s.dry Z w H.2.1 x)
  keep:=fun Z w w' N H hf hd ha=>⟨r.keep Z w w' N H.1 hf hd (fun x hx=>ha x (.inl hx)),s.keep Z w w' N H.2.1 hf hd (fun x hx=>ha x (.inr hx)),H.2.2⟩
  zone:=fun Z Z' w H h1 h2=>⟨r.zone Z Z' w H.1 h1 h2,s.zone Z Z' w H.2.1 h1 h2,H.2.2⟩
theorem St.join {w0:Gnd} {w:World} {r s:Res} {rs:List Res} (h:St w0 w (r::s::rs)):St w0 w (r.and s::rs):=by
  obtain ⟨h1,h2⟩:=List.pairwise_cons.1 h.apart
  obtain ⟨h3,h4⟩:=List.pairwise_cons.1 h2
  refine ⟨h.base,h.zin,fun a ha=>?_,fun a ha x hx=>?_,List.pairwise_cons.2 ⟨fun b hb x hx=>?_,h4⟩⟩
  · rcases List.mem_cons.1 ha with rfl | ha
    · exact ⟨h.inv r (by simp),h.inv s (by simp),h1 s (by simp)⟩
    · exact h.inv a (by simp [ha])
  · rcases List.mem_cons.1 ha with rfl | ha
    · rcases hx with hx | hx
      · exact h.new r (by simp) x hx
      · exact h.new s (by simp) x hx
    · exact h.new a (by simp [ha]) x hx
  · rcases hx with hx | hx
    · exact h1 b (by simp [hb]) x hx
    · exact h3 b hb x hx
theorem St.part {w0:Gnd} {w:World} {r s:Res} {rs:List Res} (h:St w0 w (r.and s::rs)):St w0 w (r::s::rs):=by
  obtain ⟨h1,h2⟩:=List.pairwise_cons.1 h.apart
  obtain ⟨i1,i2,i3⟩:=h.inv (r.and s) (by simp)
  refine ⟨h.base,h.zin,fun a ha=>?_,fun a ha x hx=>?_,List.pairwise_cons.2 ⟨fun b hb x hx=>?_,List.pairwise_cons.2 ⟨fun b hb x hx=>h1 b hb x (.inr hx),h2⟩⟩⟩
  · rcases List.mem_cons.1 ha with rfl | ha
    · exact i1
    · rcases List.mem_cons.1 ha with rfl | ha
      · exact i2
      · exact h.inv a (by simp [ha])
  · rcases List.mem_cons.1 ha with rfl | ha
    · exact h.new (a.and s) (by simp) x (.inl hx)
    · rcases List.mem_cons.1 ha with rfl | ha
      · exact h.new (r.and a) (by simp) x (.inr hx)
      · exact h.new a (by simp [ha]) x hx
  · rcases List.mem_cons.1 hb with rfl | hb
    · exact i3 x hx
    · exact h1 b hb x (.inl hx)
def voidR:Res where
  M:=NoB
  inv:=fun _ _=>True
  lt:=fun _ _ _ _ h=>h.elim
  dry:=fun _ _ _ _ h=>h.elim
  keep:=fun _ _ _ _ _ _ _ _=>trivial
  zone:=fun _ _ _ _ _ _=>trivial
structure JSt where
  gen:Nat
  last:Nat
  dead:Bool
  order:List Nat
  data:List Blk
structure JHdl where
  jb:Nat
  ov:Value
  mb:Nat
def jcells (H:Hdl) (h:JHdl) (J:JSt):Array Value:= #[.pointer (some ⟨H.b,0,none⟩),.int .u64 J.gen,.int .u64 J.last,.bool J.dead,h.ov,.map (some h.mb)]
def jrn (H:Hdl) (h:JHdl) (J:JSt):Res:=(arr h.jb (jcells H h J) 219 neJrn).and ((rowI h.ov J.order).and (chg h.mb (J.last%4) J.data))
theorem St.jOpen {w0:Gnd} {w:World} {rs:List Res} {H:Hdl} {h:JHdl} {J:JSt} (hs:St w0 w (jrn H h J::rs)):St w0 w (arr h.jb (jcells H h J) 219 neJrn::rowI h.ov J.order::chg h.mb (J.last%4) J.data::rs):=by
  have h1:=hs.part
  have h2:=h1.perm (rs':=(rowI h.ov J.order).and (chg h.mb (J.last%4) J.data)::arr h.jb (jcells H h J) 219 neJrn::rs) (List.Perm.swap _ _ _)
  exact h2.part.perm ((List.Perm.cons _ (List.Perm.swap _ _ _)).trans (List.Perm.swap _ _ _))
theorem St.jShut {w0:Gnd} {w:World} {rs:List Res} {H:Hdl} {h:JHdl} {J:JSt} (hs:St w0 w (arr h.jb (jcells H h J) 219 neJrn::rowI h.ov J.order::chg h.mb (J.last%4) J.data::rs)):St w0 w (jrn H h J::rs):=by
  have h1:=hs.perm (rs':=rowI h.ov J.order::chg h.mb (J.last%4) J.data::arr h.jb (jcells H h J) 219 neJrn::rs) ((List.Perm.swap _ _ _).trans (List.Perm.cons _ (List.Perm.swap _ _ _)))
  exact (h1.join.perm (List.Perm.swap _ _ _)).join
theorem over_first: ∀(o:List Nat) (dt:List Blk) (C:Nat→Blk) (i k:Nat) (b:Blk),o[i]?=some k→dt[i]?=some b→(∀j,j<i→o[j]?≠some k)→over o dt C k=b
  | [],_,_,_,_,_,h,_,_=>by simp at h
  | x::o,[],_,_,_,_,_,h,_=>by simp at h
  | x::o,c::dt,C,0,k,b,h1,h2,_=>by
    simp at h1 h2;subst h1 h2;unfold over;rw [if_pos rfl]
  | x::o,c::dt,C,i+1,k,b,h1,h2,h3=>by
    simp only [List.getElem?_cons_succ] at h1 h2
    have hne: ¬x=k:=fun e=>h3 0 (by omega) (by simp [e])
    unfold over
    rw [if_neg hne]
    exact over_first o dt C i k b h1 h2 (fun j hj=>by have:=h3 (j+1) (by omega);simpa using this)
def jview (J:JSt) (D:DSt) (k:Nat):Blk:=over J.order J.data D.last k
set_option maxRecDepth 100000 in
theorem S_JReadF {w0:Gnd} {w:World} {rs:List Res} (h:St w0 w rs) (a i p q:Nat) {H:Hdl} {D:DSt} {jb mb last sl:Nat} {ov:Value} {o:List Nat} {dt:List Blk} {c:Array Value} {ht: ¬U8T (219:TypeId)} (hr:rs[a]?=some (dev H D)) (hj:rs[i]?=some (arr jb c 219 ht))
    (hov:rs[p]?=some (rowI ov o)) (hmb:rs[q]?=some (chg mb sl dt)) (hc0:c[0]?=some (.pointer (some ⟨H.b,0,none⟩))) (hc2:c[2]?=some (.int .u64 last)) (hc4:c[4]?=some ov) (hc5:c[5]?=some (.map (some mb)))
    (hsl:last%4=sl) (hla:last<18446744073709551616) (hlen:dt.length=o.length) (ho60:o.length≤60) (hb512: ∀b∈dt,b.length=512) (ho:D.ops<1000000000) (k:Int) (hk0:245≤k) (hk1:k<(D.n:Int)):
    Calls Tryz.prog 64 #[.pointer (some ⟨jb,0,none⟩),.int .i64 k] w fun e w'=> ∃v,e= .returned (.tuple #[v,.int .i64 0])∧Frm NoB w w'∧BytesAt w' v (over o dt D.last k.toNat) (Fresh w):=by
  have HB:=Lib.hid (S_home h a i hr hj hc0 k)
  have hT:(decide (245≤k) && decide (k<(D.n:Int)))=true:=by rw [decide_eq_true hk0,decide_eq_true hk1];rfl
  rw [hT] at HB
  have H0:=Lib.hid h
  have HIX:=Lib.hid (index_any w ov (o.map fun k:Nat=>(k:Int)) k (elems_rowI (h.get hov)) (by rw [List.length_map];omega))
  have c0:w.cell? ⟨jb,0,none⟩=some (.pointer (some ⟨H.b,0,none⟩)):=(h.arrCell hj 0).trans hc0
  have c2:w.cell? ⟨jb,2,none⟩=some (.int .u64 last):=(h.arrCell hj 2).trans hc2
  have c4:w.cell? ⟨jb,4,none⟩=some ov:=(h.arrCell hj 4).trans hc4
  have c5:w.cell? ⟨jb,5,none⟩=some (.map (some mb)):=(h.arrCell hj 5).trans hc5
  have HRD:=Lib.hid (Read_in w H D (h.get hr) k (by omega) hk1 (by omega))
  have HSL:Hid (∀W,Calls Tryz.prog 138 #[.int .u64 last] W fun e w'=>e= .returned (.int .i64 sl)∧w'=W):=Lib.hid fun W=>slot_is W last sl hla hsl
  have hsl4:sl<4:=by omega
  have HLEN:=Lib.hid hlen
  have H512:=Lib.hid hb512
  have HMB:=Lib.hid hmb
  clear h hT hr hj hov hc0 hc2 hc4 hc5 hlen hb512 hsl hla hmb ho
  go_enter Tryz.func64,Tryz.ntmps64
  go_wp2_with fail
  refine HB.out.mono ?_
  rintro e w2 ⟨rfl,rfl⟩
  go_wp2_with fail
  refine HIX.out.mono ?_
  rintro e w3 ⟨rfl,r,rfl,hfst⟩
  rcases hfst with ⟨x,hx1,hx2,hx3⟩ | ⟨hx1,hx2⟩
  · have hox:o[x]?=some k.toNat:=by
      rw [List.getElem?_map] at hx2
      cases hq:o[x]? with
      | none=>rw [hq] at hx2;cases hx2
      | some y=>rw [hq] at hx2;simp at hx2;rw [←hx2];simp
    have hxl:x<o.length:=(List.getElem?_eq_some_iff.1 hox).1
    obtain ⟨b,hb⟩: ∃b,dt[x]?=some b:=⟨_,List.getElem?_eq_getElem (by rw [HLEN.out];exact hxl)⟩
    obtain ⟨v,hlk0,hbv⟩:=H0.out.chgLook HMB.out x hb (by omega) (by omega)
    have hOV:Hid (over o dt D.last k.toNat=b):=Lib.hid (over_first o dt _ x _ b hox hb (fun j hj e=>hx3 j hj (by rw [List.getElem?_map,e];simp;omega)))
    have hbl:b.length=512:=H512.out b (List.mem_of_getElem? hb)
    have hlk:(Instr.lookup 217 (.map (some mb)) (.agg #[.int .i64 sl,.int .i64 x]) false).run Tryz.prog w.drew= .ok v w.drew:=hlk0 _ rfl
    have HBV:Hid (BytesAt w.drew v b (Off w0.Z)):=Lib.hid (hbv.frm0 ((Frm.refl NoB w).drew))
    have HCL:Hid (Calls Tryz.prog 146 #[v] w.drew fun e w'=> ∃v',e= .returned v'∧Frm NoB w w'∧BytesAt w' v' b (Fresh w)):=Lib.hid ((Clone_any w.drew v b (Off w0.Z) HBV.out (by omega)).mono fun e w' ⟨hf,v',e1,hb1⟩=>⟨v',e1,((Frm.refl NoB w).drew).trans hf (fun _ _ e=>e),hb1.fresh (Nat.le_refl _)⟩)
    subst hx1
    have hx0:(0:Int)≤(x:Int):=Int.natCast_nonneg _
    clear hlk0 hbv hbl hb hox hx2 hx3 hxl c4
    go_wp2_with fail
    refine wp_region_still_tail 12 (by kernel_rfl) (by kernel_rfl) ?_
    simp only [List.take_succ_cons,List.take_zero,List.drop_succ_cons,List.drop_zero]
    repeat still_step
    still_call (HSL.out _)
    repeat still_step
    refine wpStill_nil ?_
    change wpList _ _ _ _ _ w.drew
    go_wp2_with fail
    refine HCL.out.mono ?_
    rintro e w4 ⟨v',rfl,h4⟩
    have H4:=Lib.hid h4
    clear h4
    go_wp2
    go_ret2
    exact ⟨_,rfl,by rw [hOV.out];exact H4.out⟩
  · have hOV:Hid (over o dt D.last k.toNat=D.last k.toNat):=Lib.hid (over_not _ _ _ _ (fun hm=>by
      obtain ⟨x,hx⟩:=List.getElem?_of_mem hm
      exact hx2 x (by rw [List.getElem?_map,hx];simp;omega)))
    subst hx1
    clear hx2 c4
    go_wp2_with fail
    refine HRD.out.mono ?_
    rintro e w4 ⟨v',rfl,h4b,h4f⟩
    have h4:=And.intro h4f h4b
    clear h4b h4f
    have H4:=Lib.hid h4
    clear h4
    go_wp2
    go_ret2
    exact ⟨_,rfl,by rw [hOV.out];exact H4.out⟩
theorem S_JRead {w0:Gnd} {w:World} {rs:List Res} (h:St w0 w rs) (a i p q:Nat) {H:Hdl} {D:DSt} {jb mb last sl:Nat} {ov:Value} {o:List Nat} {dt:List Blk} {c:Array Value} {ht: ¬U8T (219:TypeId)} (hr:rs[a]?=some (dev H D)) (hj:rs[i]?=some (arr jb c 219 ht))
    (hov:rs[p]?=some (rowI ov o)) (hmb:rs[q]?=some (chg mb sl dt)) (hc0:c[0]?=some (.pointer (some ⟨H.b,0,none⟩))) (hc2:c[2]?=some (.int .u64 last)) (hc4:c[4]?=some ov) (hc5:c[5]?=some (.map (some mb)))
    (hsl:last%4=sl) (hla:last<18446744073709551616) (hlen:dt.length=o.length) (ho60:o.length≤60) (hb512: ∀b∈dt,b.length=512) (ho:D.ops<1000000000) (k:Int) (hk0:245≤k) (hk1:k<(D.n:Int)):
    Calls Tryz.prog 64 #[.pointer (some ⟨jb,0,none⟩),.int .i64 k] w fun e w'=> ∃v,e= .returned (.tuple #[v,.int .i64 0])∧St w0 w' (byt v (over o dt D.last k.toNat)::rs):=
  (S_JReadF h a i p q hr hj hov hmb hc0 hc2 hc4 hc5 hsl hla hlen ho60 hb512 ho k hk0 hk1).mono fun _ _ ⟨v,e,hf,hb⟩=>⟨v,e,h.mkByt hf hb⟩
theorem St.chgPut {w0:Gnd} {w:World} {rs:List Res} (h:St w0 w rs) (i:Nat) {mb sl:Nat} {dt:List Blk} (hr:rs[i]?=some (chg mb sl dt)) (v:Value) (b:Blk) (hv:BytesAt w v b (Off w0.Z)) (hl:dt.length<1000000) (hs:sl<1000000) (k:Nat) (hk:k=dt.length):
    ∃o,(Instr.mapUpdate 217 (.map (some mb)) (.agg #[.int .i64 sl,.int .i64 k]) v).run Tryz.prog w= .ok () (setBlock w mb o)∧St w0 (setBlock w mb o) (rs.set i (chg mb sl (dt++ [b]))):=by
  subst hk
  obtain ⟨n,f,hm,hf⟩:=h.get hr
  obtain ⟨o,q1,q2⟩:=hm.update kindPlace Tryz.underlying217 (a:=((sl:Int),(dt.length:Int))) ⟨okI_small _ hs,okI_small _ hl⟩ v
  have hno: ∀(u:Value) (x:Blk),BytesAt w u x (Off w0.Z)→BytesAt (setBlock w mb o) u x (Off w0.Z):=fun u x hu=>hu.of_block fun y c _ hc=>block_setBlock_other _ rfl fun e=>by
    subst e
    obtain ⟨es,cl,h1,_⟩:=hm
    exact notC_map h1 c hc
  refine ⟨o,q1 w rfl,h.write i hr ((Frm.refl (Only mb) w).setBlock (.inl rfl) o) (chg mb sl (dt++ [b])) ⟨_,_,q2 w hm.lt,fun j x hx=>?_⟩ (fun _ hx=> .inl hx)⟩
  rcases Nat.lt_trichotomy j dt.length with hj | hj | hj
  · rw [List.getElem?_append_left hj] at hx
    obtain ⟨u,h1,h2⟩:=hf j x hx
    refine ⟨u,?_,hno u x h2⟩
    unfold upd
    rw [if_neg (by intro e;injection e with _ e;omega)]
    exact h1
  · subst hj
    rw [List.getElem?_append_right (Nat.le_refl _),Nat.sub_self] at hx
    simp at hx;subst hx
    exact ⟨v,by unfold upd;rw [if_pos rfl],hno v b hv⟩
  · rw [List.getElem?_eq_none (by simp;omega)] at hx;cases hx
def hdrM (g:Nat) (b:Blk):Nat:=if hdrOk g b then hdrN b else 0
def hdrO (g:Nat) (b:Blk):List Nat:=if hdrOk g b then hdrL b else []
theorem pick_step (g:Nat) (C:Nat→Blk) (i:Nat):pickTo g C (i+1)=if (pickTo g C i).1<hdrM g (C (slotB i)) then (hdrM g (C (slotB i)),hdrO g (C (slotB i))) else pickTo g C i:=by
  conv=>lhs;unfold pickTo
  unfold hdrM hdrO
  by_cases h:hdrOk g (C (slotB i))=true
  · simp only [h,if_true,true_and]
  · rw [if_neg (fun x=>h x.1),if_neg h,if_neg (by omega)]
def OpenRet (w0:Gnd) (rs:List Res) (a:Nat) (H:Hdl) (D:DSt) (g last:Nat) (o:List Nat) (dt:List Blk) (e:Ending) (w':World):Prop:=
  (endD (openOps o dt) D=0∧∃jh:JHdl,e= .returned (.tuple #[.pointer (some ⟨jh.jb,0,none⟩),.int .i64 0])∧St w0 w' (jrn H jh ⟨g,last,false,[],[]⟩::rs.set a (dev H (runD (openOps o dt) D))))∨
  (endD (openOps o dt) D=9∧e= .returned (.tuple #[.pointer none,.int .i64 9])∧St w0 w' (rs.set a (dev H (runD (openOps o dt) D))))
theorem St.chgTurn {w0:Gnd} {w:World} {rs:List Res} (h:St w0 w rs) (i:Nat) {mb sl:Nat} (hr:rs[i]?=some (chg mb sl [])) (sl':Nat):St w0 w (rs.set i (chg mb sl' [])):=by
  obtain ⟨n,f,hm,_⟩:=h.get hr
  exact h.write i hr (Frm.refl _ _) (chg mb sl' []) ⟨n,f,hm,fun j b hj=>by simp at hj⟩ (fun _ hx=> .inl hx)
theorem mapMade (W:World):(Instr.makeMap 217 none).run Tryz.prog W= .ok (.map (some W.heap.size)) (W.alloc (.map #[] 0)):=rfl
theorem entSettle:EntersF Tryz.prog 142:=entersF_of Tryz.func142 (by kernel_rfl) rfl
theorem JDisk.dt512 {n g last:Nat} {C:Nat→Blk} {o:List Nat} {dt:List Blk} (h:JDisk n g C last o dt) (hC: ∀k,(C k).length=512): ∀b∈dt,b.length=512:=fun b hb=>by
  rcases h.chosen with ⟨_,_,h3⟩ | ⟨_,_,_,_,h5⟩
  · rw [h3] at hb;cases hb
  · rw [h5] at hb
    unfold slotD at hb
    obtain ⟨i,_,rfl⟩:=List.mem_map.1 hb
    exact hC _
set_option maxRecDepth 100000 in
theorem S_Open {w0:Gnd} {w:World} {rs:List Res} (h:St w0 w rs) (a:Nat) {H:Hdl} {D:DSt} (hr:rs[a]?=some (dev H D)) {g last:Nat} {o:List Nat} {dt:List Blk} (hd:JDisk D.n g D.last last o dt) (hn:246≤D.n) (hla:last<18446744073709551616) (hg:g<18446744073709551616) (ho:D.ops<1000000000):
    Calls Tryz.prog 63 #[.pointer (some ⟨H.b,0,none⟩)] w (OpenRet w0 rs a H D g last o dt):=by
  have HB:=Lib.hid (S_Blocks h a hr)
  have HF:=Lib.hid (S_first h a hr (by omega) (by omega))
  rw [hd.gen,hd.magic] at HF
  have hn': ¬(D.n:Int)<246:=by omega
  have HR:=Lib.hid hr
  have HDI:=Lib.hid hd
  have HLA:=Lib.hid hla
  have HGG:=Lib.hid hg
  have HO:=Lib.hid ho
  have HN:=Lib.hid hn
  have H512:=Lib.hid (hd.dt512 (fun k=>DSt.last_length (h.get hr).wf k))
  clear h hr hd hla hg ho hn
  go_enter Tryz.func63,Tryz.ntmps63
  go_wp2_with fail
  refine HB.out.mono ?_
  rintro e w2 ⟨rfl,rfl⟩
  go_wp2_with fail
  refine HF.out.mono ?_
  rintro e w3 ⟨rfl,h3⟩
  have H3:=Lib.hid h3
  clear h3 HB HF
  have hmk:=mapMade w3
  have H4:Hid (St w0 ((w3.alloc (.map #[] 0)).alloc (.cells #[.pointer (some ⟨H.b,0,none⟩),.int .u64 g,.int .u64 0,.bool false,.slice none 0 0,.map (some w3.heap.size)] 219 (0,0)))
      (arr (w3.heap.size+1) #[.pointer (some ⟨H.b,0,none⟩),.int .u64 g,.int .u64 0,.bool false,.slice none 0 0,.map (some w3.heap.size)] 219 neJrn::rowI (.slice none 0 0) []::chg w3.heap.size 0 []::rs)):=Lib.hid (by
    have h1:=(H3.out.chgNew 0).rowNil 3 neI8 1
    have h2:=h1.newArr #[.pointer (some ⟨H.b,0,none⟩),.int .u64 g,.int .u64 0,.bool false,.slice none 0 0,.map (some w3.heap.size)] 219 neJrn
    rw [size_alloc] at h2
    exact h2)
  clear H3
  go_wp2_with fail
  clear hmk
  generalize w3.heap.size=mb at*
  generalize mb+1=jb at*
  go_loopw [7,8,9,28] (fun _ _ _ t wr=> ∃(k:Nat) (ov:Value),k≤4∧t= .int .i64 k∧St w0 wr (arr jb #[.pointer (some ⟨H.b,0,none⟩),.int .u64 g,.int .u64 ((pickTo g D.last k).1:Nat),.bool false,ov,.map (some mb)] 219 neJrn::rowI ov (pickTo g D.last k).2::chg mb 0 []::rs)) (fun _ _ _ t _=>4-(intOf t).toNat)
  case atStart=>exact ⟨0,_,Nat.zero_le _,rfl,H4.out⟩
  case round=>
    clear H4
    obtain ⟨k,ov,hk,rfl,hst⟩:=hrel
    have HST:=Lib.hid hst
    clear hst
    by_cases hlt:k<4
    · have hk0:(0:Int)≤(k:Int):=Int.natCast_nonneg _
      have hk1:(k:Int)<4:=by omega
      have HP:=Lib.hid (pick_step g D.last k)
      have HH:Hid (Calls Tryz.prog 137 #[.pointer (some ⟨jb,0,none⟩),.int .i64 k] wr (HdrRet w0 (arr jb #[.pointer (some ⟨H.b,0,none⟩),.int .u64 g,.int .u64 ((pickTo g D.last k).1:Nat),.bool false,ov,.map (some mb)] 219 neJrn::rowI ov (pickTo g D.last k).2::chg mb 0 []::rs) g (D.last (slotB k)))):=
        Lib.hid (S_header HST.out (a+3) 0 HR.out rfl rfl rfl k hlt HN.out (by have:=HO.out;omega) _ rfl (fun hx=>(HDI.out.slots k hlt hx).1))
      obtain ⟨n0,hn0⟩: ∃n,(pickTo g D.last k).1=n:=⟨_,rfl⟩
      obtain ⟨l0,hl0⟩: ∃l,(pickTo g D.last k).2=l:=⟨_,rfl⟩
      obtain ⟨n1,hn1⟩: ∃n,hdrM g (D.last (slotB k))=n:=⟨_,rfl⟩
      obtain ⟨l1,hl1⟩: ∃l,hdrO g (D.last (slotB k))=l:=⟨_,rfl⟩
      have HH:Hid (Calls Tryz.prog 137 #[.pointer (some ⟨jb,0,none⟩),.int .i64 k] wr fun e w'=> ∃v,e= .returned (.tuple #[.int .u64 n1,v])∧St w0 w' (rowI v l1::arr jb #[.pointer (some ⟨H.b,0,none⟩),.int .u64 g,.int .u64 n0,.bool false,ov,.map (some mb)] 219 neJrn::rowI ov l0::chg mb 0 []::rs)):=Lib.hid (HH.out.mono fun e w' hx=>by
        obtain ⟨v,h1,h2⟩:=hx
        rw [hn0,hl0] at h2
        refine ⟨v,?_,?_⟩
        · rw [h1,←hn1];rfl
        · rw [←hl1];exact h2)
      rw [hn1,hl1,hn0] at HP
      have HPE:Hid (pickTo g D.last k=(n0,l0)):=Lib.hid (by rw [←hn0,←hl0])
      rw [HPE.out] at HP
      clear hn0 hl0 hn1 hl1 HST
      go_wp2_with fail
      refine HH.out.mono ?_
      clear HH
      rintro e w4 ⟨v,rfl,h4⟩
      have H4:=Lib.hid h4
      have c2:w4.cell? ⟨jb,2,none⟩=some (.int .u64 n0):=(h4.arrCell (i:=1) rfl 2).trans rfl
      clear h4
      obtain ⟨va,vc,rfl⟩:=H4.out.rowILen (i:=0) rfl
      by_cases hgt:n0<n1
      · have hgt2:(n0:Int)<(n1:Int):=by omega
        have fz:w4.frozen? ⟨jb,2,none⟩=false:=H4.out.arrFree (i:=1) rfl 2
        have c4:w4.cell? ⟨jb,4,none⟩=some ov:=(H4.out.arrCell (i:=1) rfl 4).trans rfl
        have fz4:w4.frozen? ⟨jb,4,none⟩=false:=H4.out.arrFree (i:=1) rfl 4
        have h5:=(H4.out.setArr 1 rfl 2 (.int .u64 n1)).setArr 1 rfl 4 (.slice va l1.length vc)
        have h6:St w0 _ (arr jb #[.pointer (some ⟨H.b,0,none⟩),.int .u64 g,.int .u64 n1,.bool false,.slice va l1.length vc,.map (some mb)] 219 neJrn::rowI (.slice va l1.length vc) l1::chg mb 0 []::rs):=h5.swap.drop3rd
        have H6:Hid (St w0 _ (arr jb #[.pointer (some ⟨H.b,0,none⟩),.int .u64 g,.int .u64 ((pickTo g D.last (k+1)).1:Nat),.bool false,.slice va l1.length vc,.map (some mb)] 219 neJrn::rowI (.slice va l1.length vc) (pickTo g D.last (k+1)).2::chg mb 0 []::rs)):=Lib.hid (by
          rw [HP.out,if_pos hgt]
          exact h6)
        clear h5 h6 hgt
        go_wp2
        first | exact ⟨⟨k+1,_,hlt,by go_num,H6.out⟩,by simp [intOf];omega⟩ | (go_roundw;case rel=>first | exact ⟨k+1,_,hlt,by go_num,H6.out⟩ | ((repeat apply Exists.intro);exact ⟨⟨k+1,_,hlt,by go_num,H6.out⟩,rfl⟩);case measure=>simp [intOf];omega)
      · have hgt2: ¬(n0:Int)<(n1:Int):=by omega
        have H6:Hid (St w0 w4 (arr jb #[.pointer (some ⟨H.b,0,none⟩),.int .u64 g,.int .u64 ((pickTo g D.last (k+1)).1:Nat),.bool false,ov,.map (some mb)] 219 neJrn::rowI ov (pickTo g D.last (k+1)).2::chg mb 0 []::rs)):=Lib.hid (by
          rw [HP.out,if_neg hgt]
          exact H4.out.drop 1)
        clear hgt
        go_wp2
        first | exact ⟨⟨k+1,_,hlt,by go_num,H6.out⟩,by simp [intOf];omega⟩ | (go_roundw;case rel=>first | exact ⟨k+1,_,hlt,by go_num,H6.out⟩ | ((repeat apply Exists.intro);exact ⟨⟨k+1,_,hlt,by go_num,H6.out⟩,rfl⟩);case measure=>simp [intOf];omega)
    · have hk1: ¬(k:Int)<4:=by omega
      obtain rfl:k=4:=by omega
      have HP:=Lib.hid HDI.out.pick
      have H5:=HST.out
      rw [HP.out] at H5
      clear hk HST HP
      obtain ⟨oa,ocap,rfl⟩:=H5.rowILen (i:=1) rfl
      have H5:=Lib.hid H5
      have c4:wr.cell? ⟨jb,4,none⟩=some (.slice oa o.length ocap):=(H5.out.arrCell (i:=0) rfl 4).trans rfl
      go_wp2_with fail
      have H5:Hid (St w0 wr (arr jb #[.pointer (some ⟨H.b,0,none⟩),.int .u64 g,.int .u64 last,.bool false,.slice oa o.length ocap,.map (some mb)] 219 neJrn::rowI (.slice oa o.length ocap) o::chg mb (last%4) []::rs)):=Lib.hid (H5.out.chgTurn 2 rfl (last%4))
      have HSL:Hid (∀W,Calls Tryz.prog 138 #[.int .u64 last] W fun e w'=>e= .returned (.int .i64 ((last%4:Nat):Int))∧w'=W):=Lib.hid fun W=>slot_is W last (last%4) HLA.out rfl
      obtain ⟨sl,hsl⟩: ∃sl,last%4=sl:=⟨_,rfl⟩
      have hsl4:sl<4:=by omega
      have hsl5:(0:Int)≤(sl:Int):=Int.natCast_nonneg _
      have hsl6:(sl:Int)≤3:=by omega
      rw [hsl] at H5 HSL
      have HSS:=Lib.hid hsl
      clear hsl
      go_loopw [10,11,57] (fun _ _ t wr=> ∃k:Nat,k≤o.length∧t= .int .i64 k∧St w0 wr (arr jb #[.pointer (some ⟨H.b,0,none⟩),.int .u64 g,.int .u64 last,.bool false,.slice oa o.length ocap,.map (some mb)] 219 neJrn::rowI (.slice oa o.length ocap) o::chg mb sl (dt.take k)::rs)) (fun _ _ t _=>o.length-(intOf t).toNat)
      case atStart=>exact ⟨0,Nat.zero_le _,rfl,H5.out⟩
      case round=>
        clear H5 c4
        obtain ⟨k,hk,rfl,hst⟩:=hrel
        have HST:=Lib.hid hst
        by_cases hlt:k<o.length
        · have hk0:(0:Int)≤(k:Int):=Int.natCast_nonneg _
          have hk1:(k:Int)<(o.length:Int):=by omega
          have c2:wr.cell? ⟨jb,2,none⟩=some (.int .u64 last):=(hst.arrCell (i:=0) rfl 2).trans rfl
          clear hst
          go_wp2_with fail
          refine (HSL.out _).mono ?_
          rintro e w4 ⟨rfl,rfl⟩
          have H6:=Lib.hid (HST.out.newArr #[.int .i64 sl,.int .i64 k] 224 (by decide))
          go_wp2_with fail
          obtain ⟨w5,hw5⟩: ∃w5,w5=w4.alloc (.cells #[.int .i64 sl,.int .i64 k] 224 (0,0)):=⟨_,rfl⟩
          rw [←hw5] at H6 ⊢
          clear hw5 c2 HST
          generalize w4.heap.size=pb at*
          obtain ⟨b,hb⟩: ∃b,dt[k]?=some b:=⟨_,List.getElem?_eq_getElem (by rw [HDI.out.len];exact hlt)⟩
          have hbD:D.last (slotB sl+1+k)=b:=by
            have:=HDI.out.chosen
            rcases this with ⟨_,h1,_⟩ | ⟨_,_,_,_,h5⟩
            · rw [h1] at hlt;simp at hlt
            · rw [HSS.out] at h5
              rw [h5,slotD_get _ _ _ _ hlt] at hb
              exact Option.some.inj hb
          have HBD:Hid (D.last (1+(sl:Int)*61+((k:Int)+1)).toNat=b):=Lib.hid (by
            rw [show (1+(sl:Int)*61+((k:Int)+1)).toNat=slotB sl+1+k from by unfold slotB;omega];exact hbD)
          have hfew:=HDI.out.few
          have HTK:Hid (dt.take (k+1)=dt.take k++ [b]):=Lib.hid (by
            obtain ⟨h1,h2⟩:=List.getElem?_eq_some_iff.1 hb
            rw [List.take_succ_eq_append_getElem h1,h2])
          have HKL:Hid (k=(dt.take k).length):=Lib.hid (by rw [List.length_take,HDI.out.len];omega)
          have KA:Hid (∀y,Frm NoB w5 y→y.cell? ⟨jb,5,none⟩=some (.map (some mb))∧y.cell? ⟨pb,0,none⟩=some (.int .i64 sl)∧y.cell? ⟨pb,1,none⟩=some (.int .i64 k)):=Lib.hid fun y hy=>
            ⟨((H6.out.frm0 hy).arrCell (i:=1) rfl 5).trans rfl,((H6.out.frm0 hy).arrCell (i:=0) rfl 0).trans rfl,((H6.out.frm0 hy).arrCell (i:=0) rfl 1).trans rfl⟩
          have KB:Hid (∀y u1 u2,St w0 y (u1::arr pb #[.int .i64 sl,.int .i64 k] 224 (by decide)::arr jb #[.pointer (some ⟨H.b,0,none⟩),.int .u64 g,.int .u64 last,.bool false,.slice oa o.length ocap,.map (some mb)] 219 neJrn::u2)→y.cell? ⟨jb,5,none⟩=some (.map (some mb))∧y.cell? ⟨pb,0,none⟩=some (.int .i64 sl)∧y.cell? ⟨pb,1,none⟩=some (.int .i64 k)):=Lib.hid fun y u1 u2 hy=>
            ⟨(hy.arrCell (i:=2) rfl 5).trans rfl,(hy.arrCell (i:=1) rfl 0).trans rfl,(hy.arrCell (i:=1) rfl 1).trans rfl⟩
          have c1:=(KA.out w5 (Frm.refl _ _)).1
          have c2:=(KA.out w5 (Frm.refl _ _)).2.1
          have c3:=(KA.out w5 (Frm.refl _ _)).2.2
          obtain ⟨j,hj⟩: ∃j:Int,(k:Int)+1=j:=⟨_,rfl⟩
          rw [hj] at HBD
          have b1:0≤j:=by omega
          have b2:j≤1000:=by omega
          have b3:(sl:Int)≤1000:=by omega
          have b4:0≤1+(sl:Int)*61+j:=by omega
          have b5:1+(sl:Int)*61+j<(D.n:Int):=by have:=HN.out;omega
          have b6:D.ops<4611686018427387904:=by have:=HO.out;omega
          have b7:(dt.take k).length<1000000:=by have:=HKL.out;omega
          have b8:sl<1000000:=by omega
          have hwr:IntKind.i64.wrap ((k:Int)+1)=j:=by rw [IntWalk.i64_in _ (by omega)];exact hj
          have HB6:=Lib.hid b6
          clear hb hbD hj b6
          go_region_held3 (fun y=>y.cell? ⟨jb,5,none⟩=some (.map (some mb))∧y.cell? ⟨pb,0,none⟩=some (.int .i64 sl)∧y.cell? ⟨pb,1,none⟩=some (.int .i64 k))
            (first | exact hS8 | (refine KA.out _ ?_;first | assumption | exact (Frm.refl NoB w5).drew | exact ⟨rfl,rfl,rfl,Nat.le_refl _,fun _ _ _=>rfl⟩) | exact hS7)
            (first
              | (go_at_call 140;refine (at_any w5.drew (sl:Int) j hsl5 b3 b1 b2).mono ?_;rintro e w6 ⟨hf6,rfl⟩;have hf6':Frm NoB w5 w6:=((Frm.refl NoB w5).drew).trans hf6 (fun _ _ e=>e))
              | (go_at_call 139;refine (S_ReadZ (H6.out.frm0 hf6') (a+4) HR.out (1+(sl:Int)*61+j) b4 b5 HB6.out).mono ?_;rintro e w7 ⟨v7,rfl,h7,hz7⟩;have hS7:=KB.out _ _ _ h7;obtain ⟨o7,q7,h8⟩:=h7.chgPut 4 rfl v7 _ hz7 b7 b8 k HKL.out;have hS8:=KB.out _ _ _ h8))
          all_goals
           rw [HBD.out,←HTK.out] at h8
           have H8:=Lib.hid ((h8.drop 2))
           clear h8 h7 hz7 hS7 hS8 q7 hwr
           go_wp2
           first | exact ⟨⟨k+1,hlt,by go_num,H8.out⟩,by simp [intOf];omega⟩ | (go_roundw;case rel=>first | exact ⟨k+1,hlt,by go_num,H8.out⟩ | ((repeat apply Exists.intro);exact ⟨⟨k+1,hlt,by go_num,H8.out⟩,rfl⟩);case measure=>simp [intOf];omega)
        · have hk1: ¬(k:Int)<(o.length:Int):=by omega
          have H9:=hst
          rw [show dt.take k=dt from List.take_of_length_le (by rw [HDI.out.len];omega)] at H9
          have HT:=Lib.hid (H9.newArr #[.func (.func 142) #[.pointer (some ⟨jb,0,none⟩)] #[],.func (.func 143) #[.pointer (some ⟨H.b,0,none⟩)] #[]] 100 neFn)
          have hmf: ∀(fn:Fn) (first cap:Array Value) (W:World),(Instr.makeFunc fn first cap).run Tryz.prog W= .ok (.func fn first cap) W:=fun _ _ _ _=>rfl
          clear hst HST H9
          go_wp2_with fail
          clear hmf
          generalize wr.heap.size=fb at*
          obtain ⟨w5,hw5⟩: ∃w5,w5=wr.alloc (.cells #[.func (.func 142) #[.pointer (some ⟨jb,0,none⟩)] #[],.func (.func 143) #[.pointer (some ⟨H.b,0,none⟩)] #[]] 100 (0,0)):=⟨_,rfl⟩
          rw [←hw5] at HT ⊢
          clear hw5
          have HTR:Hid (Calls Tryz.prog 141 #[.slice (some ⟨fb,0,none⟩) 2 2] w5 fun e w'=>(e= .returned (.int .i64 0)∧endD (openOps o dt) D=0∧St w0 w' (arr fb #[.func (.func 142) #[.pointer (some ⟨jb,0,none⟩)] #[],.func (.func 143) #[.pointer (some ⟨H.b,0,none⟩)] #[]] 100 neFn::arr jb #[.pointer (some ⟨H.b,0,none⟩),.int .u64 g,.int .u64 last,.bool false,.slice oa o.length ocap,.map (some mb)] 219 neJrn::rowI (.slice oa o.length ocap) o::chg mb sl dt::rs.set a (dev H (runD (openOps o dt) D))))∨
              (e= .returned (.int .i64 9)∧endD (openOps o dt) D=9∧St w0 w' (rs.set a (dev H (runD (openOps o dt) D))))):=Lib.hid (by
            have hset: ∀X Y:Res,(rs.set a X).set a Y=rs.set a Y:=fun X Y=>List.set_set ..
            have hdev: ∀X:Res,(rs.set a X)[a]?=some X:=fun X=>List.getElem?_set_self (List.getElem?_eq_some_iff.1 HR.out).1
            refine (tries_any w5 fb 0 2 2 (fun i W=>endD ([[],settleOps o dt,openOps o dt].getD i []) D=0∧St w0 W (arr fb #[.func (.func 142) #[.pointer (some ⟨jb,0,none⟩)] #[],.func (.func 143) #[.pointer (some ⟨H.b,0,none⟩)] #[]] 100 neFn::arr jb #[.pointer (some ⟨H.b,0,none⟩),.int .u64 g,.int .u64 last,.bool false,.slice oa o.length ocap,.map (some mb)] 219 neJrn::rowI (.slice oa o.length ocap) o::chg mb sl dt::rs.set a (dev H (runD ([[],settleOps o dt,openOps o dt].getD i []) D))))
              (fun x W=>x=9∧endD (openOps o dt) D=9∧St w0 W (rs.set a (dev H (runD (openOps o dt) D)))) (fun i=> [142,143].getD i 0) (fun i=> [#[.pointer (some ⟨jb,0,none⟩)],#[.pointer (some ⟨H.b,0,none⟩)]].getD i #[]) (fun i=> #[]) ?_ ?_ ?_ (by omega) ?_).mono ?_
            · refine ⟨rfl,?_⟩
              have e:rs.set a (dev H D)=rs:=by
                obtain ⟨h1,h2⟩:=List.getElem?_eq_some_iff.1 HR.out
                rw [←h2];exact List.set_getElem_self h1
              show St w0 w5 (_::_::_::_::rs.set a (dev H D))
              rw [e];exact HT.out
            · intro i W hi hW
              rcases (by omega:i=0∨i=1) with rfl | rfl
              · exact (hW.2.arrCell (i:=0) rfl 0).trans rfl
              · exact (hW.2.arrCell (i:=0) rfl 1).trans rfl
            · intro i hi
              rcases (by omega:i=0∨i=1) with rfl | rfl
              · exact entSettle
              · exact entFlush
            · intro i W hi hW
              rcases (by omega:i=0∨i=1) with rfl | rfl
              · have hs:=S_settle (D:=D) hW.2 (a+4) 1 2 3 (hdev _) rfl rfl rfl rfl rfl rfl rfl HSS.out HLA.out HDI.out.len HDI.out.few (fun k hk=>(HDI.out.homes k hk).2) H512.out HO.out (by omega) (by omega) (by omega)
                refine hs.mono fun e w' hr=>⟨_,hr.1,fun h0=>⟨h0,?_⟩,fun h0=>?_⟩
                · have:=hr.2
                  simp only [List.set_cons_succ] at this
                  rw [hset] at this
                  exact this
                · have h9:endD (settleOps o dt) D=9:=(endD_cases _ _).resolve_left h0
                  obtain ⟨e1,e2⟩:=runD_stop (settleOps o dt) [.fl] D h9
                  have:=hr.2.drop 4
                  simp only [List.set_cons_succ,List.drop_succ_cons,List.drop_zero] at this
                  rw [hset,←e1] at this
                  exact ⟨h9,e2,this⟩
              · have h0:endD (settleOps o dt) D=0:=hW.1
                obtain ⟨e1,e2⟩:=runD_append (settleOps o dt) [.fl] D h0
                have hs:=S_FlushOp (D:=runD (settleOps o dt) D) hW.2 (a+4) (hdev _) (by
                  have h1:=runD_ops (settleOps o dt) D
                  rw [settleOps_length _ _ HDI.out.len] at h1
                  have:=HO.out;have:=HDI.out.few;omega)
                refine hs.mono fun e w' hr=>⟨_,hr.1,fun h1=>⟨e2.trans h1,?_⟩,fun h1=>?_⟩
                · have:=hr.2
                  simp only [List.set_cons_succ] at this
                  rw [hset,←e1] at this
                  exact this
                · have h9:=(endD_cases [.fl] (runD (settleOps o dt) D)).resolve_left h1
                  have:=hr.2.drop 4
                  simp only [List.set_cons_succ,List.drop_succ_cons,List.drop_zero] at this
                  rw [hset,←e1] at this
                  exact ⟨h9,e2.trans h9,this⟩
            · rintro e w6 (⟨h1,h2,h3⟩ | ⟨x,hx,h1,h2,h3,h4⟩)
              · exact .inl ⟨h1,h2,h3⟩
              · exact .inr ⟨by rw [h1,h2],h3,h4⟩)
          clear HT
          refine HTR.out.mono ?_
          clear HTR
          rintro e w6 (⟨rfl,h1,h2⟩ | ⟨rfl,h1,h2⟩)
          · have HE:=Lib.hid h1
            have H6:=Lib.hid (h2.drop 1)
            have hmk:=mapMade w6
            have f4:w6.frozen? ⟨jb,4,none⟩=false:=H6.out.arrFree (i:=0) rfl 4
            have f5:w6.frozen? ⟨jb,5,none⟩=false:=H6.out.arrFree (i:=0) rfl 5
            have c4:w6.cell? ⟨jb,4,none⟩=some (.slice oa o.length ocap):=(H6.out.arrCell (i:=0) rfl 4).trans rfl
            have c5:w6.cell? ⟨jb,5,none⟩=some (.map (some mb)):=(H6.out.arrCell (i:=0) rfl 5).trans rfl
            have hjl:jb<w6.heap.size:=lt_of_block (H6.out.get (i:=0) rfl)
            clear h1 h2
            go_wp2
            go_ret2
            refine .inl ⟨HE.out,⟨jb,.slice none 0 0,w6.heap.size⟩,rfl,St.jShut ?_⟩
            have h7:=((H6.out.setArr 0 rfl 4 (.slice none 0 0)).setArr 0 rfl 5 (.map (some w6.heap.size))).chgNew (last%4)
            have h8:=h7.rowNil 3 neI8 1
            rw [World.size_setCell,World.size_setCell] at h8
            have h9:=h8.sub ((((List.drop_sublist 2 _).cons_cons _).cons_cons _).cons_cons _)
            exact h9.perm ((List.Perm.cons _ (List.Perm.swap _ _ _)).trans (List.Perm.swap _ _ _))
          · have HE:=Lib.hid h1
            have H6:=Lib.hid h2
            clear h1 h2
            go_wp2
            go_ret2
            exact .inr ⟨HE.out,rfl,H6.out⟩
set_option maxRecDepth 100000 in
theorem S_OpenBad {w0:Gnd} {w:World} {rs:List Res} (h:St w0 w rs) (a:Nat) {H:Hdl} {D:DSt} (hr:rs[a]?=some (dev H D)) (hn:246≤D.n) (ho:D.ops<1000000000) (hm:isMagic (D.last 0)=false):
    Calls Tryz.prog 63 #[.pointer (some ⟨H.b,0,none⟩)] w fun e w'=>e= .returned (.tuple #[.pointer none,.int .i64 10])∧St w0 w' rs:=by
  have HB:=Lib.hid (S_Blocks h a hr)
  have HF:=Lib.hid (S_first h a hr (by omega) (by omega))
  rw [hm] at HF
  have hn': ¬(D.n:Int)<246:=by omega
  clear h hr hn ho hm
  go_enter Tryz.func63,Tryz.ntmps63
  go_wp2_with fail
  refine HB.out.mono ?_
  rintro e w2 ⟨rfl,rfl⟩
  go_wp2_with fail
  refine HF.out.mono ?_
  rintro e w3 ⟨rfl,h3⟩
  have H3:=Lib.hid h3
  clear h3 HF HB
  go_wp2
  go_ret2
  exact ⟨rfl,H3.out⟩
theorem neChg: ¬U8T (274:TypeId):=by decide
def flat:List Int→List Value→List Value
  | k::ks,u::vs=>IntK k::u::flat ks vs
  | _,_=> []
theorem flat_snoc: ∀(ks:List Int) (vs:List Value) (k:Int) (u:Value),vs.length=ks.length→flat (ks++ [k]) (vs++ [u])=flat ks vs++ [IntK k,u]
  | [],[],_,_,_=>rfl
  | [],_::_,_,_,h=>by simp at h
  | _::_,[],_,_,h=>by simp at h
  | a::ks,b::vs,k,u,h=>by
    show IntK a::b::flat (ks++ [k]) (vs++ [u])=_
    rw [flat_snoc ks vs k u (by simpa using h)];rfl
theorem flat_get: ∀(ks:List Int) (vs:List Value) (j:Nat) (k:Int) (u:Value),ks[j]?=some k→vs[j]?=some u→(flat ks vs)[2*j]?=some (IntK k)∧(flat ks vs)[2*j+1]?=some u
  | [],_,_,_,_,h,_=>by simp at h
  | _::_,[],_,_,_,_,h=>by simp at h
  | a::ks,b::vs,0,k,u,h1,h2=>by simp at h1 h2;subst h1 h2;exact ⟨rfl,rfl⟩
  | a::ks,b::vs,j+1,k,u,h1,h2=>by
    obtain ⟨g1,g2⟩:=flat_get ks vs j k u (by simpa using h1) (by simpa using h2)
    exact ⟨g1,g2⟩
def chgs (v:Value) (ks:List Int) (vs:List Value) (ds:List Blk):Res where
  M:=fun x=>v.ownBlock=some x
  inv:=fun Z w=>w.ownsRow 0 274 2 v ks.length (flat ks vs)∧vs.length=ks.length∧ds.length=ks.length∧∀(i:Nat) u b,vs[i]?=some u→ds[i]?=some b→BytesAt w u b AnyB
  lt:=fun Z w H x hx=>(H.1.lt x hx).2
  dry:=fun Z w H x hx c' e=>by
    rcases H.1.2 with ⟨rfl,_⟩ | ⟨g,cap,cur,rfl,_,h2,_⟩
    · cases hx
    · obtain rfl:g=x:=by simpa [Value.ownBlock] using hx
      exact notC_cells h2 neChg _ e
  keep:=fun Z w w' N H hf hd ha=>⟨ownsRow_of_block H.1 (fun g hg=>hf.block g (H.1.lt g hg).2 (ha g hg)),H.2.1,H.2.2.1,fun i u b h1 h2=>(H.2.2.2 i u b h1 h2).frmZ hf hd⟩
  zone:=fun _ _ _ H _ _=>H
theorem St.chgsLen {w0:Gnd} {w:World} {rs:List Res} (h:St w0 w rs) {i:Nat} {v:Value} {ks:List Int} {vs:List Value} {ds:List Blk} (hr:rs[i]?=some (chgs v ks vs ds)): ∃a cap,v= .slice a ks.length cap:=by
  rcases (h.get hr).1.2 with ⟨e,hl⟩ | ⟨g,cap,cur,e,_⟩
  · exact ⟨none,0,by rw [e,hl]⟩
  · exact ⟨_,_,e⟩
theorem St.chgsCell {w0:Gnd} {w:World} {rs:List Res} (h:St w0 w rs) {i n cap:Nat} {a:Option Addr} {ks:List Int} {vs:List Value} {ds:List Blk} (hr:rs[i]?=some (chgs (.slice a n cap) ks vs ds)) {j:Nat} {k:Int} (hk:ks[j]?=some k):
    ∃gb u b,a=some ⟨gb,0,none⟩∧gb<w.heap.size∧vs[j]?=some u∧ds[j]?=some b∧w.cell? ⟨gb,j*2,none⟩=some (.int .i64 k)∧w.cell? ⟨gb,j*2+1,none⟩=some u∧BytesAt w u b AnyB:=by
  obtain ⟨H1,H2,H3,H4⟩:=h.get hr
  have hj:=(List.getElem?_eq_some_iff.1 hk).1
  have hu:vs[j]?=some (vs[j]'(by omega)):=List.getElem?_eq_getElem _
  have hb:ds[j]?=some (ds[j]'(by omega)):=List.getElem?_eq_getElem _
  rcases H1.2 with ⟨e,hl⟩ | ⟨g,cap',cur,e,_,h2,_,_,h4⟩
  · rw [hl] at hj;omega
  · injection e with e1 e2 e3
    obtain ⟨f1,f2⟩:=flat_get ks vs j k _ hk hu
    have hrow:=H1.cells (g:=g) (by rw [e1];rfl)
    have add0: ∀m,(⟨g,0,none⟩:Addr).add m=⟨g,m,none⟩:=fun m=>by unfold Addr.add;split<;>simp_all
    rw [Nat.mul_comm j 2]
    refine ⟨g,_,_,e1,lt_of_block h2,hu,hb,?_,?_,H4 j _ _ hu hb⟩
    · have:=hrow _ _ f1;rw [add0] at this;exact this
    · have:=hrow _ _ f2;rw [add0] at this;exact this
def goodAt (n:Nat) (ks:List Int) (ds:List Blk) (i:Nat):Bool:=
  decide (245≤ks.getD i 0∧ks.getD i 0<(n:Int)) && !(ks.take i).contains (ks.getD i 0) && (ds.getD i []).length==512
def mayTo (n:Nat) (ks:List Int) (ds:List Blk):Nat→Bool
  | 0=>true
  | i+1=>mayTo n ks ds i && goodAt n ks ds i
def mayE (n:Nat) (ks:List Int) (ds:List Blk):Int:=if mayTo n ks ds ks.length then (if 60<ks.length then 2 else 0) else 1
theorem mayTo_mono {n:Nat} {ks:List Int} {ds:List Blk} {i:Nat} (hf:goodAt n ks ds i=false): ∀j,i<j→mayTo n ks ds j=false
  | 0,h=>by omega
  | j+1,h=>by
    unfold mayTo
    rcases Nat.lt_or_eq_of_le (Nat.le_of_lt_succ h) with h' | h'
    · rw [mayTo_mono hf j h'];rfl
    · subst h';rw [hf,Bool.and_false]
def metR (mb:Nat) (l:List Int):Res where
  M:=Only mb
  inv:=fun Z w=> ∃n f,MapAt IntK okI w mb n f∧∀k,okI k→f k=if l.contains k then some (.int .i64 1) else none
  lt:=fun Z w H x hx=>by obtain rfl:x=mb:=hx;obtain ⟨n,f,h,_⟩:=H;exact h.lt
  dry:=fun Z w H x hx c e=>by
    obtain rfl:x=mb:=hx
    obtain ⟨n,f,⟨es,clock,h,_⟩,_⟩:=H
    exact notC_map h c e
  keep:=fun Z w w' N H hf hd ha=>by
    obtain ⟨n,f,h,hb⟩:=H
    exact ⟨n,f,h.of_block (hf.block mb h.lt (ha mb rfl)),hb⟩
  zone:=fun Z Z' w H _ _=>H
theorem St.metNew {w0:Gnd} {w:World} {rs:List Res} (h:St w0 w rs):St w0 (w.alloc (.map #[] 0)) (metR w.heap.size []::rs):=
  h.make ((Frm.refl _ _).alloc _) (metR w.heap.size []) ⟨0,_,MapAt.made w,fun k hk=>rfl⟩ (fun x hx=>by obtain rfl:x=w.heap.size:=hx;exact Nat.le_refl _)
theorem St.metLook {w0:Gnd} {w:World} {rs:List Res} (h:St w0 w rs) {i mb:Nat} {l:List Int} (hr:rs[i]?=some (metR mb l)) {k:Int} (hk:okI k) {b:Bool} (hb:l.contains k=b) (W:World) (hW:W.heap[mb]?=w.heap[mb]?):
    (Instr.lookup 127 (.map (some mb)) (.int .i64 k) false).run Tryz.prog W= .ok (.int .i64 (if b then 1 else 0)) W:=by
  obtain ⟨n,f,hm,hf⟩:=h.get hr
  have:=hm.lookup kindInt Tryz.underlying127 hk zeroInt W hW
  rw [hf k hk,hb] at this
  rw [this]
  cases b<;>rfl
theorem St.metPut {w0:Gnd} {w:World} {rs:List Res} (h:St w0 w rs) (i:Nat) {mb:Nat} {l:List Int} (hr:rs[i]?=some (metR mb l)) {k:Int} (hk:okI k):
    ∃o,(Instr.mapUpdate 127 (.map (some mb)) (.int .i64 k) (.int .i64 1)).run Tryz.prog w= .ok () (setBlock w mb o)∧St w0 (setBlock w mb o) (rs.set i (metR mb (l++ [k]))):=by
  obtain ⟨n,f,hm,hf⟩:=h.get hr
  obtain ⟨o,q1,q2⟩:=hm.update kindInt Tryz.underlying127 hk (.int .i64 1)
  refine ⟨o,q1 w rfl,h.write i hr ((Frm.refl (Only mb) w).setBlock (.inl rfl) o) (metR mb (l++ [k])) ⟨_,_,q2 w hm.lt,fun x hx=>?_⟩ (fun _ hx=> .inl hx)⟩
  unfold upd
  by_cases e:x=k
  · subst e;rw [if_pos rfl,if_pos (by simp)]
  · rw [if_neg e,hf x hx]
    have:(l++ [k]).contains x=l.contains x:=by
      rw [Bool.eq_iff_iff];simp [e]
    rw [this]
set_option maxRecDepth 100000 in
theorem S_may {w0:Gnd} {w:World} {rs:List Res} (h:St w0 w rs) (a i p:Nat) {H:Hdl} {D:DSt} {jb:Nat} {c:Array Value} {ht: ¬U8T (219:TypeId)} (hr:rs[a]?=some (dev H D)) (hj:rs[i]?=some (arr jb c 219 ht))
    (hc:c[0]?=some (.pointer (some ⟨H.b,0,none⟩))) {v:Value} {ks:List Int} {vs:List Value} {ds:List Blk} (hl:rs[p]?=some (chgs v ks vs ds)) (hok: ∀k∈ks,okI k) (hlen:ks.length≤1000000) (hd: ∀d∈ds,d.length≤1000000):
    Calls Tryz.prog 250 #[.pointer (some ⟨jb,0,none⟩),v] w fun e w'=>e= .returned (.int .i64 (mayE D.n ks ds))∧St w0 w' rs:=by
  obtain ⟨va,vc,rfl⟩:=h.chgsLen hl
  have HM:=Lib.hid h.metNew
  have hmk: ∀W,(Instr.makeMap 127 none).run Tryz.prog W= .ok (.map (some W.heap.size)) (W.alloc (.map #[] 0)):=fun W=>rfl
  have HR:=Lib.hid hr
  have HJ:=Lib.hid hj
  have HL:=Lib.hid hl
  have HC:=Lib.hid hc
  have HOK:=Lib.hid hok
  have HDD:=Lib.hid hd
  clear h hr hj hl hc hok hd
  go_enter Tryz.func250,Tryz.ntmps250
  go_wp2_with fail
  clear hmk
  generalize w.heap.size=mb at*
  go_loopw [7,11] (fun _ t wr=> ∃k:Nat,k≤ks.length∧t= .int .i64 k∧mayTo D.n ks ds k=true∧St w0 wr (metR mb (ks.take k)::rs)) (fun _ t _=>ks.length-(intOf t).toNat)
  case atStart=>exact ⟨0,Nat.zero_le _,rfl,rfl,HM.out⟩
  case round=>
    clear HM
    obtain ⟨k,hk,rfl,hmt,hst⟩:=hrel
    have HST:=Lib.hid hst
    have HMT:=Lib.hid hmt
    clear hst hmt
    by_cases hlt:k<ks.length
    · have hk0:(0:Int)≤(k:Int):=Int.natCast_nonneg _
      have hk1:(k:Int)<(ks.length:Int):=by omega
      obtain ⟨x,hx⟩: ∃x,ks[k]?=some x:=⟨_,List.getElem?_eq_getElem hlt⟩
      obtain ⟨gb,u,d,rfl,hgb,hu,hd,c1,c2,hbu⟩:=HST.out.chgsCell (i:=p+1) HL.out hx
      have HX:=Lib.hid hx
      have HU:=Lib.hid hu
      have HD1:=Lib.hid hd
      have HBU:=Lib.hid hbu
      clear hx hu hd hbu
      obtain ⟨ub,uo,uc,rfl,huc,_,_⟩:=HBU.out.cells
      have hdl:((d.length:Nat):Int)≤1000000:=by have:=HDD.out d (List.mem_of_getElem? HD1.out);omega
      have H5:=Lib.hid (HST.out.newArr #[.int .i64 x,.slice (some ⟨ub,uo,none⟩) d.length uc] 274 neChg)
      have hox:okI x:=HOK.out x (List.mem_of_getElem? HX.out)
      have HOX:=Lib.hid hox
      have hgd:ks.getD k 0=x:=by rw [List.getD_eq_getElem?_getD,HX.out];rfl
      have hgdd:ds.getD k []=d:=by rw [List.getD_eq_getElem?_getD,HD1.out];rfl
      have HGA:Hid (goodAt D.n ks ds k=(decide (245≤x∧x<(D.n:Int)) && !(ks.take k).contains x && d.length==512)):=Lib.hid (by unfold goodAt;rw [hgd,hgdd])
      have HTK:Hid (ks.take (k+1)=ks.take k++ [x]):=Lib.hid (by
        obtain ⟨h1,h2⟩:=List.getElem?_eq_some_iff.1 HX.out
        rw [List.take_succ_eq_append_getElem h1,h2])
      have HE1:Hid (goodAt D.n ks ds k=false→mayE D.n ks ds=1):=Lib.hid fun hf=>by unfold mayE;rw [mayTo_mono hf _ hlt];rfl
      have HHM:=Lib.hid (S_home H5.out (a+2) (i+2) HR.out HJ.out HC.out x)
      obtain ⟨L,hL⟩: ∃L,ks.take k=L:=⟨_,rfl⟩
      rw [hL] at H5 HGA HTK
      obtain ⟨m,hm⟩: ∃m,d.length=m:=⟨_,rfl⟩
      rw [hm] at H5 HGA hdl HHM c2 huc
      clear hox hgd hgdd hL hm HST HBU HDD HD1
      go_wp2_with fail
      refine HHM.out.mono ?_
      rintro e w4 ⟨rfl,rfl⟩
      obtain ⟨w5,hw5⟩: ∃w5,w5=wr.alloc (.cells #[.int .i64 x,.slice (some ⟨ub,uo,none⟩) m uc] 274 (0,0)):=⟨_,rfl⟩
      rw [←hw5] at H5 ⊢
      clear hw5 HHM c1 c2
      generalize wr.heap.size=pb at*
      have c1:w5.cell? ⟨pb,0,none⟩=some (.int .i64 x):=(H5.out.arrCell (i:=0) rfl 0).trans rfl
      have c2:w5.cell? ⟨pb,1,none⟩=some (.slice (some ⟨ub,uo,none⟩) m uc):=(H5.out.arrCell (i:=0) rfl 1).trans rfl
      by_cases hh:245≤x∧x<(D.n:Int)
      · have e1:(decide (245≤x) && decide (x<(D.n:Int)))=true:=by rw [decide_eq_true hh.1,decide_eq_true hh.2];rfl
        rw [e1]
        rw [decide_eq_true hh] at HGA
        clear e1 hh
        by_cases hc2:L.contains x=true
        · have hlk:=H5.out.metLook (i:=1) rfl HOX.out hc2 w5 rfl
          rw [if_pos rfl] at hlk
          rw [hc2] at HGA
          have HF:=Lib.hid (HE1.out (by rw [HGA.out];rfl))
          clear hc2 HGA HE1
          go_wp2
          go_ret
          exact ⟨by rw [HF.out];rfl,H5.out.drop 2⟩
        · have hc2:L.contains x=false:=by simpa using hc2
          have hlk:=H5.out.metLook (i:=1) rfl HOX.out hc2 w5 rfl
          rw [if_neg (by simp)] at hlk
          rw [hc2] at HGA
          clear hc2
          by_cases hm:m=512
          · have hb:(((m:Nat):Int)!=512)=false:=by rw [bne_eq_false_iff_eq];omega
            have HMT2:Hid (mayTo D.n ks ds (k+1)=true):=Lib.hid (by
              show (mayTo D.n ks ds k && goodAt D.n ks ds k)=true
              rw [HMT.out,HGA.out,hm];rfl)
            obtain ⟨o6,q6,h6⟩:=H5.out.metPut 1 rfl HOX.out
            have H6:=Lib.hid (h6.drop 1)
            clear h6 hm HGA HE1
            rw [←HTK.out] at H6
            go_wp2
            first | exact ⟨⟨k+1,hlt,by go_num,HMT2.out,H6.out⟩,by simp [intOf];omega⟩ | (go_roundw;case rel=>first | exact ⟨k+1,hlt,by go_num,HMT2.out,H6.out⟩ | ((repeat apply Exists.intro);exact ⟨⟨k+1,hlt,by go_num,HMT2.out,H6.out⟩,rfl⟩);case measure=>simp [intOf];omega)
          · have hb:(((m:Nat):Int)!=512)=true:=by rw [bne_iff_ne];omega
            have HF:=Lib.hid (HE1.out (by rw [HGA.out];simp [hm]))
            clear hm HGA HE1
            go_wp2
            go_ret
            exact ⟨by rw [HF.out];rfl,H5.out.drop 2⟩
      · have e1:(decide (245≤x) && decide (x<(D.n:Int)))=false:=by
          by_cases h1:245≤x
          · rw [decide_eq_false (p:=x<(D.n:Int)) (fun h2=>hh ⟨h1,h2⟩),Bool.and_false]
          · rw [decide_eq_false h1];rfl
        rw [e1]
        rw [decide_eq_false hh] at HGA
        have HF:=Lib.hid (HE1.out (by rw [HGA.out];rfl))
        clear hh e1 HGA HE1
        go_wp2
        go_ret
        exact ⟨by rw [HF.out];rfl,H5.out.drop 2⟩
    · have hkk:k=ks.length:=by omega
      have hk1: ¬(k:Int)<(ks.length:Int):=by omega
      have HMM:Hid (mayTo D.n ks ds ks.length=true):=Lib.hid (by rw [←hkk];exact HMT.out)
      by_cases hbig:60<ks.length
      · have hb1:(60:Int)<(ks.length:Int):=by omega
        have HF:Hid (mayE D.n ks ds=2):=Lib.hid (by unfold mayE;rw [HMM.out,if_pos rfl,if_pos hbig])
        clear hbig hkk
        go_wp2
        go_ret
        exact ⟨by rw [HF.out];rfl,HST.out.drop 1⟩
      · have hb1: ¬(60:Int)<(ks.length:Int):=by omega
        have HF:Hid (mayE D.n ks ds=0):=Lib.hid (by unfold mayE;rw [HMM.out,if_pos rfl,if_neg hbig])
        clear hbig hkk
        go_wp2
        go_ret
        exact ⟨by rw [HF.out];rfl,HST.out.drop 1⟩
theorem neJp: ¬U8T (130:TypeId):=by decide
theorem neBs: ¬U8T (76:TypeId):=by decide
end
end Go.Proofs.YtlemndledcmhiaaGreatDoor
