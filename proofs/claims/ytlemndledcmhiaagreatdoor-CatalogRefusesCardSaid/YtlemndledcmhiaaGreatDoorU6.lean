/-
  The catalog, from the device up, part 6.
-/
import Derived.Test.YtlemndledcmhiaaGreatDoorU5
import Derived.Great.Walk
import Derived.Deep.MidRow
namespace Go.Proofs.YtlemndledcmhiaaGreatDoor
set_option linter.unusedVariables false
set_option linter.unusedSimpArgs false
section
open Go.ChangeMaps Go.MapKept Go.RowKit
set_option maxHeartbeats 1000000 in
set_option maxRecDepth 100000 in
theorem S_commit {w0:Gnd} {w:World} {rs:List Res} {H:Hdl} {jh:JHdl} {J:JSt} (h:St w0 w (jrn H jh J::rs)) (a iv:Nat) {D:DSt} (hr:rs[a]?=some (dev H D)) {v:Value} {ks:List Nat} {vs:List Value} {ds:List Blk} (hl:rs[iv]?=some (chgs v (ks.map fun k:Nat=>(k:Int)) vs ds))
    (hJ:JOk D.n J) (hdead:J.dead=false) (hmay:MayL D.n ks ds) (hd512: ∀d∈ds,d.length=512) (hD:246≤D.n) (hn:D.n≤65536) (ho:D.ops<1000000000) (q:iv≠a):
    Calls Tryz.prog 251 #[.pointer (some ⟨jh.jb,0,none⟩),v] w (CommitRet w0 rs a H jh.jb J D ks ds):=by
  obtain ⟨g,last,dead,om,dm⟩:=J
  obtain ⟨jb,ov,mb⟩:=jh
  obtain rfl:dead=false:=hdead
  have h1:St w0 w (arr jb #[.pointer (some ⟨H.b,0,none⟩),.int .u64 g,.int .u64 last,.bool false,ov,.map (some mb)] 219 neJrn::rowI ov om::chg mb (last%4) dm::rs):=h.jOpen
  clear h
  have HWR:=Lib.hid (S_write h1 (a+3) 0 (iv+3) 1 2 hr rfl rfl rfl rfl rfl rfl rfl rfl hl hmay hd512 hJ.len hJ.few hJ.home hJ.b512 hJ.last hJ.gen hD hn ho (by omega) (by omega) (by omega) (by omega))
  have c0:w.cell? ⟨jb,0,none⟩=some (.pointer (some ⟨H.b,0,none⟩)):=(h1.arrCell (i:=0) rfl 0).trans rfl
  have c3:w.cell? ⟨jb,3,none⟩=some (.bool false):=(h1.arrCell (i:=0) rfl 3).trans rfl
  obtain ⟨va,vc,rfl⟩:=h1.chgsLen (i:=iv+3) hl
  rw [List.length_map] at hl HWR
  rw [List.length_map]
  have hkl:((ks.length:Nat):Int)≤60:=by have:=hmay.few;omega
  have HL:Hid (∀X,(rs.set a X)[iv]?=some (chgs (.slice va ks.length vc) (ks.map fun k:Nat=>(k:Int)) vs ds)):=Lib.hid fun X=>by rw [List.getElem?_set_ne (Ne.symm q)];exact hl
  have HDL:=Lib.hid hmay.len
  have H512:=Lib.hid hd512
  have HLA:=Lib.hid hJ.last
  obtain ⟨D2,hD2⟩: ∃D2,runD (writeOps g last om dm ks ds) D=D2:=⟨_,rfl⟩
  have HD2:=Lib.hid hD2
  obtain ⟨rs2,hrs2⟩: ∃rs2,rs.set a (dev H D2)=rs2:=⟨_,rfl⟩
  have HRS:=Lib.hid hrs2
  have HW2:Hid (Calls Tryz.prog 302 #[.pointer (some ⟨jb,0,none⟩),.slice va ks.length vc] w fun e w'=>e= .returned (.int .i64 (endD (writeOps g last om dm ks ds) D))∧St w0 w' (arr jb #[.pointer (some ⟨H.b,0,none⟩),.int .u64 g,.int .u64 last,.bool false,ov,.map (some mb)] 219 neJrn::rowI ov om::chg mb (last%4) dm::rs2)):=Lib.hid (HWR.out.mono fun e w' hx=>⟨hx.1,by
      have:=hx.2
      simp only [List.set_cons_succ] at this
      rw [hD2,hrs2] at this
      exact this⟩)
  have HL2:Hid (rs2[iv]?=some (chgs (.slice va ks.length vc) (ks.map fun k:Nat=>(k:Int)) vs ds)):=Lib.hid (hrs2▸HL.out _)
  clear h1 hr hl hJ hmay hd512 hD hn ho q HWR HL hD2 hrs2
  go_enter Tryz.func251,Tryz.ntmps251
  go_wp2_with fail
  refine HW2.out.mono ?_
  clear HW2 c0 c3
  rintro e w2 ⟨he,h2⟩
  have H2:=Lib.hid h2
  clear h2
  rcases endD_cases (writeOps g last om dm ks ds) D with e0 | e9
  · rw [e0] at he
    subst he
    have HE:=Lib.hid e0
    clear e0
    have c2:w2.cell? ⟨jb,2,none⟩=some (.int .u64 last):=(H2.out.arrCell (i:=0) rfl 2).trans rfl
    have c4:w2.cell? ⟨jb,4,none⟩=some ov:=(H2.out.arrCell (i:=0) rfl 4).trans rfl
    have c5:w2.cell? ⟨jb,5,none⟩=some (.map (some mb)):=(H2.out.arrCell (i:=0) rfl 5).trans rfl
    have f2:w2.frozen? ⟨jb,2,none⟩=false:=H2.out.arrFree (i:=0) rfl 2
    have f4:w2.frozen? ⟨jb,4,none⟩=false:=H2.out.arrFree (i:=0) rfl 4
    have f5:w2.frozen? ⟨jb,5,none⟩=false:=H2.out.arrFree (i:=0) rfl 5
    have hjl:jb<w2.heap.size:=lt_of_block (H2.out.get (i:=0) rfl)
    have hmk:=mapMade
    obtain ⟨n,hnn⟩: ∃n,last+1=n:=⟨_,rfl⟩
    have hla0:(0:Int)≤(last:Int):=Int.natCast_nonneg _
    have hwn:IntKind.u64.wrap ((last:Int)+1)=(n:Int):=by have:=HLA.out;rw [u64_in (by omega) (by omega)];omega
    have hn64:n<18446744073709551616:=by have:=HLA.out;omega
    have HNN:=Lib.hid hnn
    have HN64:=Lib.hid hn64
    have H3:Hid (St w0 ((((w2.setCell ⟨jb,2,none⟩ (.int .u64 n)).setCell ⟨jb,4,none⟩ (.slice none 0 0)).setCell ⟨jb,5,none⟩ (.map (some w2.heap.size))).alloc (.map #[] 0)) (arr jb #[.pointer (some ⟨H.b,0,none⟩),.int .u64 g,.int .u64 n,.bool false,.slice none 0 0,.map (some w2.heap.size)] 219 neJrn::rowI (.slice none 0 0) []::chg w2.heap.size (n%4) []::rs2)):=Lib.hid (by
      have h7:=((((H2.out.setArr 0 rfl 2 (.int .u64 n)).setArr 0 rfl 4 (.slice none 0 0)).setArr 0 rfl 5 (.map (some w2.heap.size))).chgNew (n%4)).rowNil 3 neI8 1
      rw [World.size_setCell,World.size_setCell,World.size_setCell] at h7
      have h9:=h7.sub ((((List.drop_sublist 2 _).cons_cons _).cons_cons _).cons_cons _)
      exact h9.perm ((List.Perm.cons _ (List.Perm.swap _ _ _)).trans (List.Perm.swap _ _ _)))
    clear hnn hla0 hn64
    go_wp2_with fail
    clear c2 c4 c5 f2 f4 f5 hjl hmk hwn
    generalize w2.heap.size=m2 at*
    have HSL:Hid (∀W,Calls Tryz.prog 138 #[.int .u64 n] W fun e w'=>e= .returned (.int .i64 ((n%4:Nat):Int))∧w'=W):=Lib.hid fun W=>slot_is W n (n%4) HN64.out rfl
    obtain ⟨sl,hsl⟩: ∃sl,n%4=sl:=⟨_,rfl⟩
    have hsl4:sl<4:=by omega
    rw [hsl] at H3 HSL
    have HSS:=Lib.hid hsl
    clear hsl
    go_loopw [6,7,48] (fun _ _ t wr=> ∃(k:Nat) (ov':Value),k≤ks.length∧t= .int .i64 k∧St w0 wr (arr jb #[.pointer (some ⟨H.b,0,none⟩),.int .u64 g,.int .u64 n,.bool false,ov',.map (some m2)] 219 neJrn::rowI ov' (ks.take k)::chg m2 sl (ds.take k)::rs2)) (fun _ _ t _=>ks.length-(intOf t).toNat)
    case atStart=>exact ⟨0,_,Nat.zero_le _,rfl,H3.out⟩
    case round=>
      clear H3
      obtain ⟨k,ov',hk,rfl,hst⟩:=hrel
      have HST:=Lib.hid hst
      clear hst
      by_cases hlt:k<ks.length
      · have hk0:(0:Int)≤(k:Int):=Int.natCast_nonneg _
        have hk1:(k:Int)<(ks.length:Int):=by omega
        obtain ⟨x,hx⟩: ∃x,ks[k]?=some x:=⟨_,List.getElem?_eq_getElem hlt⟩
        obtain ⟨gb,u,d,rfl,hgb,hu,hd,c1,c2,hbu⟩:=HST.out.chgsCell (i:=iv+3) HL2.out (j:=k) (k:=(x:Int)) (by rw [List.getElem?_map,hx];rfl)
        obtain ⟨ub,uo,uc,rfl,_⟩:=hbu.cells
        obtain ⟨dl,hdl⟩: ∃m,d.length=m:=⟨_,rfl⟩
        have HDD:=Lib.hid hd
        have HX:=Lib.hid hx
        have HDLL:=Lib.hid hdl
        rw [hdl] at c2
        have H6:=Lib.hid (HST.out.newArr #[.int .i64 x,.slice (some ⟨ub,uo,none⟩) dl uc] 274 neChg)
        have HU:Hid (∀y Y rs',rs'[iv]?=rs2[iv]?→St w0 y (Y++rs')→BytesAt y (.slice (some ⟨ub,uo,none⟩) dl uc) d AnyB):=Lib.hid fun y Y rs' he hy=>by
          obtain ⟨I1,I2,I3,I4⟩:=hy.get (i:=Y.length+iv) (by rw [List.getElem?_append_right (by omega),Nat.add_sub_cancel_left,he];exact HL2.out)
          rw [←HDLL.out]
          exact I4 k _ d hu HDD.out
        clear hbu hu hd hx hdl
        go_upto_region 12 with (fail)
        obtain ⟨w5,hw5⟩: ∃w5,w5=wr.alloc (.cells #[.int .i64 x,.slice (some ⟨ub,uo,none⟩) dl uc] 274 (0,0)):=⟨_,rfl⟩
        rw [←hw5] at H6 ⊢
        clear hw5 c1 c2 HST
        generalize wr.heap.size=bc at*
        go_cut [48] from 49 to 78 (fun t wx=>t= .int .i64 k∧∃ov'',St w0 wx (arr bc #[.int .i64 x,.slice (some ⟨ub,uo,none⟩) dl uc] 274 neChg::arr jb #[.pointer (some ⟨H.b,0,none⟩),.int .u64 g,.int .u64 n,.bool false,ov'',.map (some m2)] 219 neJrn::rowI ov'' (ks.take (k+1))::chg m2 sl (ds.take k)::rs2))
        case first=>
          have c4:w5.cell? ⟨jb,4,none⟩=some ov':=(H6.out.arrCell (i:=1) rfl 4).trans rfl
          have cb:w5.cell? ⟨bc,0,none⟩=some (.int .i64 x):=(H6.out.arrCell (i:=0) rfl 0).trans rfl
          have hjl:jb<w5.heap.size:=lt_of_block (H6.out.get (i:=1) rfl)
          have hbl:bc<w5.heap.size:=lt_of_block (H6.out.get (i:=0) rfl)
          have HLK:Hid ((ks.take k).length=k):=Lib.hid (by rw [List.length_take];omega)
          have HO:=Lib.hid (show ((w5.alloc (.cells #[.int .i64 (x:Int)] 3 (0,0))).drew).ownsRow 0 3 1 ov' (ks.take k).length ((ks.take k).map NatK) from World.ownsRow.alloc (H6.out.get (i:=2) rfl) (.cells #[.int .i64 (x:Int)] 3 (0,0)))
          have HN:Hid (∀(j:Nat) u,([.int .i64 (x:Int)]:List Value)[j]?=some u→((w5.alloc (.cells #[.int .i64 (x:Int)] 3 (0,0))).drew).cell? ((⟨w5.heap.size,0,none⟩:Addr).add j)=some u):=Lib.hid (new_one w5 _ _)
          have HC0:Hid (∀u∈([.int .i64 (x:Int)]:List Value),u.oneCell'=true):=Lib.hid (by intro u hu;simp at hu;subst hu;rfl)
          have HC1:Hid ((ks.take k).length+1≤maxLen):=Lib.hid (by rw [HLK.out];simp only [maxLen];omega)
          have HC2:Hid (((ks.take k).length+1)*8≤140737488355328):=Lib.hid (by rw [HLK.out];omega)
          have HTK:Hid (ks.take (k+1)=ks.take k++ [x]):=Lib.hid (by
            obtain ⟨h1,h2⟩:=List.getElem?_eq_some_iff.1 HX.out
            rw [List.take_succ_eq_append_getElem h1,h2])
          obtain ⟨ii,hi0i,hz0,hz1,hz2⟩:=info_parts infoInt
          have HAP:Hid (∀v' w',w'.ownsRow 0 3 1 v' ((ks.take k).length+1) ((ks.take k).map NatK++ [.int .i64 (x:Int)])→((w5.alloc (.cells #[.int .i64 (x:Int)] 3 (0,0))).drew).grownBy w' ov'.ownBlock→(v'.ownBlock=ov'.ownBlock∨v'.ownBlock=some ((w5.alloc (.cells #[.int .i64 (x:Int)] 3 (0,0))).drew).heap.size)→
              (∃va vc,v'= .slice (some ⟨va,0,none⟩) (k+1) vc)∧St w0 w' (arr bc #[.int .i64 x,.slice (some ⟨ub,uo,none⟩) dl uc] 274 neChg::arr jb #[.pointer (some ⟨H.b,0,none⟩),.int .u64 g,.int .u64 n,.bool false,ov',.map (some m2)] 219 neJrn::rowI v' (ks.take (k+1))::chg m2 sl (ds.take k)::rs2)):=Lib.hid fun v' w' ho hg hat=>by
            refine ⟨?_,?_⟩
            · rcases ho.2 with hx | ⟨va,vc,_,hx,_⟩
              · have:=hx.2;omega
              · exact ⟨va,vc,by rw [hx,HLK.out]⟩
            · have h7:=(H6.out.frm0 ((Frm.refl NoB w5).drew)).rowAppend 2 rfl (.cells #[.int .i64 (x:Int)] 3 (0,0)) (m:=(ks.take (k+1)).length) (ys:=(ks.take (k+1)).map NatK) (by rw [HTK.out,List.length_append,List.map_append];exact ho) hg hat
              exact h7
          go_region_law (refine step_append_own rfl _ _ 64 rfl 0 3 ii (.int .i64 0) 1 8 Tryz.underlying64 hi0i hz0 hz1 hz2 rfl (by decide) _ _ _ rfl HO.out ⟨w5.heap.size,0,none⟩ 1 1 [.int .i64 (x:Int)] rfl rfl HN.out HC0.out HC1.out HC2.out (Nat.zero_le _) ?_;intro v' w' ho hg hat;obtain ⟨⟨vg,vcc,rfl⟩,h7⟩:=HAP.out v' w' ho hg hat;clear ho hg hat;have c7:w'.cell? ⟨jb,4,none⟩=some ov':=(h7.arrCell (i:=1) rfl 4).trans rfl;have f7:w'.frozen? ⟨jb,4,none⟩=false:=h7.arrFree (i:=1) rfl 4)
          all_goals
            have H8:=Lib.hid (h7.setArr 1 rfl 4 (.slice (some ⟨vg,0,none⟩) (k+1) vcc))
            clear h7 c7 f7 c4 cb
            go_wp2_with fail
            go_meet
            first | exact ⟨rfl,_,H8.out⟩ | (case rel=>exact ⟨rfl,_,H8.out⟩)
        case rest=>
          obtain ⟨rfl,ov2,hst⟩:=hcut
          have H7:=Lib.hid hst
          clear hst H6
          have HTD:Hid (ds.take (k+1)=ds.take k++ [d]):=Lib.hid (by
            obtain ⟨h1,h2⟩:=List.getElem?_eq_some_iff.1 HDD.out
            rw [List.take_succ_eq_append_getElem h1,h2])
          have HKL:Hid (k=(ds.take k).length):=Lib.hid (by rw [List.length_take,HDL.out];omega)
          have KA:Hid (∀y,Frm NoB wc y→y.cell? ⟨jb,5,none⟩=some (.map (some m2))∧y.cell? ⟨jb,2,none⟩=some (.int .u64 n)∧y.cell? ⟨bc,1,none⟩=some (.slice (some ⟨ub,uo,none⟩) dl uc)):=Lib.hid fun y hy=>
            ⟨((H7.out.frm0 hy).arrCell (i:=1) rfl 5).trans rfl,((H7.out.frm0 hy).arrCell (i:=1) rfl 2).trans rfl,((H7.out.frm0 hy).arrCell (i:=0) rfl 1).trans rfl⟩
          have KB:Hid (∀y u1 u2,St w0 y (u1::arr bc #[.int .i64 x,.slice (some ⟨ub,uo,none⟩) dl uc] 274 neChg::arr jb #[.pointer (some ⟨H.b,0,none⟩),.int .u64 g,.int .u64 n,.bool false,ov2,.map (some m2)] 219 neJrn::u2)→y.cell? ⟨jb,5,none⟩=some (.map (some m2))∧y.cell? ⟨jb,2,none⟩=some (.int .u64 n)∧y.cell? ⟨bc,1,none⟩=some (.slice (some ⟨ub,uo,none⟩) dl uc)):=Lib.hid fun y u1 u2 hy=>
            ⟨(hy.arrCell (i:=2) rfl 5).trans rfl,(hy.arrCell (i:=2) rfl 2).trans rfl,(hy.arrCell (i:=1) rfl 1).trans rfl⟩
          obtain ⟨c1,c2,c3⟩:=KA.out wc (Frm.refl _ _)
          have HCL:Hid (∀W,Frm NoB wc W→Calls Tryz.prog 146 #[.slice (some ⟨ub,uo,none⟩) dl uc] W fun e w'=> ∃vb vo vc2 o2,e= .returned (.slice (some ⟨vb,vo,none⟩) 512 vc2)∧(Instr.mapUpdate 217 (.map (some m2)) (.agg #[.int .i64 sl,.int .i64 k]) (.slice (some ⟨vb,vo,none⟩) 512 vc2)).run Tryz.prog w'= .ok () (setBlock w' m2 o2)∧Frm NoB wc w'∧
              St w0 (setBlock w' m2 o2) (byt (.slice (some ⟨vb,vo,none⟩) 512 vc2) d::arr bc #[.int .i64 x,.slice (some ⟨ub,uo,none⟩) dl uc] 274 neChg::arr jb #[.pointer (some ⟨H.b,0,none⟩),.int .u64 g,.int .u64 n,.bool false,ov2,.map (some m2)] 219 neJrn::rowI ov2 (ks.take (k+1))::chg m2 sl (ds.take (k+1))::rs2)):=Lib.hid fun W hW=>by
            have hst:=H7.out.frm0 hW
            have hb:=HU.out W [arr bc #[.int .i64 x,.slice (some ⟨ub,uo,none⟩) dl uc] 274 neChg,arr jb #[.pointer (some ⟨H.b,0,none⟩),.int .u64 g,.int .u64 n,.bool false,ov2,.map (some m2)] 219 neJrn,rowI ov2 (ks.take (k+1)),chg m2 sl (ds.take k)] rs2 rfl hst
            have h512:d.length=512:=H512.out d (List.mem_of_getElem? HDD.out)
            refine (Clone_any W _ d AnyB hb (by omega)).mono ?_
            rintro e w' ⟨hf,v',he,hb'⟩
            obtain ⟨vb,vo,vc2,rfl,_⟩:=hb'.cells
            rw [h512] at he hb'
            have h8:=hst.mkByt hf hb'
            obtain ⟨o2,q2,h9⟩:=h8.chgPut 4 rfl _ d (hb'.off hst.zin) (by have:=HKL.out;omega) (by omega) k HKL.out
            rw [←HTD.out] at h9
            exact ⟨vb,vo,vc2,o2,he,q2,hW.trans hf (fun _ _ e=>e),h9⟩
          clear HU
          go_wp2_with fail
          go_region_held3 (fun y=>y.cell? ⟨jb,5,none⟩=some (.map (some m2))∧y.cell? ⟨jb,2,none⟩=some (.int .u64 n)∧y.cell? ⟨bc,1,none⟩=some (.slice (some ⟨ub,uo,none⟩) dl uc))
            (first | exact hS9 | (refine KA.out _ ?_;first | assumption | exact (Frm.refl NoB wc).drew | exact ⟨rfl,rfl,rfl,Nat.le_refl _,fun _ _ _=>rfl⟩))
            (first
              | (go_at_call 138;refine (HSL.out _).mono ?_;rintro e w6 ⟨rfl,rfl⟩)
              | (go_at_call 146;refine (HCL.out _ (by first | exact (Frm.refl NoB wc).drew | exact Frm.refl _ _)).mono ?_;rintro e w7 ⟨vb,vo,vc2,o2,rfl,q2,hF7,h9⟩;have hS9:=KB.out _ _ _ h9))
          all_goals
            have H9:=Lib.hid (h9.drop 2)
            clear h9 hS9 q2 hF7 c1 c2 c3
            go_wp2
            first | exact ⟨⟨k+1,_,hlt,by go_num,H9.out⟩,by simp [intOf];omega⟩ | (go_roundw;case rel=>first | exact ⟨k+1,_,hlt,by go_num,H9.out⟩ | ((repeat apply Exists.intro);exact ⟨⟨k+1,_,hlt,by go_num,H9.out⟩,rfl⟩);case measure=>simp [intOf];omega)
      · have hk1: ¬(k:Int)<(ks.length:Int):=by omega
        have HKK:Hid (k=ks.length):=Lib.hid (by omega)
        go_wp2
        go_ret
        refine .inl ⟨HE.out,rfl,⟨jb,ov',m2⟩,rfl,?_⟩
        rw [show runD (writeOps g last om dm ks ds) D=D2 from HD2.out,HRS.out]
        refine St.jShut ?_
        have h9:=HST.out
        rw [HKK.out,List.take_length,←HDL.out,List.take_length,←HSS.out,←HNN.out] at h9
        exact h9
  · rw [e9] at he
    subst he
    have HE:=Lib.hid e9
    have c3:w2.cell? ⟨jb,3,none⟩=some (.bool false):=(H2.out.arrCell (i:=0) rfl 3).trans rfl
    have f3:w2.frozen? ⟨jb,3,none⟩=false:=H2.out.arrFree (i:=0) rfl 3
    have H3:=Lib.hid (H2.out.setArr 0 rfl 3 (.bool true))
    clear e9
    go_wp2
    go_ret
    refine .inr ⟨HE.out,rfl,⟨jb,ov,mb⟩,rfl,?_⟩
    rw [show runD (writeOps g last om dm ks ds) D=D2 from HD2.out,HRS.out]
    exact St.jShut H3.out
theorem mayTo_iff (n:Nat) (ks:List Int) (ds:List Blk): ∀j,mayTo n ks ds j=true↔∀i,i<j→goodAt n ks ds i=true
  | 0=>⟨fun _ i h=>by omega,fun _=>rfl⟩
  | j+1=>by
    unfold mayTo
    rw [Bool.and_eq_true,mayTo_iff n ks ds j]
    constructor
    · rintro ⟨h1,h2⟩ i hi
      rcases Nat.lt_or_eq_of_le (Nat.le_of_lt_succ hi) with h | h
      · exact h1 i h
      · rw [h];exact h2
    · exact fun h=>⟨fun i hi=>h i (by omega),h j (by omega)⟩
theorem may_is {n:Nat} {ks:List Nat} {ds:List Blk} (h:MayL n ks ds) (hd: ∀d∈ds,d.length=512):mayE n (ks.map fun k:Nat=>(k:Int)) ds=0:=by
  unfold mayE
  have hm:mayTo n (ks.map fun k:Nat=>(k:Int)) ds (ks.map fun k:Nat=>(k:Int)).length=true:=(mayTo_iff _ _ _ _).2 fun i hi=>by
    rw [List.length_map] at hi
    have hki:ks[i]?=some ks[i]:=List.getElem?_eq_getElem hi
    have hdi:ds[i]?=some (ds[i]'(by rw [h.len];exact hi)):=List.getElem?_eq_getElem _
    have hho:=h.home _ (List.getElem_mem hi)
    unfold goodAt
    rw [List.getD_eq_getElem?_getD,List.getElem?_map,hki,List.getD_eq_getElem?_getD,hdi]
    simp only [Option.map_some,Option.getD_some,Bool.and_eq_true,decide_eq_true_eq]
    refine ⟨⟨⟨by omega,by omega⟩,?_⟩,by simpa using hd _ (List.mem_of_getElem? hdi)⟩
    rw [Bool.not_eq_true',←Bool.not_eq_true,List.contains_iff_mem]
    intro hm
    obtain ⟨j,hj⟩:=List.getElem?_of_mem hm
    rw [List.getElem?_take] at hj
    split at hj
    · rename_i hji
      rw [List.getElem?_map,List.getElem?_eq_getElem (by omega)] at hj
      simp only [Option.map_some,Option.some.injEq] at hj
      have hp:=List.pairwise_iff_getElem.1 (List.nodup_iff_pairwise_ne.1 h.nodup) j i (by omega) hi hji
      exact hp (by omega)
    · cases hj
  rw [if_pos hm,if_neg (by rw [List.length_map];have:=h.few;omega)]
end
section
open Go.ChangeMaps Go.MapKept Go.RowKit
variable {w0:Gnd} {w:World} {rs:List Res} {H:Hdl} {jh:JHdl} {J:JSt}
theorem S_JRF (h:St w0 w (jrn H jh J::rs)) (a:Nat) {D:DSt} (hr:rs[a]?=some (dev H D)) (hJ:JOk D.n J) (ho:D.ops<1000000000) (k:Int) (hk0:245≤k) (hk1:k<(D.n:Int)):
    Calls Tryz.prog 64 #[.pointer (some ⟨jh.jb,0,none⟩),.int .i64 k] w fun e w'=> ∃v,e= .returned (.tuple #[v,.int .i64 0])∧Frm NoB w w'∧BytesAt w' v (jview J D k.toNat) (Fresh w):=
  S_JReadF h.jOpen (a+3) 0 1 2 hr rfl rfl rfl rfl rfl rfl rfl rfl (by have:=hJ.last;omega) hJ.len hJ.few hJ.b512 ho k hk0 hk1
theorem S_JR (h:St w0 w (jrn H jh J::rs)) (a:Nat) {D:DSt} (hr:rs[a]?=some (dev H D)) (hJ:JOk D.n J) (ho:D.ops<1000000000) (k:Int) (hk0:245≤k) (hk1:k<(D.n:Int)):
    Calls Tryz.prog 64 #[.pointer (some ⟨jh.jb,0,none⟩),.int .i64 k] w fun e w'=> ∃v,e= .returned (.tuple #[v,.int .i64 0])∧St w0 w' (byt v (jview J D k.toNat)::jrn H jh J::rs):=by
  refine (S_JRead h.jOpen (a+3) 0 1 2 hr rfl rfl rfl rfl rfl rfl rfl rfl (by have:=hJ.last;omega) hJ.len hJ.few hJ.b512 ho k hk0 hk1).mono ?_
  rintro e w' ⟨v,he,h2⟩
  refine ⟨v,he,?_⟩
  have h3:=h2.perm ((List.perm_append_comm (l₁:= [byt v (over J.order J.data D.last k.toNat)]) (l₂:= [arr jh.jb (jcells H jh J) 219 neJrn,rowI jh.ov J.order,chg jh.mb (J.last%4) J.data])).append_right rs)
  exact (St.jShut h3).swap
theorem St.noChgs (h:St w0 w rs):St w0 w (chgs (.slice none 0 0) [] [] []::rs):=
  h.make (Frm.refl _ _) (chgs (.slice none 0 0) [] [] []) ⟨World.ownsRow_nil _ _ _ _,rfl,rfl,fun i u b hu _=>by simp at hu⟩ (fun _ hx=>by cases hx)
theorem S_mayJ (h:St w0 w (jrn H jh J::rs)) (a iv:Nat) {D:DSt} (hr:rs[a]?=some (dev H D)) {v:Value} {ks:List Int} {vs:List Value} {ds:List Blk} (hl:rs[iv]?=some (chgs v ks vs ds)) (hok: ∀k∈ks,okI k) (hlen:ks.length≤1000000) (hd: ∀d∈ds,d.length≤1000000):
    Calls Tryz.prog 250 #[.pointer (some ⟨jh.jb,0,none⟩),v] w fun e w'=>e= .returned (.int .i64 (mayE D.n ks ds))∧St w0 w' (jrn H jh J::rs):=
  (S_may h.jOpen (a+3) 0 (iv+3) hr rfl rfl hl hok hlen hd).mono fun _ _ ⟨h1,h2⟩=>⟨h1,h2.jShut⟩
set_option maxRecDepth 100000 in
theorem S_CommitNone (h:St w0 w (jrn H jh J::rs)) (a iv:Nat) {D:DSt} (hr:rs[a]?=some (dev H D)) {v:Value} (hl:rs[iv]?=some (chgs v [] [] [])):
    Calls Tryz.prog 187 #[.pointer (some ⟨jh.jb,0,none⟩),v] w fun e w'=>e= .returned (.int .i64 0)∧St w0 w' (jrn H jh J::rs):=by
  obtain ⟨va,vc,rfl⟩:=h.chgsLen (i:=iv+1) hl
  have HM:=Lib.hid (S_mayJ h a iv hr hl (fun _ h=>by cases h) (by simp) (fun _ h=>by cases h))
  rw [show mayE D.n [] []=0 from rfl] at HM
  clear h hr hl
  simp only [List.length_nil] at HM ⊢
  go_enter Tryz.func187,Tryz.ntmps187
  go_wp2_with fail
  refine HM.out.mono ?_
  clear HM
  rintro e w2 ⟨rfl,h2⟩
  have H2:=Lib.hid h2
  clear h2
  go_wp2
  go_ret
  exact ⟨rfl,H2.out⟩
set_option maxRecDepth 100000 in
theorem S_Commit (h:St w0 w (jrn H jh J::rs)) (a iv:Nat) {D:DSt} (hr:rs[a]?=some (dev H D)) {v:Value} {ks:List Nat} {vs:List Value} {ds:List Blk} (hl:rs[iv]?=some (chgs v (ks.map fun k:Nat=>(k:Int)) vs ds))
    (hJ:JOk D.n J) (hdead:J.dead=false) (hmay:MayL D.n ks ds) (hd512: ∀d∈ds,d.length=512) (hD:246≤D.n) (hn:D.n≤65536) (ho:D.ops<1000000000) (hne:ks≠ []) (q:iv≠a):
    Calls Tryz.prog 187 #[.pointer (some ⟨jh.jb,0,none⟩),v] w (CommitRet w0 rs a H jh.jb J D ks ds):=by
  obtain ⟨va,vc,rfl⟩:=h.chgsLen (i:=iv+1) hl
  have HM:=Lib.hid (S_mayJ h a iv hr hl (fun k hk=>by
    obtain ⟨x,hx,rfl⟩:=List.mem_map.1 hk
    have:=hmay.home x hx
    exact (okI_iff _).2 (by omega)) (by rw [List.length_map];have:=hmay.few;omega) (fun d hd=>by have:=hd512 d hd;omega))
  rw [may_is hmay hd512] at HM
  have HC:Hid (∀W,St w0 W (jrn H jh J::rs)→Calls Tryz.prog 251 #[.pointer (some ⟨jh.jb,0,none⟩),.slice va (ks.map fun k:Nat=>(k:Int)).length vc] W (CommitRet w0 rs a H jh.jb J D ks ds)):=Lib.hid fun W hW=>S_commit hW a iv hr hl hJ hdead hmay hd512 hD hn ho q
  obtain ⟨m,hm⟩: ∃m,(ks.map fun k:Nat=>(k:Int)).length=m:=⟨_,rfl⟩
  rw [hm] at HM HC ⊢
  have hb:((m:Int)==0)=false:=by
    rw [List.length_map] at hm
    have:ks.length≠0:=fun e=>hne (List.eq_nil_of_length_eq_zero e)
    rw [beq_eq_false_iff_ne];omega
  clear h hr hl hJ hdead hmay hd512 hD hn ho hne q hm
  go_enter Tryz.func187,Tryz.ntmps187
  go_wp2_with fail
  refine HM.out.mono ?_
  clear HM
  rintro e w2 ⟨rfl,h2⟩
  have H2:=Lib.hid h2
  clear h2
  go_wp2_with fail
  refine (HC.out _ H2.out).mono ?_
  clear HC
  rintro e w3 (⟨h1,rfl,jh',hjb,h3⟩ | ⟨h1,rfl,jh',hjb,h3⟩)
  · have H1:=Lib.hid h1
    have H3:=Lib.hid h3
    have HJB:=Lib.hid hjb
    clear h1 h3 hjb
    go_wp2
    go_ret
    exact .inl ⟨H1.out,rfl,jh',HJB.out,H3.out⟩
  · have H1:=Lib.hid h1
    have H3:=Lib.hid h3
    have HJB:=Lib.hid hjb
    clear h1 h3 hjb
    go_wp2
    go_ret
    exact .inr ⟨H1.out,rfl,jh',HJB.out,H3.out⟩
end
section
structure Live (n g m:Nat) (J:JSt) (D:DSt) (s:Nat→Blk):Prop where
  wf:D.Wf
  dn:D.n=n
  clean: ∀k,D.pend k= []
  gen:J.gen=g
  last:J.last≤m
  alive:J.dead=false
  disk: ∃o dt,TellsAt n g J.last o dt s D.base∧Knows o dt D.base J.order J.data
theorem Live.ok {n g m:Nat} {J:JSt} {D:DSt} {s:Nat→Blk} (h:Live n g m J D s) (hg:g<18446744073709551616) (hm:m<18446744073709551615):JOk D.n J:=by
  obtain ⟨o,dt,hT,hK⟩:=h.disk
  have hd:=hT.1.dt512 (fun k=>h.wf.base k)
  have hl:=h.last
  rcases hK with ⟨e1,e2⟩ | ⟨e1,e2,_⟩
  · exact ⟨by rw [e1,e2];exact hT.1.len,by rw [e1];exact hT.1.few,fun k hk=>by rw [e1] at hk;rw [h.dn];exact (hT.1.homes k hk).2,by rw [e2];exact hd,by omega,by rw [h.gen];exact hg⟩
  · exact ⟨by rw [e1,e2];rfl,by rw [e1];exact Nat.zero_le _,fun k hk=>by rw [e1] at hk;(cases hk),fun b hb=>by rw [e2] at hb;(cases hb),by omega,by rw [h.gen];exact hg⟩
theorem Live.view {n g m:Nat} {J:JSt} {D:DSt} {s:Nat→Blk} (h:Live n g m J D s) (k:Nat) (h1:245≤k) (h2:k<n):jview J D k=s k:=by
  obtain ⟨o,dt,hT,hK⟩:=h.disk
  unfold jview
  rw [last_fun_clean h.clean]
  rcases hK with ⟨e1,e2⟩ | ⟨e1,e2,hs⟩
  · rw [e1,e2];exact hT.2 k h1 h2
  · rw [e1,e2,←hT.2 k h1 h2,over_settled hT.1.len hT.1.nodup hs]
    unfold over;rfl
theorem Live.tells {n g m:Nat} {J:JSt} {D:DSt} {s:Nat→Blk} (h:Live n g m J D s):Tells n g m s D.base:=by
  obtain ⟨o,dt,hT,_⟩:=h.disk
  exact ⟨_,o,dt,h.last,hT⟩
theorem Live.mono {n g m m':Nat} {J:JSt} {D:DSt} {s:Nat→Blk} (h:Live n g m J D s) (hm:m≤m'):Live n g m' J D s:=
  ⟨h.wf,h.dn,h.clean,h.gen,Nat.le_trans h.last hm,h.alive,h.disk⟩
theorem Live.congr {n g m:Nat} {J:JSt} {D:DSt} {s t:Nat→Blk} (h:Live n g m J D s) (hs: ∀k,245≤k→k<n→s k=t k):Live n g m J D t:=by
  obtain ⟨o,dt,hT,hK⟩:=h.disk
  exact ⟨h.wf,h.dn,h.clean,h.gen,h.last,h.alive,o,dt,⟨hT.1,fun k h1 h2=>(hT.2 k h1 h2).trans (hs k h1 h2)⟩,hK⟩
theorem wOk {n g m:Nat} {J:JSt} {D:DSt} {s:Nat→Blk} (h:Live n g m J D s) {ks:List Nat} {ds:List Blk} (hl:MayL n ks ds) (hd: ∀d∈ds,d.length=512) (hn:246≤n) (hg:g<18446744073709551616) (hm:m<18446744073709551615):
    ∀op∈writeOps J.gen J.last J.order J.data ks ds,op.ok D.n:=by
  intro op hop
  have hJ:=h.ok hg hm
  unfold writeOps at hop
  cases op with
  | fl=>trivial
  | wr k b=>
    rcases List.mem_append.1 hop with hop | hop
    · rcases List.mem_append.1 hop with hop | hop
      · rcases List.mem_append.1 hop with hop | hop
        · obtain ⟨i,h1,h2⟩:=settleOps_mem _ _ _ _ hop
          exact ⟨hJ.home k (List.mem_of_getElem? h1),hJ.b512 b (List.mem_of_getElem? h2)⟩
        · obtain ⟨j,h1,h2⟩:=dataFrom_mem _ _ _ _ _ hop
          have hj:=(List.getElem?_eq_some_iff.1 h2).1
          have h60:=hl.few
          have h61:=hl.len
          refine ⟨?_,hd b (List.mem_of_getElem? h2)⟩
          rw [h1,h.dn]
          unfold slotB
          have:(J.last+1)%4<4:=Nat.mod_lt _ (by omega)
          omega
      · simp at hop
    · simp at hop
      obtain ⟨rfl,rfl⟩:=hop
      refine ⟨?_,headB_length _ _ _ hl.few⟩
      rw [h.dn]
      unfold slotB
      have:(J.last+1)%4<4:=Nat.mod_lt _ (by omega)
      omega
theorem writeOps_length (g last:Nat) (om:List Nat) (dm:List Blk) (ks:List Nat) (ds:List Blk) (h:dm.length=om.length):(writeOps g last om dm ks ds).length=om.length+ds.length+3:=by
  unfold writeOps
  simp only [List.length_append,settleOps_length _ _ h,dataFrom_length,List.length_cons,List.length_nil]
structure After (n g m:Nat) (s t:Nat→Blk) (D D':DSt):Prop where
  wf:D'.Wf
  dn:D'.n=n
  ops:D'.ops≤D.ops+123
  safe:Safe D' (fun C=>Tells n g m s C∨Tells n g m t C)
theorem Live.commit {n g m:Nat} {J:JSt} {D:DSt} {s:Nat→Blk} (h:Live n g m J D s) {ks:List Nat} {ds:List Blk} (hl:MayL n ks ds) (hd: ∀d∈ds,d.length=512) (h246:246≤n) (hn:n≤65536) (hg:g<18446744073709551616) (hm:m<18446744073709551615):
    After n g (m+1) s (over ks ds s) D (runD (writeOps J.gen J.last J.order J.data ks ds) D)∧
    (endD (writeOps J.gen J.last J.order J.data ks ds) D=0→Live n g (m+1) (J.did ks ds) (runD (writeOps J.gen J.last J.order J.data ks ds) D) (over ks ds s)):=by
  obtain ⟨o,dt,hT,hK⟩:=h.disk
  have hJ:=h.ok hg hm
  have hlast:=h.last
  have hcs:=commit_safe h.clean hT hK hl hn hg (by omega)
  have hw:(runD (writeOps J.gen J.last J.order J.data ks ds) D).Wf:=runD_wf _ _ h.wf (wOk h hl hd h246 hg hm)
  have hops:=runD_ops (writeOps J.gen J.last J.order J.data ks ds) D
  rw [writeOps_length _ _ _ _ _ _ hJ.len] at hops
  have hf:=hJ.few
  have hf2:=hl.few
  have hf3:=hl.len
  have hge:=h.gen
  rw [hge] at hw hops ⊢
  refine ⟨⟨hw,(runD_n _ _).trans h.dn,by omega,hcs.1.mono fun C hC=>?_⟩,fun h0=>?_⟩
  · rcases hC with hC | hC
    · exact .inl ⟨_,o,dt,by omega,hC⟩
    · exact .inr ⟨_,ks,ds,by omega,hC⟩
  · obtain ⟨c1,c2⟩:=hcs.2 h0
    exact ⟨hw,(runD_n _ _).trans h.dn,c1,hge,Nat.succ_le_succ hlast,rfl,ks,ds,c2,.inl ⟨rfl,rfl⟩⟩
theorem oOk {n g last:Nat} {o:List Nat} {dt:List Blk} {D:DSt} (hw:D.Wf) (hn:D.n=n) (h:JDisk n g D.base last o dt): ∀op∈openOps o dt,op.ok D.n:=by
  intro op hop
  unfold openOps at hop
  cases op with
  | fl=>trivial
  | wr k b=>
    rcases List.mem_append.1 hop with hop | hop
    · obtain ⟨i,h1,h2⟩:=settleOps_mem _ _ _ _ hop
      exact ⟨by rw [hn];exact (h.homes k (List.mem_of_getElem? h1)).2,h.dt512 (fun k=>hw.base k) b (List.mem_of_getElem? h2)⟩
    · simp at hop
theorem Tells.opens {n g m:Nat} {D:DSt} {s:Nat→Blk} (hw:D.Wf) (hn:D.n=n) (hp: ∀k,D.pend k= []) (h:Tells n g m s D.base): ∃last o dt,last≤m∧JDisk D.n g D.last last o dt∧
    (runD (openOps o dt) D).Wf∧(runD (openOps o dt) D).n=n∧(runD (openOps o dt) D).ops≤D.ops+61∧Safe (runD (openOps o dt) D) (Tells n g m s)∧
    (endD (openOps o dt) D=0→Live n g m ⟨g,last,false,[],[]⟩ (runD (openOps o dt) D) s):=by
  obtain ⟨last,o,dt,hl,hd,hs⟩:=h
  have hT:TellsAt n g last o dt s D.base:=⟨hd,hs⟩
  have hS:Safe D (TellsAt n g last o dt s):=Safe.clean hp hT
  have hwf:=runD_wf _ _ hw (oOk hw hn hd)
  have hops:=runD_ops (openOps o dt) D
  have hlen:(openOps o dt).length=o.length+1:=by unfold openOps;rw [List.length_append,settleOps_length _ _ hd.len];rfl
  have hfew:=hd.few
  refine ⟨last,o,dt,hl,by rw [hn,last_fun_clean hp];exact hd,hwf,(runD_n _ _).trans hn,by omega,(openOps_safe hS).mono fun C hC=>⟨last,o,dt,hl,hC⟩,fun h0=>?_⟩
  obtain ⟨c1,c2,c3⟩:=openOps_done (by rw [last_fun_clean hp];exact hT) hS h0
  exact ⟨hwf,(runD_n _ _).trans hn,c1,rfl,hl,rfl,o,dt,c2,.inr ⟨rfl,rfl,c3⟩⟩
theorem fmt_tells (n:Nat) (hn:246≤n) (hn2:n≤65536):Tells n 1 0 (fun _=>zeros) (fmtD (DSt.new n) 0 7).base∧(∀k,(fmtD (DSt.new n) 0 7).pend k= [])∧(fmtD (DSt.new n) 0 7).Wf:=by
  have hlast: ∀i k,k≠0→(fmtD (DSt.new n) 0 i).last k=zeros:=by
    intro i
    induction i with
    | zero=>intro k _;rfl
    | succ i ih=>
      intro k hk
      show (fmtStep 0 i (fmtD (DSt.new n) 0 i)).last k=zeros
      unfold fmtStep
      split
      · by_cases e:k=1+61*i
        · subst e;exact last_put_same _ _ _
        · rw [last_put_other _ _ e];exact ih k hk
      · split
        · rw [last_put_other _ _ hk];exact ih k hk
        · exact ih k hk
  have hwf: ∀i,(fmtD (DSt.new n) 0 i).Wf:=by
    intro i
    induction i with
    | zero=>exact DSt.new_wf (by omega) hn2
    | succ i ih=>
      have hno:=(fmtD_ok (DSt.new n) 0 rfl i).1
      have hnn:(fmtD (DSt.new n) 0 i).n=n:=hno
      show (fmtStep 0 i (fmtD (DSt.new n) 0 i)).Wf
      unfold fmtStep
      split
      · exact did_wf (o:= .wr (1+61*i) zeros) ih ⟨by rw [hnn];omega,zeros_length⟩
      · split
        · exact did_wf (o:= .wr 0 (laidB magicL [0+1])) ih ⟨by rw [hnn];omega,laidFrom_length _ _ _ (textBlk_length _ (by decide)) (by simp)⟩
        · exact did_wf (o:= .fl) ih trivial
  have hpend: ∀k,(fmtD (DSt.new n) 0 7).pend k= []:=fun k=>fmtD_pend _ _ k
  have hb:(fmtD (DSt.new n) 0 7).base=(fmtD (DSt.new n) 0 7).last:=(last_fun_clean hpend).symm
  have hz:hdrOk 1 zeros=false:=by unfold hdrOk;rfl
  refine ⟨⟨0,[],[],Nat.zero_le _,⟨?_,?_,fun i hi hok=>?_,.inl ⟨rfl,rfl,rfl⟩,fun k hk=>by (cases hk),List.nodup_nil⟩,fun k h1 h2=>?_⟩,hpend,hwf 7⟩
  · rw [hb,fmtD_last0];exact laid_magic 0
  · rw [hb,fmtD_last0];exact laid_gen 0 (by omega)
  · rw [hb,hlast 7 (slotB i) (by unfold slotB;omega),hz] at hok;cases hok
  · unfold over
    rw [hb];exact hlast 7 k (by omega)
end
section
open Go.ChangeMaps Go.MapKept Go.RowKit
theorem S_OpenL {w0:Gnd} {w:World} {rs:List Res} (h:St w0 w rs) (a:Nat) {H:Hdl} {D:DSt} (hr:rs[a]?=some (dev H D)) {n g m:Nat} {s:Nat→Blk} (hw:D.Wf) (hn:D.n=n) (hp: ∀k,D.pend k= []) (hT:Tells n g m s D.base) (h246:246≤n) (hm:m<18446744073709551615) (hg:g<18446744073709551616)
    (ho:D.ops<1000000000) (hlim:D.lim=none):
    Calls Tryz.prog 63 #[.pointer (some ⟨H.b,0,none⟩)] w fun e w'=> ∃jh J' D',e= .returned (.tuple #[.pointer (some ⟨jh.jb,0,none⟩),.int .i64 0])∧St w0 w' (jrn H jh J'::rs.set a (dev H D'))∧Live n g m J' D' s∧D'.lim=none∧D'.ops≤D.ops+61:=by
  obtain ⟨last,o,dt,hl,hd,a1,a2,a3,a4,a5⟩:=hT.opens hw hn hp
  refine (S_Open h a hr hd (by omega) (by omega) hg ho).mono ?_
  have hno:=endD_none (openOps o dt) D hlim
  rintro e w' (⟨h0,jh,he,hst⟩ | ⟨h9,_⟩)
  · exact ⟨jh,_,_,he,hst,a5 h0,hno.2,a3⟩
  · rw [hno.1] at h9;cases h9
theorem S_CommitL {w0:Gnd} {w:World} {rs:List Res} {H:Hdl} {jh:JHdl} {J:JSt} (h:St w0 w (jrn H jh J::rs)) (a iv:Nat) {D:DSt} (hr:rs[a]?=some (dev H D)) {v:Value} {ks:List Nat} {vs:List Value} {ds:List Blk} (hl:rs[iv]?=some (chgs v (ks.map fun k:Nat=>(k:Int)) vs ds))
    {n g m:Nat} {s:Nat→Blk} (hL:Live n g m J D s) (hmay:MayL n ks ds) (hd512: ∀d∈ds,d.length=512) (h246:246≤n) (hn:n≤65536) (hm:m<18446744073709551615) (hg:g<18446744073709551616) (ho:D.ops<1000000000) (hlim:D.lim=none) (q:iv≠a):
    Calls Tryz.prog 187 #[.pointer (some ⟨jh.jb,0,none⟩),v] w fun e w'=> ∃jh' J' D',jh'.jb=jh.jb∧e= .returned (.int .i64 0)∧St w0 w' (jrn H jh' J'::rs.set a (dev H D'))∧Live n g (m+1) J' D' (over ks ds s)∧D'.lim=none∧D'.ops≤D.ops+123:=by
  have hdn:=hL.dn
  by_cases hk:ks= []
  · subst hk
    have hds:ds= []:=List.eq_nil_of_length_eq_zero hmay.len
    subst hds
    have hvs:vs= []:=by
      have:=(h.get (i:=iv+1) hl).2.1
      exact List.eq_nil_of_length_eq_zero (by simpa using this)
    subst hvs
    refine (S_CommitNone h a iv hr hl).mono ?_
    rintro e w' ⟨he,hst⟩
    refine ⟨jh,J,D,rfl,he,?_,(hL.mono (Nat.le_succ m)).congr (fun k _ _=>by unfold over;rfl),hlim,by omega⟩
    have e1:rs.set a (dev H D)=rs:=by
      obtain ⟨h1,h2⟩:=List.getElem?_eq_some_iff.1 hr
      rw [←h2];exact List.set_getElem_self h1
    rw [e1];exact hst
  · obtain ⟨hA,hB⟩:=hL.commit hmay hd512 h246 hn hg hm
    have hno:=endD_none (writeOps J.gen J.last J.order J.data ks ds) D hlim
    refine (S_Commit h a iv hr hl (hL.ok hg hm) hL.alive (by rw [hdn];exact hmay) hd512 (by omega) (by omega) ho hk q).mono ?_
    rintro e w' (⟨h0,he,jh',hjb,hst⟩ | ⟨h9,_⟩)
    · exact ⟨jh',_,_,hjb,he,hst,hB h0,hno.2,hA.ops⟩
    · rw [hno.1] at h9;cases h9
theorem infoChg:(Tryz.prog.info? 274).map (fun i=>(i.zero,i.size,i.bytes))=some (some (.agg #[.int .i64 0,.slice none 0 0]),2,32):=by kernel_rfl
theorem St.chgsAppend {w0:Gnd} {w:World} {rs:List Res} (h:St w0 w rs) (i j:Nat) {v:Value} {ks:List Int} {vs:List Value} {ds:List Blk} (hr:rs[i]?=some (chgs v ks vs ds)) {u:Value} {d:Blk} (hv:rs[j]?=some (byt u d)) (k:Int) (o:Obj) {v':Value} {w':World} {news:List Value}
    (hnews:news= [.int .i64 k,u]) (ho:w'.ownsRow 0 274 2 v' (ks.length+1) (flat ks vs++news)) (hg:(w.alloc o).grownBy w' v.ownBlock) (hat:v'.ownBlock=v.ownBlock∨v'.ownBlock=some (w.alloc o).heap.size):
    St w0 w' (rs.set i (chgs v' (ks++ [k]) (vs++ [u]) (ds++ [d]))):=by
  subst hnews
  obtain ⟨I1,I2,I3,I4⟩:=h.get hr
  have hb:=h.get hv
  have hf:Frm (chgs v ks vs ds).M w w':=((Frm.refl _ w).alloc o).trans (Frm.ofGrown hg) (fun y _ e=>e)
  have hdry:=(chgs v ks vs ds).dry _ w (h.get hr)
  have hkeep: ∀u' b',BytesAt w u' b' AnyB→BytesAt w' u' b' AnyB:=fun u' b' hu'=>hu'.frmZ hf (fun x _ hx=>hdry x hx)
  refine h.write i hr hf (chgs v' (ks++ [k]) (vs++ [u]) (ds++ [d])) ⟨?_,by simp [I2],by simp [I3],fun q x b hx hb'=>?_⟩ (fun x hx=>?_)
  · rw [List.length_append,List.length_singleton,flat_snoc _ _ _ _ I2]
    exact ho
  · rcases Nat.lt_trichotomy q vs.length with hq | hq | hq
    · rw [List.getElem?_append_left hq] at hx
      rw [List.getElem?_append_left (by omega)] at hb'
      exact hkeep _ _ (I4 q x b hx hb')
    · subst hq
      rw [List.getElem?_append_right (Nat.le_refl _),Nat.sub_self] at hx
      rw [show vs.length=ds.length from by omega,List.getElem?_append_right (Nat.le_refl _),Nat.sub_self] at hb'
      simp at hx hb'
      subst hx hb'
      exact hkeep _ _ hb
    · rw [List.getElem?_eq_none (by simp;omega)] at hx;cases hx
  · rcases hat with e | e
    · exact .inl (show v.ownBlock=some x from e▸(show v'.ownBlock=some x from hx))
    · have hx:v'.ownBlock=some x:=hx
      rw [e] at hx
      have e':(w.alloc o).heap.size=x:=by injection hx
      have:=((Frm.refl NoB w).alloc o).size
      exact .inr (by omega)
theorem new_two (w:World) (x y:Value) (t:TypeId) (j:Nat) (u:Value) (h:([x,y]:List Value)[j]?=some u):(w.alloc (.cells #[x,y] t (0,0))).cell? ((⟨w.heap.size,0,none⟩:Addr).add j)=some u:=by
  have e:((⟨w.heap.size,0,none⟩:Addr).add j)=⟨w.heap.size,j,none⟩:=by unfold Addr.add;split<;>simp_all
  rw [e,cell_of_block (block_alloc_new _ _),←Array.getElem?_toList]
  exact h
abbrev WrL:=List (Int×Blk)
def look:WrL→Int→Option Blk
  | [],_=>none
  | p::r,k=>if p.1=k then some p.2 else look r k
def putW:WrL→Int→Blk→WrL
  | [],k,b=> [(k,b)]
  | p::r,k,b=>if p.1=k then (k,b)::r else p::putW r k b
theorem look_put_same: ∀(l:WrL) (k:Int) (b:Blk),look (putW l k b) k=some b
  | [],k,b=>by unfold putW look;rw [if_pos rfl]
  | p::r,k,b=>by
    unfold putW
    by_cases h:p.1=k
    · rw [if_pos h];unfold look;rw [if_pos rfl]
    · rw [if_neg h];unfold look;rw [if_neg h];exact look_put_same r k b
theorem look_put_other: ∀(l:WrL) {k j:Int} (b:Blk),j≠k→look (putW l k b) j=look l j
  | [],k,j,b,h=>by
    unfold putW look
    rw [if_neg (Ne.symm h)]
    rfl
  | p::r,k,j,b,h=>by
    unfold putW
    by_cases e:p.1=k
    · rw [if_pos e];unfold look;rw [if_neg (Ne.symm h),if_neg (by rw [e];exact Ne.symm h)]
    · rw [if_neg e]
      by_cases e2:p.1=j
      · unfold look;rw [if_pos e2,if_pos e2]
      · conv=>lhs;unfold look
        conv=>rhs;unfold look
        rw [if_neg e2,if_neg e2];exact look_put_other r b h
theorem put_length: ∀(l:WrL) (k:Int) (b:Blk),(putW l k b).length=if (look l k).isSome then l.length else l.length+1
  | [],k,b=>rfl
  | p::r,k,b=>by
    unfold putW look
    by_cases h:p.1=k
    · rw [if_pos h,if_pos h];rfl
    · rw [if_neg h,if_neg h,List.length_cons,put_length r k b]
      split<;>rfl
theorem put_keys: ∀(l:WrL) (k:Int) (b:Blk),(putW l k b).map (·.1)=if (look l k).isSome then l.map (·.1) else l.map (·.1)++ [k]
  | [],k,b=>rfl
  | p::r,k,b=>by
    unfold putW look
    by_cases h:p.1=k
    · rw [if_pos h,if_pos h];simp [h]
    · rw [if_neg h,if_neg h,List.map_cons,put_keys r k b]
      split<;>rfl
theorem look_mem: ∀(l:WrL) (k:Int),(look l k).isSome=true↔k∈l.map (·.1)
  | [],k=>by simp [look]
  | p::r,k=>by
    unfold look
    by_cases h:p.1=k
    · rw [if_pos h];simp [h]
    · rw [if_neg h,look_mem r k];simp [Ne.symm h]
theorem put_nodup {l:WrL} (h:(l.map (·.1)).Nodup) (k:Int) (b:Blk):((putW l k b).map (·.1)).Nodup:=by
  rw [put_keys]
  split
  · exact h
  · rename_i hs
    refine List.nodup_append.2 ⟨h,by simp,fun a ha x hx=>?_⟩
    simp at hx
    rw [hx]
    rintro rfl
    exact hs ((look_mem l a).2 ha)
theorem put_all {P:Int×Blk→Prop}: ∀ {l:WrL} (k:Int) (b:Blk),(∀p∈l,P p)→P (k,b)→∀p∈putW l k b,P p
  | [],k,b,h,hk=>fun p hp=>by
    simp [putW] at hp;rw [hp];exact hk
  | q::r,k,b,h,hk=>fun p hp=>by
    unfold putW at hp
    by_cases e:q.1=k
    · rw [if_pos e] at hp
      rcases List.mem_cons.1 hp with rfl | hp
      · exact hk
      · exact h p (by simp [hp])
    · rw [if_neg e] at hp
      rcases List.mem_cons.1 hp with rfl | hp
      · exact h p (by simp)
      · exact put_all k b (fun p hp=>h p (by simp [hp])) hk p hp
theorem look_in: ∀ {l:WrL} {k:Int} {b:Blk},look l k=some b→(k,b)∈l
  | [],k,b,h=>by simp [look] at h
  | p::r,k,b,h=>by
    unfold look at h
    by_cases e:p.1=k
    · rw [if_pos e] at h
      injection h with h
      rw [←e,←h]
      exact List.mem_cons_self ..
    · rw [if_neg e] at h
      exact List.mem_cons_of_mem _ (look_in h)
def aggB (b:Blk):Value:= .agg (b.map B8).toArray
theorem aggZ:aggB zeros= .agg zc:=by unfold aggB;rw [zc_eq]
theorem zeroArr (W:World):(zeroValue 257).run Tryz.prog W= .ok (.agg zc) W:=by kernel_rfl
theorem infoArr (b:Blk) (hb:b.length=512):(Tryz.prog.info? 257).map (·.size)=some ((b.map B8).toArray).size:=by
  rw [List.size_toArray,List.length_map,hb];kernel_rfl
theorem oneB (b:Blk):((b.map B8).toArray).all (·.oneCell')=true:=by
  rw [Array.all_eq_true_iff_forall_mem]
  intro v hv
  rw [List.mem_toArray,List.mem_map] at hv
  obtain ⟨x,_,rfl⟩:=hv
  rfl
theorem run_allocArr (W:World):(Instr.alloc 257 true (.tuple #[])).run Tryz.prog W= .ok (.pointer (some ⟨W.heap.size,0,none⟩)) (W.alloc (.cells zc 257 (0,0))):=by
  simp only [Instr.alloc,Sem.run_bind,zeroArr,Result.andThen_ok]
  rfl
theorem allocArr {ops:Array Oper} {rest:List Oper} {o:Oper} {a:Act} {w:World} {Q:Exit→Act→World→Prop} (hg:o.guard=none) (ho:o.op= .alloc 257)
    (h:wpList Tryz.prog ops Q rest (a.put o.dst (.pointer (some ⟨w.heap.size,0,none⟩))) (w.alloc (.cells zc 257 (0,0)))):wpList Tryz.prog ops Q (o::rest) a w:=
  Go.Great.wpList_runTo hg o.dst rfl _ _ (by
    unfold execOp
    simp only [ho,Sem.run_bind,run_allocArr,Result.andThen_ok]
    rfl) h
theorem storeArr {ops:Array Oper} {rest:List Oper} {o:Oper} {a:Act} {w:World} {Q:Exit→Act→World→Prop} (hgd:o.guard=none) (x y:Operand) (ho:o.op= .store 257 x y) (g:Nat) (b:Blk) (hb:b.length=512) (hx:a.eval x= .pointer (some ⟨g,0,none⟩)) (hy:a.eval y=aggB b) (old:Array Value) (hold:old.size=512)
    (hg:w.heap[g]?=some (.cells old 257 (0,0))) (h:wpList Tryz.prog ops Q rest (a.put o.dst undef) (w.setRow g (b.map B8).toArray)):wpList Tryz.prog ops Q (o::rest) a w:=
  wpList_store_row hgd _ x y ho g (b.map B8).toArray hx hy _ old hg (infoArr b hb) (by rw [hold,List.size_toArray,List.length_map,hb]) (oneB b) h
theorem setRow_new (w:World) (b:Blk) (old:Array Value):(w.alloc (.cells old 257 (0,0))).setRow w.heap.size (b.map B8).toArray=w.alloc (.cells (b.map B8).toArray 257 (0,0)):=setRow_alloc w old _ _ _
theorem arr_at (w:World) (b:Blk) (hb:b.length=512):BytesAt (w.alloc (.cells (b.map B8).toArray 257 (0,0))) (.slice (some ⟨w.heap.size,0,none⟩) 512 512) b (Fresh w):=by
  refine ⟨w.heap.size,0,512,_,by rw [hb],by rw [hb];exact Nat.le_refl _,IsC.ofA (block_alloc_new _ _),fun i hi=>?_,Nat.le_refl _⟩
  rw [Nat.zero_add,List.getElem?_toArray,List.getElem?_map,List.getElem?_eq_getElem hi,List.getD_eq_getElem?_getD,List.getElem?_eq_getElem hi]
  rfl
def wrt (wb:Nat) (l:WrL):Res where
  M:=Only wb
  inv:=fun _ w=> ∃F,MapAt IntK okI w wb l.length F∧∀k,okI k→F k=(look l k).map aggB
  lt:=fun _ w H x hx=>by obtain rfl:x=wb:=hx;obtain ⟨F,h,_⟩:=H;exact h.lt
  dry:=fun _ w H x hx c e=>by
    obtain rfl:x=wb:=hx
    obtain ⟨F,⟨es,clock,h,_⟩,_⟩:=H
    exact notC_map h c e
  keep:=fun _ w w' N H hf hd ha=>by
    obtain ⟨F,h,hb⟩:=H
    exact ⟨F,h.of_block (hf.block wb h.lt (ha wb rfl)),hb⟩
  zone:=fun _ _ _ H _ _=>H
end
section
open Go.ChangeMaps Go.MapKept Go.RowKit
variable {w0:Gnd} {w:World} {rs:List Res}
theorem St.wrtNew (h:St w0 w rs):St w0 (w.alloc (.map #[] 0)) (wrt w.heap.size []::rs):=
  h.make ((Frm.refl _ _).alloc _) (wrt w.heap.size []) ⟨_,MapAt.made w,fun k hk=>rfl⟩ (fun x hx=>by obtain rfl:x=w.heap.size:=hx;exact Nat.le_refl _)
theorem St.wrtLook (h:St w0 w rs) {i wb:Nat} {l:WrL} (hr:rs[i]?=some (wrt wb l)) {k:Int} (hk:okI k) (W:World) (hW:W.heap[wb]?=w.heap[wb]?):
    (Instr.lookup 242 (.map (some wb)) (.int .i64 k) true).run Tryz.prog W= .ok (.tuple #[aggB ((look l k).getD zeros),.bool (look l k).isSome]) W:=by
  obtain ⟨F,hm,hf⟩:=h.get hr
  have:=hm.lookup_ok kindInt Tryz.underlying242 hk zeroArr W hW
  rw [hf k hk] at this
  rw [this]
  cases look l k with
  | none=>rw [Option.getD_none,←aggZ];rfl
  | some b=>rfl
theorem St.wrtGet (h:St w0 w rs) {i wb:Nat} {l:WrL} (hr:rs[i]?=some (wrt wb l)) {k:Int} (hk:okI k) {b:Blk} (hb:look l k=some b) (W:World) (hW:W.heap[wb]?=w.heap[wb]?):
    (Instr.lookup 242 (.map (some wb)) (.int .i64 k) false).run Tryz.prog W= .ok (aggB b) W:=by
  obtain ⟨F,hm,hf⟩:=h.get hr
  have:=hm.lookup kindInt Tryz.underlying242 hk zeroArr W hW
  rw [hf k hk,hb] at this
  exact this
theorem St.wrtLen (h:St w0 w rs) {i wb:Nat} {l:WrL} (hr:rs[i]?=some (wrt wb l)) (ty:TypeId) (W:World) (hW:W.heap[wb]?=w.heap[wb]?):
    (Builtin.len_ #[242] ty #[.map (some wb)]).run Tryz.prog W= .ok (goInt l.length) W:=by
  obtain ⟨F,hm,hf⟩:=h.get hr
  exact hm.len Tryz.underlying242 ty W hW
theorem St.wrtPut (h:St w0 w rs) (i:Nat) {wb:Nat} {l:WrL} (hr:rs[i]?=some (wrt wb l)) {k:Int} (hk:okI k) (b:Blk):
    ∃o,(∀W,W.heap[wb]?=w.heap[wb]?→(Instr.mapUpdate 242 (.map (some wb)) (.int .i64 k) (aggB b)).run Tryz.prog W= .ok () (setBlock W wb o))∧St w0 (setBlock w wb o) (rs.set i (wrt wb (putW l k b))):=by
  obtain ⟨F,hm,hf⟩:=h.get hr
  obtain ⟨o,q1,q2⟩:=hm.update kindInt Tryz.underlying242 hk (aggB b)
  refine ⟨o,q1,h.write i hr ((Frm.refl (Only wb) w).setBlock (.inl rfl) o) (wrt wb (putW l k b)) ⟨upd F k (some (aggB b)),?_,fun x hx=>?_⟩ (fun _ hx=> .inl hx)⟩
  · have h2:=q2 w hm.lt
    rw [put_length]
    rw [hf k hk,Option.isSome_map] at h2
    exact h2
  · unfold upd
    by_cases e:x=k
    · subst e;rw [if_pos rfl,look_put_same];rfl
    · rw [if_neg e,hf x hx,look_put_other _ _ e]
theorem St.wrtClear (h:St w0 w rs) (i:Nat) {wb:Nat} {l:WrL} (hr:rs[i]?=some (wrt wb l)) (ty:TypeId):
    ∃o,(Builtin.clear_ #[242] ty #[.map (some wb)]).run Tryz.prog w= .ok (.tuple #[]) (setBlock w wb o)∧St w0 (setBlock w wb o) (rs.set i (wrt wb [])):=by
  obtain ⟨F,hm,hf⟩:=h.get hr
  obtain ⟨o,q1,q2⟩:=hm.clear Tryz.underlying242 ty
  exact ⟨o,q1 w rfl,h.write i hr ((Frm.refl (Only wb) w).setBlock (.inl rfl) o) (wrt wb []) ⟨_,q2 w hm.lt,fun x hx=>rfl⟩ (fun _ hx=> .inl hx)⟩
end
section
open Go.ChangeMaps Go.MapKept Go.RowKit
theorem neCch: ¬U8T (256:TypeId):=by decide
def ccells (jb:Nat) (op ov:Bool) (wb:Nat):Array Value:= #[.pointer (some ⟨jb,0,none⟩),.bool op,.bool ov,.map (some wb)]
abbrev cst (cb jb:Nat) (op ov:Bool) (wb:Nat):Res:=arr cb (ccells jb op ov wb) 256 neCch
end
section
open Go.ChangeMaps Go.MapKept Go.RowKit
variable {w0:Gnd} {w:World} {rs:List Res} {cb jb wb:Nat} {op ov:Bool} {l:WrL}
theorem S_cNew (h:St w0 w rs) (jb:Nat):
    Calls Tryz.prog 148 #[.pointer (some ⟨jb,0,none⟩)] w fun e w'=> ∃cb wb,e= .returned (.pointer (some ⟨cb,0,none⟩))∧St w0 w' (cst cb jb false false wb::wrt wb []::rs):=by
  have hmk: ∀W,(Instr.makeMap 242 none).run Tryz.prog W= .ok (.map (some W.heap.size)) (W.alloc (.map #[] 0)):=fun W=>rfl
  have H1:=Lib.hid ((h.wrtNew).newArr (ccells jb false false w.heap.size) 256 neCch)
  clear h
  go_enter Tryz.func148,Tryz.ntmps148
  go_wp2_with fail
  go_ret
  exact ⟨w.heap.size+1,w.heap.size,rfl,by have:=H1.out;rw [size_alloc] at this;exact this⟩
theorem S_cReady (h:St w0 w (cst cb jb op ov wb::rs)):
    Calls Tryz.prog 176 #[.pointer (some ⟨cb,0,none⟩)] w fun e w'=>w=w'∧e= .returned (.bool true):=by
  have c0:w.cell? ⟨cb,0,none⟩=some (.pointer (some ⟨jb,0,none⟩)):=(h.arrCell (i:=0) rfl 0).trans rfl
  clear h
  go_enter Tryz.func176,Tryz.ntmps176
  go_wp2_with fail
  go_ret
  exact ⟨rfl,rfl⟩
theorem S_cOpen (h:St w0 w (cst cb jb op ov wb::rs)):
    Calls Tryz.prog 177 #[.pointer (some ⟨cb,0,none⟩)] w fun e w'=>w=w'∧e= .returned (.bool op):=by
  have c1:w.cell? ⟨cb,1,none⟩=some (.bool op):=(h.arrCell (i:=0) rfl 1).trans rfl
  clear h
  go_enter Tryz.func177,Tryz.ntmps177
  go_wp2_with fail
  go_ret
  exact ⟨rfl,rfl⟩
theorem S_cBegin (h:St w0 w (cst cb jb op ov wb::rs)):
    Calls Tryz.prog 90 #[.pointer (some ⟨cb,0,none⟩)] w fun e w'=>e= .returned (.int .i64 (if op then 8 else 0))∧St w0 w' (cst cb jb true (if op then ov else false) wb::rs):=by
  have c1:w.cell? ⟨cb,1,none⟩=some (.bool op):=(h.arrCell (i:=0) rfl 1).trans rfl
  have f1:w.frozen? ⟨cb,1,none⟩=false:=h.arrFree (i:=0) rfl 1
  have f2:w.frozen? ⟨cb,2,none⟩=false:=h.arrFree (i:=0) rfl 2
  have c2:w.cell? ⟨cb,2,none⟩=some (.bool ov):=(h.arrCell (i:=0) rfl 2).trans rfl
  have HR:=Lib.hid (S_cReady h)
  have H2:=Lib.hid ((h.setArr 0 rfl 1 (.bool true)).setArr 0 rfl 2 (.bool false))
  have H0:=Lib.hid h
  clear h
  go_enter Tryz.func90,Tryz.ntmps90
  go_wp2_with fail
  refine HR.out.mono ?_
  rintro e w2 ⟨rfl,rfl⟩
  cases op with
  | true=>
    go_wp2_with fail
    go_ret
    exact ⟨rfl,H0.out⟩
  | false=>
    go_wp2_with fail
    go_ret
    exact ⟨rfl,H2.out⟩
theorem S_cDone (h:St w0 w (cst cb jb op ov wb::wrt wb l::rs)):
    Calls Tryz.prog 186 #[.pointer (some ⟨cb,0,none⟩)] w fun e w'=>e= .returned (.tuple #[])∧St w0 w' (cst cb jb false ov wb::wrt wb []::rs):=by
  have c1:w.cell? ⟨cb,1,none⟩=some (.bool op):=(h.arrCell (i:=0) rfl 1).trans rfl
  have f1:w.frozen? ⟨cb,1,none⟩=false:=h.arrFree (i:=0) rfl 1
  have h1:=h.setArr 0 rfl 1 (.bool false)
  have c3:(w.setCell ⟨cb,1,none⟩ (.bool false)).cell? ⟨cb,3,none⟩=some (.map (some wb)):=(h1.arrCell (i:=0) rfl 3).trans rfl
  obtain ⟨o,q,h2⟩:=h1.wrtClear 1 rfl 0
  have H2:=Lib.hid h2
  clear h h1 h2
  go_enter Tryz.func186,Tryz.ntmps186
  go_wp2_with fail
  go_end0
  exact ⟨rfl,H2.out⟩
end
section
open Go.ChangeMaps Go.MapKept Go.RowKit
variable {w0:Gnd} {w:World} {rs:List Res} {cb wb:Nat} {op ov:Bool} {l:WrL} {H:Hdl} {jh:JHdl} {J:JSt}
def cview (l:WrL) (v:Nat→Blk) (k:Int):Blk:=(look l k).getD (v k.toNat)
set_option maxRecDepth 100000 in
theorem S_cRead (h:St w0 w (cst cb jh.jb op ov wb::wrt wb l::jrn H jh J::rs)) (a:Nat) {D:DSt} (hr:rs[a]?=some (dev H D)) (hJ:JOk D.n J) (ho:D.ops<1000000000) (k:Int) (hk0:245≤k) (hk1:k<(D.n:Int)) (hn:D.n≤65536) (h512: ∀p∈l,p.2.length=512):
    Calls Tryz.prog 202 #[.pointer (some ⟨cb,0,none⟩),.int .i64 k] w fun e w'=> ∃v,e= .returned (.tuple #[v,.int .i64 0])∧St w0 w' (byt v (cview l (jview J D) k)::cst cb jh.jb op ov wb::wrt wb l::jrn H jh J::rs):=by
  have hok:okI k:=(okI_iff k).2 (by omega)
  have hB:((look l k).getD zeros).length=512:=by
    cases hl:look l k with
    | none=>exact zeros_length
    | some b=>exact h512 _ (look_in hl)
  obtain ⟨B,hBe⟩: ∃B,(look l k).getD zeros=B:=⟨_,rfl⟩
  have hlk:=h.wrtLook (i:=1) rfl hok w rfl
  rw [hBe] at hB hlk
  have c0:w.cell? ⟨cb,0,none⟩=some (.pointer (some ⟨jh.jb,0,none⟩)):=(h.arrCell (i:=0) rfl 0).trans rfl
  have c3:w.cell? ⟨cb,3,none⟩=some (.map (some wb)):=(h.arrCell (i:=0) rfl 3).trans rfl
  have HR:=Lib.hid (S_cReady h)
  have HN:=Lib.hid (block_alloc_new w (.cells zc 257 (0,0)))
  have hf3:Frm NoB w (w.alloc (.cells (B.map B8).toArray 257 (0,0))):=(Frm.refl _ _).alloc _
  have H3:=Lib.hid (h.frm0 hf3)
  have HY:=Lib.hid ((h.mkByt hf3 (arr_at w B hB)))
  have HJR:=Lib.hid (S_JR (show St w0 _ (jrn H jh J::cst cb jh.jb op ov wb::wrt wb l::rs) from H3.out.perm (List.perm_append_comm (l₁:= [_,_]) (l₂:= [_]) |>.append_right _)) (a+2) hr hJ ho k hk0 hk1)
  have c0':(w.alloc (.cells (B.map B8).toArray 257 (0,0))).cell? ⟨cb,0,none⟩=some (.pointer (some ⟨jh.jb,0,none⟩)):=(H3.out.arrCell (i:=0) rfl 0).trans rfl
  obtain ⟨s,hs⟩: ∃s,(look l k).isSome=s:=⟨_,rfl⟩
  rw [hs] at hlk
  have HS:=Lib.hid hs
  have HBE:=Lib.hid hBe
  have HBB:=Lib.hid hB
  clear h hr hJ ho hk0 hk1 hn h512 hok hB hBe hf3 H3 hs
  go_enter Tryz.func202,Tryz.ntmps202
  go_wp2_with fail
  refine HR.out.mono ?_
  rintro e w2 ⟨rfl,rfl⟩
  go_upto_region 4 with (first | refine allocArr rfl rfl ?_ | refine storeArr rfl _ _ rfl w.heap.size B HBB.out rfl rfl zc zc_size HN.out ?_)
  rw [setRow_new]
  clear hlk c0 c3 HR HN
  obtain ⟨w3,hw3⟩: ∃w3,w3=w.alloc (.cells (B.map B8).toArray 257 (0,0)):=⟨_,rfl⟩
  rw [←hw3] at HY HJR c0' ⊢
  clear hw3
  generalize w.heap.size=nb at*
  cases s with
  | true=>
    go_wp2_with fail
    go_ret2
    refine ⟨_,rfl,?_⟩
    have e:cview l (jview J D) k=B:=by
      unfold cview
      rw [←HBE.out]
      cases hl:look l k with
      | none=>have:=HS.out;rw [hl] at this;cases this
      | some b=>rfl
    rw [e]
    exact HY.out
  | false=>
    have e:cview l (jview J D) k=jview J D k.toNat:=by
      unfold cview
      cases hl:look l k with
      | none=>rfl
      | some b=>have:=HS.out;rw [hl] at this;cases this
    have HE:=Lib.hid e
    clear e
    go_wp2_with fail
    refine HJR.out.mono ?_
    clear HJR
    rintro e w4 ⟨v,rfl,h4⟩
    have H4:=Lib.hid h4
    clear h4
    go_wp2
    go_ret2
    refine ⟨_,rfl,?_⟩
    rw [HE.out]
    exact H4.out.perm (List.Perm.cons _ (List.perm_append_comm (l₁:= [_]) (l₂:= [_,_]) |>.append_right _))
theorem arrayAt_of {vb vo vc n:Nat} (hn:n=512) (W:World):(Instr.arrayAt 257 (.slice (some ⟨vb,vo,none⟩) n vc)).run Tryz.prog W= .ok (.pointer (some ⟨vb,vo,none⟩)) W:=by
  subst hn
  unfold Instr.arrayAt
  rw [Sem.run_bind,run_underlying Tryz.underlying257 W]
  rfl
theorem BytesAt.rangeB {w:World} {vb vo n vc:Nat} {d:Blk} {R:Nat→Prop} (h:BytesAt w (.slice (some ⟨vb,vo,none⟩) n vc) d R):w.rangeAt vb vo (d.map B8):=by
  obtain ⟨b',o',cap',c,e,h2,h3,h4,h5⟩:=h
  injection e with e1 e2 e3
  injection e1 with e1
  injection e1 with e1 e4
  subst e1 e4
  intro j u hu
  rw [List.getElem?_map] at hu
  cases hd:d[j]? with
  | none=>rw [hd] at hu;cases hu
  | some x=>
    rw [hd] at hu
    have hj:=(List.getElem?_eq_some_iff.1 hd).1
    have:=h4 j hj
    rw [List.getD_eq_getElem?_getD,hd] at this
    rw [h3.cell,this]
    exact hu
set_option maxRecDepth 100000 in
theorem S_cWriteIn (h:St w0 w (cst cb jh.jb true ov wb::wrt wb l::jrn H jh J::rs)) (a j:Nat) {D:DSt} (hr:rs[a]?=some (dev H D)) {v:Value} {d:Blk} (hv:rs[j]?=some (byt v d)) (hd:d.length=512) (hJ:JOk D.n J) (ho:D.ops<1000000000) (k:Int) (hk0:245≤k) (hk1:k<(D.n:Int)) (hn:D.n≤65536) (hL:l.length≤1000) (h512: ∀p∈l,p.2.length=512):
    Calls Tryz.prog 92 #[.pointer (some ⟨cb,0,none⟩),.int .i64 k,v] w fun e w'=>
      ((((look l k).isSome=true∨l.length<60)∧e= .returned (.int .i64 0)∧St w0 w' (cst cb jh.jb true ov wb::wrt wb (putW l k d)::jrn H jh J::rs))∨
       (look l k=none∧60≤l.length∧e= .returned (.int .i64 2)∧St w0 w' (cst cb jh.jb true true wb::wrt wb l::jrn H jh J::rs))):=by
  have hok:okI k:=(okI_iff k).2 (by omega)
  have hB:((look l k).getD zeros).length=512:=by
    cases hl:look l k with
    | none=>exact zeros_length
    | some b=>exact h512 _ (look_in hl)
  obtain ⟨vb,vo,vc,rfl,_⟩:=(h.get (i:=j+3) hv).cells
  rw [hd] at hv ⊢
  have c0:w.cell? ⟨cb,0,none⟩=some (.pointer (some ⟨jh.jb,0,none⟩)):=(h.arrCell (i:=0) rfl 0).trans rfl
  have HO:=Lib.hid (S_cOpen h)
  have HJR:=Lib.hid (S_JR (show St w0 _ (jrn H jh J::cst cb jh.jb true ov wb::wrt wb l::rs) from h.perm (List.perm_append_comm (l₁:= [_,_]) (l₂:= [_]) |>.append_right _)) (a+2) hr hJ ho k hk0 hk1)
  have HV:=Lib.hid hv
  have HBB:=Lib.hid hB
  have HOK:=Lib.hid hok
  have HD:=Lib.hid hd
  have hl1:((l.length:Nat):Int)≤1000:=by omega
  have hl0:(0:Int)≤((l.length:Nat):Int):=Int.natCast_nonneg _
  clear h hr hv hJ ho hk0 hk1 hn h512 hok hB hd hL
  go_enter Tryz.func92,Tryz.ntmps92
  go_wp2_with fail
  refine HO.out.mono ?_
  rintro e w2 ⟨rfl,rfl⟩
  clear HO
  go_wp2_with fail
  refine HJR.out.mono ?_
  clear HJR c0
  rintro e w3 ⟨v3,rfl,h3⟩
  have H3:=Lib.hid (show St w0 w3 (cst cb jh.jb true ov wb::wrt wb l::jrn H jh J::rs) from (h3.drop 1).perm (List.perm_append_comm (l₁:= [_]) (l₂:= [_,_]) |>.append_right _))
  clear h3
  obtain ⟨B,hBe⟩: ∃B,(look l k).getD zeros=B:=⟨_,rfl⟩
  obtain ⟨s,hs⟩: ∃s,(look l k).isSome=s:=⟨_,rfl⟩
  have hlk:=H3.out.wrtLook (i:=1) rfl HOK.out w3 rfl
  rw [hBe,hs] at hlk
  rw [hBe] at HBB
  have HS:=Lib.hid hs
  have c3:w3.cell? ⟨cb,3,none⟩=some (.map (some wb)):=(H3.out.arrCell (i:=0) rfl 3).trans rfl
  have HN:=Lib.hid (block_alloc_new w3 (.cells zc 257 (0,0)))
  clear hBe hs
  go_upto_region 7 with (first | refine allocArr rfl rfl ?_ | refine storeArr rfl _ _ rfl w3.heap.size B HBB.out rfl rfl zc zc_size HN.out ?_)
  rw [setRow_new]
  have H4:=Lib.hid (H3.out.frm0 ((Frm.refl NoB w3).alloc (.cells (B.map B8).toArray 257 (0,0))))
  obtain ⟨w4,hw4⟩: ∃w4,w4=w3.alloc (.cells (B.map B8).toArray 257 (0,0)):=⟨_,rfl⟩
  rw [←hw4] at H4 ⊢
  clear hw4 hlk c3 HN H3
  generalize w3.heap.size=nb at*
  have c3:w4.cell? ⟨cb,3,none⟩=some (.map (some wb)):=(H4.out.arrCell (i:=0) rfl 3).trans rfl
  have hln:=fun ty=>H4.out.wrtLen (i:=1) rfl ty w4 rfl
  have hput:((look l k).isSome=true∨l.length<60)→Hid (∃o,(Instr.mapUpdate 242 (.map (some wb)) (.int .i64 k) (.agg (d.map B8).toArray)).run Tryz.prog w4.drew= .ok () (setBlock w4.drew wb o)∧St w0 (setBlock w4.drew wb o) (cst cb jh.jb true ov wb::wrt wb (putW l k d)::jrn H jh J::rs)):=fun _=>Lib.hid (by
    obtain ⟨o,q1,q2⟩:=(H4.out.frm0 ((Frm.refl NoB w4).drew)).wrtPut 1 rfl HOK.out d
    exact ⟨o,q1 w4.drew rfl,q2⟩)
  have HPUT:=Lib.hid hput
  clear hput
  have KA:Hid (∀y,Frm NoB w4 y→y.cell? ⟨cb,3,none⟩=some (.map (some wb))∧y.rangeAt vb vo (d.map B8)):=Lib.hid fun y hy=>
    ⟨((H4.out.frm0 hy).arrCell (i:=0) rfl 3).trans rfl,BytesAt.rangeB ((H4.out.frm0 hy).get (i:=j+3) HV.out)⟩
  by_cases hroom:(look l k).isSome=true∨l.length<60
  · obtain ⟨o,q,h5⟩:=(HPUT.out hroom).out
    have H5:=Lib.hid h5
    have hS5:(setBlock w4.drew wb o).cell? ⟨cb,3,none⟩=some (.map (some wb))∧(setBlock w4.drew wb o).rangeAt vb vo (d.map B8):=⟨(h5.arrCell (i:=0) rfl 3).trans rfl,BytesAt.rangeB (h5.get (i:=j+3) HV.out)⟩
    have HRM:=Lib.hid hroom
    clear h5 HPUT
    have hU:Tryz.prog.underlying 257=some (.array 512 5):=Tryz.underlying257
    have hI:(Tryz.prog.info? 257).map (·.size)=some (d.map B8).length:=by rw [List.length_map,HD.out];kernel_rfl
    have hsp:=fun W=>arrayAt_of (vb:=vb) (vo:=vo) (vc:=vc) rfl W
    obtain ⟨k1,k2⟩:=KA.out w4 (Frm.refl _ _)
    cases s with
    | true=>
      clear hroom
      go_upto_region 10 with (fail)
      go_region_held3 (fun y=>y.cell? ⟨cb,3,none⟩=some (.map (some wb))∧y.rangeAt vb vo (d.map B8))
        (first | exact hS5 | (refine KA.out _ ?_;first | assumption | exact (Frm.refl NoB w4).drew))
        (first
          | fail
          | fail)
      all_goals
        go_wp2
        go_ret
        exact .inl ⟨HRM.out,rfl,H5.out⟩
    | false=>
      have h60: ¬(60:Int)≤((l.length:Nat):Int):=by
        have:=HS.out
        rcases hroom with h | h
        · rw [h] at this;cases this
        · omega
      clear hroom
      go_upto_region 10 with (fail)
      go_region_held3 (fun y=>y.cell? ⟨cb,3,none⟩=some (.map (some wb))∧y.rangeAt vb vo (d.map B8))
        (first | exact hS5 | (refine KA.out _ ?_;first | assumption | exact (Frm.refl NoB w4).drew))
        (first
          | fail
          | fail)
      all_goals
        go_wp2
        go_ret
        exact .inl ⟨HRM.out,rfl,H5.out⟩
  · have hs:s=false:=by
      have:=HS.out
      cases s with
      | true=>exact absurd (.inl this) hroom
      | false=>rfl
    subst hs
    have h60:(60:Int)≤((l.length:Nat):Int):=by
      have: ¬l.length<60:=fun h=>hroom (.inr h)
      omega
    have HNO:=Lib.hid hroom
    clear hroom HPUT KA
    have c2:w4.cell? ⟨cb,2,none⟩=some (.bool ov):=(H4.out.arrCell (i:=0) rfl 2).trans rfl
    have f2:w4.frozen? ⟨cb,2,none⟩=false:=H4.out.arrFree (i:=0) rfl 2
    have H5:=Lib.hid (H4.out.setArr 0 rfl 2 (.bool true))
    go_wp2_with fail
    go_ret
    refine .inr ⟨?_,?_,rfl,H5.out⟩
    · have:=HS.out
      cases hl:look l k with
      | none=>rfl
      | some b=>rw [hl] at this;cases this
    · have: ¬l.length<60:=fun h=>HNO.out (.inr h)
      omega
end
section
open Go.ChangeMaps Go.MapKept Go.RowKit
theorem Keys_anyC (b:Nat) (w:World):
    Calls Tryz.prog 185 #[.map (some b)] w fun e w'=>e= .returned (.func (.func 249) #[] #[.pointer (some ⟨w.heap.size,0,none⟩)])∧w'=w.alloc (.cells #[.map (some b)] 242):=
  (callsIn_wide (n:=5)).1 (AnyZI.keys_in Tryz.keysB Fence.wide 5 trivial rfl (some b) w)
theorem Sorted_anyC (b n:Nat) (f:Int→Option Value) (w:World) (h:MapAt IntK okI w b n f) (hn:n≤1000000000):
    Calls Tryz.prog 70 #[.func (.func 249) #[] #[.pointer (some ⟨w.heap.size,0,none⟩)]] (w.alloc (.cells #[.map (some b)] 242)) fun e w'=>
      ∃v ks,e= .returned v∧SortedKeys f n ks∧RowAt w' 3 v (ks.map IntK) (Fresh w)∧Frm NoB w w':=by
  obtain ⟨D,hown,hsz,hnd,hlen,hm⟩:=h.owns (by unfold maxLen;omega)
  have hbl:=hown.lt
  have hseq:SeqGives Fence.wide 2 Tryz.prog 249 #[.pointer (some ⟨w.heap.size,0,none⟩)] encZ (fun ss=>ss.Perm (intKeys D)) (Maps.size D) (w.alloc (.cells #[.map (some b)] 242)):=
    AnyZI.keys_gives (ρ:=Tryz.keysB_ren) { Tryz.keysB with } Fence.wide _ trivial rfl (by omega) w.heap.size b n D _ (by simp) (by simp) (by
      obtain ⟨es,clock,hb,Ft,hs,hD⟩:=hown
      exact ⟨es,clock,(Below.heap_alloc _ _ b hbl).trans hb,Ft,hs,hD⟩)
  have cS:=AnyZI.sorted_in Tryz.sortedA Fence.wide 5 trivial trivial trivial trivial rfl (by omega) (sortsA _) (enters_of Tryz.func152 (by kernel_rfl) rfl) 249 #[.pointer (some ⟨w.heap.size,0,none⟩)] trivial (enters_of Tryz.func249 (by kernel_rfl) rfl) _ _ (by rw [hsz];unfold maxLen;omega) (by rw [hsz];omega) _ hseq
  change CallsIn _ _ Tryz.prog 70 _ _ _ at cS
  refine ((callsIn_wide (n:=5)).1 cS).mono ?_
  rintro e w' ⟨v,ss,rfl,hS,hrow,hnil,hb⟩
  refine ⟨v,_,rfl,sortedKeys_of hS hnd hlen hm,?_,?_⟩
  · rcases RowAt.of_owns hrow with h1 | ⟨blk,off,cap,c,h1,h2,h3,h4,h5⟩
    · exact .inl h1
    · exact .inr ⟨blk,off,cap,c,h1,h2,h3,h4,by simp at h5;unfold Fresh;omega⟩
  · exact ((Frm.refl NoB w).alloc _).trans (Frm.ofBelow hb rfl NoB) (fun _ _ e=>e)
def keyR (v:Value) (ks:List Int):Res where
  M:=fun x=>v.ownBlock=some x
  inv:=fun _ w=>RowAt w 3 v (ks.map IntK) AnyB
  lt:=fun _ w H x hx=>by
    rcases H with ⟨rfl,_⟩ | ⟨blk,off,cap,c,rfl,_,h3,_⟩
    · cases hx
    · obtain rfl:blk=x:=by simpa [Value.ownBlock] using hx
      exact lt_of_block h3
  dry:=fun _ w H x hx c e=>by
    rcases H with ⟨rfl,_⟩ | ⟨blk,off,cap,c',rfl,_,h3,_⟩
    · cases hx
    · obtain rfl:blk=x:=by simpa [Value.ownBlock] using hx
      exact notC_cells h3 neI8 c e
  keep:=fun _ w w' N H hf hd ha=>by
    rcases H with h | ⟨blk,off,cap,c,rfl,h2,h3,h4,h5⟩
    · exact .inl h
    · exact .inr ⟨blk,off,cap,c,rfl,h2,(hf.block blk (lt_of_block h3) (ha blk rfl)).trans h3,h4,h5⟩
  zone:=fun _ _ _ H _ _=>H
theorem keyRow {Z:Nat→Prop} {w:World} {v:Value} {ks:List Int} (h:(keyR v ks).inv Z w): ∃a cap,v= .slice a ks.length cap:=by
  obtain ⟨a,cap,e,_⟩:=RowAt.cases h
  rw [List.length_map] at e
  exact ⟨a,cap,e⟩
theorem St.mkKeys {w0:Gnd} {w w':World} {rs:List Res} (h:St w0 w rs) (hf:Frm NoB w w') {v:Value} {ks:List Int} (hb:RowAt w' 3 v (ks.map IntK) (Fresh w)):St w0 w' (keyR v ks::rs):=
  h.make hf (keyR v ks) (by
    rcases hb with h | ⟨blk,off,cap,c,h1,h2,h3,h4,h5⟩
    · exact .inl h
    · exact .inr ⟨blk,off,cap,c,h1,h2,h3,h4,trivial⟩) (fun x hx=>by
    rcases hb with ⟨rfl,_⟩ | ⟨blk,off,cap,c,rfl,h2,h3,h4,h5⟩
    · cases hx
    · obtain rfl:blk=x:=by simpa [Value.ownBlock,keyR] using hx
      exact h5)
end
end Go.Proofs.YtlemndledcmhiaaGreatDoor
