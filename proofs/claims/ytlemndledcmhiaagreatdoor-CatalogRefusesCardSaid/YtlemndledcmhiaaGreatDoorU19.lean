/-
  The catalog, from the device up, part 19.
-/
import Derived.Test.YtlemndledcmhiaaGreatDoorU18
namespace Go.Proofs.YtlemndledcmhiaaGreatDoor
set_option linter.unusedVariables false
set_option linter.unusedSimpArgs false
section
open Go.ChangeMaps Go.MapKept Go.RowKit
set_option maxHeartbeats 1000000 in
set_option maxRecDepth 100000 in
theorem r_Find0 (w:World) (mb:Nat) (hm:w.heap[mb]?=some (.cells #[.slice none 0 0,.int .i64 1] 111 (0,0))) (nm:ByteArray):Calls Tryz.prog 52 #[.pointer (some ⟨mb,0,none⟩),.string nm] w fun e w'=>e= .returned (.tuple #[.agg (tpz ByteArray.empty 0 0 0 0 0 false 0),.bool false])∧Frm NoB w w':=by
  have hb0:=block_alloc_new w (.cells (tpz ByteArray.empty 0 0 0 0 0 false 0) 45 (0,0))
  have hf0:=(Frm.refl NoB w).alloc (.cells (tpz ByteArray.empty 0 0 0 0 0 false 0) 45 (0,0))
  have hm0:=(hf0.block mb (lt_of_block hm) (fun e=>e)).trans hm
  obtain ⟨y,hy⟩: ∃y,w.alloc (.cells (tpz ByteArray.empty 0 0 0 0 0 false 0) 45 (0,0))=y:=⟨_,rfl⟩
  obtain ⟨k,hk⟩: ∃k,w.heap.size=k:=⟨_,rfl⟩
  have HK:=Lib.hid (show w.heap.size≤k by omega)
  rw [hy,hk] at hb0
  rw [hy] at hf0 hm0
  have c0:y.cell? ⟨mb,0,none⟩=some (.slice none 0 0):=(cell_of_block hm0).trans rfl
  have HF:=Lib.hid hf0
  have HB:=Lib.hid hb0
  have HY:=Lib.hid (And.intro hy hk)
  clear hb0 hf0 hm0 hy hk hm
  go_enter Tryz.func52,Tryz.ntmps52
  go_upto_region 1 with (refine allocRow rfl _ _ zeroRT rfl ?_)
  rw [HY.out.1,HY.out.2]
  clear HY
  go_wp2_with fail
  go_loopw [6] (fun t6 wr=>t6= .int .i64 0∧y=wr) (fun _ _=>0)
  case atStart=>exact ⟨rfl,rfl⟩
  case round=>
    obtain ⟨rfl,rfl⟩:=hrel
    go_wp2_with (refine storeRT rfl _ _ rfl k ByteArray.empty 0 0 0 0 0 false 0 rfl rfl _ rfl HB.out ?_)
    have hb1:=setRow_heap _ _ _ (tpz ByteArray.empty 0 0 0 0 0 false 0) _ _ HB.out
    have hld:=run_loadVar_row (P:=Tryz.prog) _ k 45 45 (tpz ByteArray.empty 0 0 0 0 0 false 0) (0,0) _ hb1 Tryz.underlying45 rfl (infoRT _ _ _ _ _ _ _ _)
    (try simp only [Exit.inBlock,Exit.then])
    exact bodyPost_ret (v:= .tuple #[.agg (tpz ByteArray.empty 0 0 0 0 0 false 0),.bool false]) (results_ct Tryz.results52 _ _ ⟨k,0,none⟩ rfl _ hld) rfl ⟨rfl,HF.out.setRowNew HK.out _⟩
theorem infoRT3:(Tryz.prog.info? 45).map (fun i=>(i.zero,i.size,i.bytes))=some (some (.agg (tpz ByteArray.empty 0 0 0 0 0 false 0)),8,72):=by kernel_rfl
theorem Frm.setRowAt {M:Nat→Prop} {w w':World} (h:Frm M w w') {g:Nat} (hg:w.heap.size≤g) (cs:Array Value):Frm M w (w'.setRow g cs):=
  h.trans (N:=fun x=>w'.heap.size≤x∨x=g) ⟨rfl,rfl,rfl,by rw [size_setRow];exact Nat.le_refl _,fun k hk hne=>setRow_other w' g k cs (fun e=>hne (.inr e))⟩ (fun x hx hN=>by have:=h.size;rcases hN with e | e<;>omega)
structure TwoNew (w:World) (b1 b2:Nat) (c1 c2:Array Value) (t1 t2:TypeId) (y:World):Prop where
  frm:Frm NoB w y
  g1:w.heap.size≤b1
  g2:w.heap.size≤b2
  ne:b1≠b2
  h1:y.heap[b1]?=some (.cells c1 t1 (0,0))
  h2:y.heap[b2]?=some (.cells c2 t2 (0,0))
theorem TwoNew.go {w y z:World} {b1 b2:Nat} {c1 c2:Array Value} {t1 t2:TypeId} (h:TwoNew w b1 b2 c1 c2 t1 t2 y) (hf:Frm NoB y z):TwoNew w b1 b2 c1 c2 t1 t2 z:=
  ⟨h.frm.trans hf fun _ _ e=>e,h.g1,h.g2,h.ne,(hf.block b1 (lt_of_block h.h1) (fun e=>e)).trans h.h1,(hf.block b2 (lt_of_block h.h2) (fun e=>e)).trans h.h2⟩
theorem twoNew (w:World) (c1 c2:Array Value) (t1 t2:TypeId): ∃b1 b2 y,w.heap.size=b1∧b1+1=b2∧(w.alloc (.cells c1 t1 (0,0))).alloc (.cells c2 t2 (0,0))=y∧TwoNew w b1 b2 c1 c2 t1 t2 y:=by
  refine ⟨_,_,_,rfl,rfl,rfl,((Frm.refl NoB w).alloc _).alloc _,Nat.le_refl _,Nat.le_succ _,by omega,block_alloc_old _ (block_alloc_new w _),?_⟩
  have:=block_alloc_new (w.alloc (.cells c1 t1 (0,0))) (.cells c2 t2 (0,0))
  rw [size_alloc] at this
  exact this
set_option maxHeartbeats 1000000 in
set_option maxRecDepth 100000 in
theorem r_CreateNo (w:World) (mb:Nat) (nm:ByteArray) (P:Int) (p3 p4 p5:Int) (p6:Bool) (p7:Int) (hbad:nmB nm=false∨P<1∨8<P∨¬(512≤p3∧p3≤8192∧ -1≤p4∧p4≤1099511627776∧ -1≤p5∧p5≤1125899906842624∧0≤p7∧p7≤1125899906842624)):
    Calls Tryz.prog 18 #[.pointer (some ⟨mb,0,none⟩),.string nm,.int .i64 P,.agg (stz p3 p4 p5 p6 p7)] w fun e w'=>e= .returned (.tuple #[.agg (tpz ByteArray.empty 0 0 0 0 0 false 0),.int .i64 1])∧Frm NoB w w':=by
  obtain ⟨b1,b2,y,hb1,hb2,hy,ht⟩:=twoNew w (stz p3 p4 p5 p6 p7) (tpz ByteArray.empty 0 0 0 0 0 false 0) 29 45
  have HT:=Lib.hid ht
  have HY:=Lib.hid (And.intro hy (And.intro hb1 hb2))
  have s0:y.cell? ⟨b1,0,none⟩=some (.int .i64 p3):=(cell_of_block ht.h1).trans rfl
  have s1:y.cell? ⟨b1,1,none⟩=some (.int .i64 p4):=(cell_of_block ht.h1).trans rfl
  have s2:y.cell? ⟨b1,2,none⟩=some (.int .i64 p5):=(cell_of_block ht.h1).trans rfl
  have s3:y.cell? ⟨b1,3,none⟩=some (.bool p6):=(cell_of_block ht.h1).trans rfl
  have s4:y.cell? ⟨b1,4,none⟩=some (.int .i64 p7):=(cell_of_block ht.h1).trans rfl
  have HBD:=Lib.hid hbad
  have HFIN:Hid (∀z,TwoNew w b1 b2 (stz p3 p4 p5 p6 p7) (tpz ByteArray.empty 0 0 0 0 0 false 0) 29 45 z→(loadVar 45 ⟨b2,0,none⟩).run Tryz.prog (z.setRow b2 (tpz ByteArray.empty 0 0 0 0 0 false 0))= .ok (.agg (tpz ByteArray.empty 0 0 0 0 0 false 0)) (z.setRow b2 (tpz ByteArray.empty 0 0 0 0 0 false 0))∧Frm NoB w (z.setRow b2 (tpz ByteArray.empty 0 0 0 0 0 false 0))):=Lib.hid fun z hz=>
    ⟨run_loadVar_row (P:=Tryz.prog) _ b2 45 45 (tpz ByteArray.empty 0 0 0 0 0 false 0) (0,0) _ (setRow_heap _ _ _ (tpz ByteArray.empty 0 0 0 0 0 false 0) _ _ hz.h2) Tryz.underlying45 rfl (infoRT _ _ _ _ _ _ _ _),hz.frm.setRowNew hz.g2 _⟩
  clear ht hy hb1 hb2 hbad
  go_enter Tryz.func18,Tryz.ntmps18
  go_upto_region 1 with (refine allocRow rfl _ _ zeroRT rfl ?_)
  rw [HY.out.1,HY.out.2.1,HY.out.2.2]
  clear HY
  go_wp2_with fail
  refine (r_Name y nm).mono ?_
  rintro e w2 ⟨rfl,rfl⟩
  cases hn:nmB nm with
  | false=>
    clear HBD hn
    go_wp2_with (refine storeRT rfl _ _ rfl b2 ByteArray.empty 0 0 0 0 0 false 0 rfl rfl _ rfl HT.out.h2 ?_)
    (try simp only [Exit.inBlock,Exit.then])
    exact bodyPost_ret (v:= .tuple #[.agg (tpz ByteArray.empty 0 0 0 0 0 false 0),.int .i64 1]) (results_ct Tryz.results18 _ _ ⟨b2,0,none⟩ rfl _ (HFIN.out _ HT.out).1) rfl ⟨rfl,(HFIN.out _ HT.out).2⟩
  | true=>
    by_cases k1:P<1
    · clear HBD hn
      go_wp2_with (refine storeRT rfl _ _ rfl b2 ByteArray.empty 0 0 0 0 0 false 0 rfl rfl _ rfl HT.out.h2 ?_)
      (try simp only [Exit.inBlock,Exit.then])
      exact bodyPost_ret (v:= .tuple #[.agg (tpz ByteArray.empty 0 0 0 0 0 false 0),.int .i64 1]) (results_ct Tryz.results18 _ _ ⟨b2,0,none⟩ rfl _ (HFIN.out _ HT.out).1) rfl ⟨rfl,(HFIN.out _ HT.out).2⟩
    · by_cases k8:8<P
      · clear HBD hn
        go_wp2_with (refine storeRT rfl _ _ rfl b2 ByteArray.empty 0 0 0 0 0 false 0 rfl rfl _ rfl HT.out.h2 ?_)
        (try simp only [Exit.inBlock,Exit.then])
        exact bodyPost_ret (v:= .tuple #[.agg (tpz ByteArray.empty 0 0 0 0 0 false 0),.int .i64 1]) (results_ct Tryz.results18 _ _ ⟨b2,0,none⟩ rfl _ (HFIN.out _ HT.out).1) rfl ⟨rfl,(HFIN.out _ HT.out).2⟩
      · have HSN:=Lib.hid (r_SettingsNo y p3 p4 p5 p6 p7 (by
          rcases HBD.out with e | e | e | e
          · rw [hn] at e;cases e
          · exact absurd e k1
          · exact absurd e k8
          · exact e))
        clear HBD hn
        go_wp2_with fail
        refine HSN.out.mono ?_
        clear HSN s0 s1 s2 s3 s4
        rintro e w3 ⟨rfl,hf⟩
        have HT3:=Lib.hid (HT.out.go hf)
        clear hf
        go_wp2_with (refine storeRT rfl _ _ rfl b2 ByteArray.empty 0 0 0 0 0 false 0 rfl rfl _ rfl HT3.out.h2 ?_)
        (try simp only [Exit.inBlock,Exit.then])
        exact bodyPost_ret (v:= .tuple #[.agg (tpz ByteArray.empty 0 0 0 0 0 false 0),.int .i64 1]) (results_ct Tryz.results18 _ _ ⟨b2,0,none⟩ rfl _ (HFIN.out _ HT3.out).1) rfl ⟨rfl,(HFIN.out _ HT3.out).2⟩
set_option maxHeartbeats 2000000 in
set_option maxRecDepth 100000 in
theorem r_Create0 (w:World) (mb:Nat) (hm:w.heap[mb]?=some (.cells #[.slice none 0 0,.int .i64 1] 111 (0,0))) (nm:ByteArray) (hn:nmB nm=true) (P:Int) (hP1:1≤P) (hP8:P≤8) (p3 p4 p5:Int) (p6:Bool) (p7:Int)
    (q1:512≤p3∧p3≤8192) (q2: -1≤p4∧p4≤1099511627776) (q3: -1≤p5∧p5≤1125899906842624) (q4:0≤p7∧p7≤1125899906842624):
    Calls Tryz.prog 18 #[.pointer (some ⟨mb,0,none⟩),.string nm,.int .i64 P,.agg (stz p3 p4 p5 p6 p7)] w fun e w'=>e= .returned (.tuple #[.agg (tpz nm 1 P p3 p4 p5 p6 p7),.int .i64 0])∧Frm (Only mb) w w':=by
  obtain ⟨b1,b2,y,hb1,hb2,hy,ht⟩:=twoNew w (stz p3 p4 p5 p6 p7) (tpz ByteArray.empty 0 0 0 0 0 false 0) 29 45
  have hm0:=(ht.frm.block mb (lt_of_block hm) (fun e=>e)).trans hm
  have HMB:=Lib.hid (lt_of_block hm)
  have HT:=Lib.hid ht
  have HM:=Lib.hid hm0
  have HY:=Lib.hid (And.intro hy (And.intro hb1 hb2))
  have s0:y.cell? ⟨b1,0,none⟩=some (.int .i64 p3):=(cell_of_block ht.h1).trans rfl
  have s1:y.cell? ⟨b1,1,none⟩=some (.int .i64 p4):=(cell_of_block ht.h1).trans rfl
  have s2:y.cell? ⟨b1,2,none⟩=some (.int .i64 p5):=(cell_of_block ht.h1).trans rfl
  have s3:y.cell? ⟨b1,3,none⟩=some (.bool p6):=(cell_of_block ht.h1).trans rfl
  have s4:y.cell? ⟨b1,4,none⟩=some (.int .i64 p7):=(cell_of_block ht.h1).trans rfl
  have HNM:=Lib.hid hn
  have HS:=Lib.hid (r_Settings y p3 p4 p5 p6 p7 q1 q2 q3 q4)
  clear ht hy hb1 hb2 hm0 hm hn q1 q2 q3 q4
  go_enter Tryz.func18,Tryz.ntmps18
  go_upto_region 1 with (refine allocRow rfl _ _ zeroRT rfl ?_)
  rw [HY.out.1,HY.out.2.1,HY.out.2.2]
  clear HY
  go_wp2_with fail
  refine (r_Name y nm).mono ?_
  rintro e w2 ⟨rfl,rfl⟩
  rw [HNM.out]
  go_wp2_with fail
  refine HS.out.mono ?_
  clear HS s0 s1 s2 s3 s4
  rintro e w3 ⟨rfl,hf3⟩
  have HT3:=Lib.hid (HT.out.go hf3)
  have hm3:=(hf3.block mb (lt_of_block HM.out) (fun e=>e)).trans HM.out
  have HF:=Lib.hid (r_Find0 w3 mb hm3 nm)
  have HM3:=Lib.hid hm3
  clear hf3 hm3 HT HM
  go_wp2_with fail
  refine HF.out.mono ?_
  clear HF
  rintro e w4 ⟨rfl,hf4⟩
  have HT4:=Lib.hid (HT3.out.go hf4)
  have HM4:=Lib.hid ((hf4.block mb (lt_of_block HM3.out) (fun e=>e)).trans HM3.out)
  clear hf4 HT3 HM3
  have HK0:=Lib.hid (block_alloc_new w4 (.cells (tpz ByteArray.empty 0 0 0 0 0 false 0) 45 (0,0)))
  go_upto_region 4 with (first | (refine allocRow rfl _ _ zeroRT rfl ?_) | (refine storeRT rfl _ _ rfl w4.heap.size ByteArray.empty 0 0 0 0 0 false 0 rfl rfl _ rfl HK0.out ?_))
  have hf5:Frm NoB w4 ((w4.alloc (.cells (tpz ByteArray.empty 0 0 0 0 0 false 0) 45 (0,0))).setRow w4.heap.size (tpz ByteArray.empty 0 0 0 0 0 false 0)):=((Frm.refl NoB w4).alloc _).setRowNew (Nat.le_refl _) _
  show Code.wp Tryz.prog _ _ _ ((w4.alloc (.cells (tpz ByteArray.empty 0 0 0 0 0 false 0) 45 (0,0))).setRow w4.heap.size (tpz ByteArray.empty 0 0 0 0 0 false 0))
  obtain ⟨y5,hy5⟩: ∃y5,(w4.alloc (.cells (tpz ByteArray.empty 0 0 0 0 0 false 0) 45 (0,0))).setRow w4.heap.size (tpz ByteArray.empty 0 0 0 0 0 false 0)=y5:=⟨_,rfl⟩
  rw [hy5] at hf5 ⊢
  have ht5:=HT4.out.go hf5
  have hm5:=(hf5.block mb (lt_of_block HM4.out) (fun e=>e)).trans HM4.out
  have hfz:Frm NoB y5 ((y5.alloc (.cells (tpz ByteArray.empty 0 0 0 0 0 false 0) 45 (0,0))).drew):=((Frm.refl NoB y5).alloc _).drew
  have htz:=ht5.go hfz
  have hmz:=(hfz.block mb (lt_of_block hm5) (fun e=>e)).trans hm5
  have s0:((y5.alloc (.cells #[.string ⟨#[]⟩,.int .i64 0,.int .i64 0,.int .i64 0,.int .i64 0,.int .i64 0,.bool false,.int .i64 0] 45 (0,0))).drew).cell? ⟨b1,0,none⟩=some (.int .i64 p3):=(cell_of_block htz.h1).trans rfl
  have s1:((y5.alloc (.cells #[.string ⟨#[]⟩,.int .i64 0,.int .i64 0,.int .i64 0,.int .i64 0,.int .i64 0,.bool false,.int .i64 0] 45 (0,0))).drew).cell? ⟨b1,1,none⟩=some (.int .i64 p4):=(cell_of_block htz.h1).trans rfl
  have s2:((y5.alloc (.cells #[.string ⟨#[]⟩,.int .i64 0,.int .i64 0,.int .i64 0,.int .i64 0,.int .i64 0,.bool false,.int .i64 0] 45 (0,0))).drew).cell? ⟨b1,2,none⟩=some (.int .i64 p5):=(cell_of_block htz.h1).trans rfl
  have s3:((y5.alloc (.cells #[.string ⟨#[]⟩,.int .i64 0,.int .i64 0,.int .i64 0,.int .i64 0,.int .i64 0,.bool false,.int .i64 0] 45 (0,0))).drew).cell? ⟨b1,3,none⟩=some (.bool p6):=(cell_of_block htz.h1).trans rfl
  have s4:((y5.alloc (.cells #[.string ⟨#[]⟩,.int .i64 0,.int .i64 0,.int .i64 0,.int .i64 0,.int .i64 0,.bool false,.int .i64 0] 45 (0,0))).drew).cell? ⟨b1,4,none⟩=some (.int .i64 p7):=(cell_of_block htz.h1).trans rfl
  have m1:((y5.alloc (.cells #[.string ⟨#[]⟩,.int .i64 0,.int .i64 0,.int .i64 0,.int .i64 0,.int .i64 0,.bool false,.int .i64 0] 45 (0,0))).drew).cell? ⟨mb,1,none⟩=some (.int .i64 1):=(cell_of_block hmz).trans rfl
  have t0:y5.cell? ⟨b1,0,none⟩=some (.int .i64 p3):=(cell_of_block ht5.h1).trans rfl
  have t1:y5.cell? ⟨b1,1,none⟩=some (.int .i64 p4):=(cell_of_block ht5.h1).trans rfl
  have t2:y5.cell? ⟨b1,2,none⟩=some (.int .i64 p5):=(cell_of_block ht5.h1).trans rfl
  have t3:y5.cell? ⟨b1,3,none⟩=some (.bool p6):=(cell_of_block ht5.h1).trans rfl
  have t4:y5.cell? ⟨b1,4,none⟩=some (.int .i64 p7):=(cell_of_block ht5.h1).trans rfl
  have n1:y5.cell? ⟨mb,1,none⟩=some (.int .i64 1):=(cell_of_block hm5).trans rfl
  have m0:y5.cell? ⟨mb,0,none⟩=some (.slice none 0 0):=(cell_of_block hm5).trans rfl
  clear hfz htz hmz
  have HT5:=Lib.hid ht5
  have HM5:=Lib.hid hm5
  clear hf5 ht5 hm5 hy5 HT4 HM4 HK0
  generalize w4.heap.size=g4 at*
  go_upto_region 8 with fail
  go_region
  go_upto_region 9 with fail
  have hf9:Frm NoB y5 ((y5.alloc (.cells #[.string nm,.int .i64 1,.int .i64 P,.int .i64 p3,.int .i64 p4,.int .i64 p5,.bool p6,.int .i64 p7] 45 (0,0))).drew):=((Frm.refl NoB y5).alloc _).drew
  have hb9:((y5.alloc (.cells #[.string nm,.int .i64 1,.int .i64 P,.int .i64 p3,.int .i64 p4,.int .i64 p5,.bool p6,.int .i64 p7] 45 (0,0))).drew).heap[y5.heap.size]?=some (.cells #[.string nm,.int .i64 1,.int .i64 P,.int .i64 p3,.int .i64 p4,.int .i64 p5,.bool p6,.int .i64 p7] 45 (0,0)):=block_alloc_new y5 _
  obtain ⟨z9,hz9⟩: ∃z9,(y5.alloc (.cells #[.string nm,.int .i64 1,.int .i64 P,.int .i64 p3,.int .i64 p4,.int .i64 p5,.bool p6,.int .i64 p7] 45 (0,0))).drew=z9:=⟨_,rfl⟩
  rw [hz9] at hf9 hb9 ⊢
  have ht9:=HT5.out.go hf9
  have hm9:=(hf9.block mb (lt_of_block HM5.out) (fun e=>e)).trans HM5.out
  have HGT:=Lib.hid (show w.heap.size≤y5.heap.size from HT5.out.frm.size)
  generalize y5.heap.size=gt at*
  have HT9:=Lib.hid ht9
  have HM9:=Lib.hid hm9
  have HB9:=Lib.hid hb9
  have c1:z9.cell? ⟨mb,1,none⟩=some (.int .i64 1):=(cell_of_block hm9).trans rfl
  have f1:z9.frozen? ⟨mb,1,none⟩=false:=frozen_of_block hm9
  clear hf9 hb9 hz9 ht9 hm9 HT5 HM5 s0 s1 s2 s3 s4 m1 t0 t1 t2 t3 t4 n1 m0
  go_upto_region 10 with fail
  have hf10:Frm (Only mb) z9 (z9.setCell ⟨mb,1,none⟩ (.int .i64 2)):=(Frm.refl (Only mb) z9).setCell (.inl (Only.self mb)) _
  have hm10:=block_setCell_same (i:=1) (.int .i64 2) HM9.out
  have hb10:=block_setCell_other (p:=⟨mb,1,none⟩) (.int .i64 2) HB9.out (show gt≠mb by have:=HMB.out;have:=HGT.out;omega)
  have h210:=block_setCell_other (p:=⟨mb,1,none⟩) (.int .i64 2) HT9.out.h2 (show b2≠mb by have:=HMB.out;have:=HT9.out.g2;omega)
  have hw10:Frm (Only mb) w (z9.setCell ⟨mb,1,none⟩ (.int .i64 2)):=(HT9.out.frm.mono (N:=Only mb) fun _ _ e=>e.elim).trans hf10 fun _ _ e=>e
  obtain ⟨z,hz⟩: ∃z,z9.setCell ⟨mb,1,none⟩ (.int .i64 2)=z:=⟨_,rfl⟩
  rw [hz] at hm10 hb10 h210 hw10 ⊢
  have hm10:z.heap[mb]?=some (.cells #[.slice none 0 0,.int .i64 2] 111 (0,0)):=hm10
  have HZ:=Lib.hid (And.intro hm10 (And.intro hb10 (And.intro h210 hw10)))
  have c0:z.cell? ⟨mb,0,none⟩=some (.slice none 0 0):=(cell_of_block hm10).trans rfl
  have c0':(z.alloc (.cells #[.string nm,.int .i64 1,.int .i64 P,.int .i64 p3,.int .i64 p4,.int .i64 p5,.bool p6,.int .i64 p7] 45 (0,0))).cell? ⟨mb,0,none⟩=some (.slice none 0 0):=(cell_of_block (block_alloc_old _ hm10)).trans rfl
  have d0:z.cell? ⟨gt,0,none⟩=some (.string nm):=(cell_of_block hb10).trans rfl
  have d1:z.cell? ⟨gt,1,none⟩=some (.int .i64 1):=(cell_of_block hb10).trans rfl
  have d2:z.cell? ⟨gt,2,none⟩=some (.int .i64 P):=(cell_of_block hb10).trans rfl
  have d3:z.cell? ⟨gt,3,none⟩=some (.int .i64 p3):=(cell_of_block hb10).trans rfl
  have d4:z.cell? ⟨gt,4,none⟩=some (.int .i64 p4):=(cell_of_block hb10).trans rfl
  have d5:z.cell? ⟨gt,5,none⟩=some (.int .i64 p5):=(cell_of_block hb10).trans rfl
  have d6:z.cell? ⟨gt,6,none⟩=some (.bool p6):=(cell_of_block hb10).trans rfl
  have d7:z.cell? ⟨gt,7,none⟩=some (.int .i64 p7):=(cell_of_block hb10).trans rfl
  have HNEW:Hid (∀(j:Nat) u,([.string nm,.int .i64 1,.int .i64 P,.int .i64 p3,.int .i64 p4,.int .i64 p5,.bool p6,.int .i64 p7]:List Value)[j]?=some u→((z.alloc (.cells #[.string nm,.int .i64 1,.int .i64 P,.int .i64 p3,.int .i64 p4,.int .i64 p5,.bool p6,.int .i64 p7] 45 (0,0))).drew).cell? ((⟨z.heap.size,0,none⟩:Addr).add j)=some u):=Lib.hid fun j u hj=>by
    rw [show (⟨z.heap.size,0,none⟩:Addr).add j=⟨z.heap.size,j,none⟩ by unfold Addr.add;split<;>simp_all]
    exact (cell_of_block (block_alloc_new z (.cells #[.string nm,.int .i64 1,.int .i64 P,.int .i64 p3,.int .i64 p4,.int .i64 p5,.bool p6,.int .i64 p7] 45 (0,0)))).trans (by rw [←hj,←Array.getElem?_toList])
  have HAP:Hid (∀v' w',w'.ownsRow 0 45 8 v' (0+1) ([]++ [.string nm,.int .i64 1,.int .i64 P,.int .i64 p3,.int .i64 p4,.int .i64 p5,.bool p6,.int .i64 p7])→((z.alloc (.cells #[.string nm,.int .i64 1,.int .i64 P,.int .i64 p3,.int .i64 p4,.int .i64 p5,.bool p6,.int .i64 p7] 45 (0,0))).drew).grownBy w' (Value.slice none 0 0).ownBlock→(∃va vc,v'= .slice (some ⟨va,0,none⟩) 1 vc)∧Frm NoB z w'):=Lib.hid fun v' w' ho hg=>by
    refine ⟨?_,((Frm.refl NoB z).alloc _).drew.trans ((Frm.ofGrown hg).mono fun x _ e=>by cases e) fun _ _ e=>e⟩
    rcases ho.2 with hx | ⟨va,vc,_,hx,_⟩
    · have:=hx.2;omega
    · exact ⟨va,vc,hx⟩
  have KZ:Hid (∀w',Frm NoB z w'→w'.heap[mb]?=some (.cells #[.slice none 0 0,.int .i64 2] 111 (0,0))∧w'.heap[gt]?=some (.cells #[.string nm,.int .i64 1,.int .i64 P,.int .i64 p3,.int .i64 p4,.int .i64 p5,.bool p6,.int .i64 p7] 45 (0,0))∧w'.heap[b2]?=some (.cells (tpz ByteArray.empty 0 0 0 0 0 false 0) 45 (0,0))∧Frm (Only mb) w w'):=Lib.hid fun w' hf=>
    ⟨(hf.block _ (lt_of_block HZ.out.1) (fun e=>e)).trans HZ.out.1,(hf.block _ (lt_of_block HZ.out.2.1) (fun e=>e)).trans HZ.out.2.1,(hf.block _ (lt_of_block HZ.out.2.2.1) (fun e=>e)).trans HZ.out.2.2.1,HZ.out.2.2.2.trans (hf.mono (N:=Only mb) fun _ _ e=>e.elim) fun _ _ e=>e⟩
  obtain ⟨ii,hi0i,hz0,hz1,hz2⟩:=info_parts infoRT3
  have HB2:=Lib.hid HT9.out.g2
  clear hf10 hm10 hb10 h210 hw10 hz HM9 HB9 HT9 c1 f1
  go_region_law (refine step_append_own rfl _ _ 109 rfl 0 45 ii (.agg (tpz ByteArray.empty 0 0 0 0 0 false 0)) 8 72 Tryz.underlying109 hi0i hz0 hz1 hz2 rfl (by decide) (.slice none 0 0) 0 [] rfl (World.ownsRow_nil _ _ _ _) ⟨z.heap.size,0,none⟩ 1 1 [.string nm,.int .i64 1,.int .i64 P,.int .i64 p3,.int .i64 p4,.int .i64 p5,.bool p6,.int .i64 p7] rfl rfl HNEW.out (by simp [Value.oneCell']) (by decide) (by decide) (Nat.zero_le _) ?_;intro v' w' ho hg hat;obtain ⟨⟨vg,vcc,rfl⟩,h7⟩:=HAP.out v' w' ho hg;clear ho hg hat;have k7:=KZ.out w' h7;have c7:w'.cell? ⟨mb,0,none⟩=some (.slice none 0 0):=(cell_of_block k7.1).trans rfl;have f7:w'.frozen? ⟨mb,0,none⟩=false:=frozen_of_block k7.1)
  all_goals
    have e1:=block_setCell_same (i:=0) (.slice (some ⟨vg,0,none⟩) 1 vcc) k7.1
    have e2:=block_setCell_other (p:=⟨mb,0,none⟩) (.slice (some ⟨vg,0,none⟩) 1 vcc) k7.2.1 (show gt≠mb by have:=HMB.out;have:=HGT.out;omega)
    have e3:=block_setCell_other (p:=⟨mb,0,none⟩) (.slice (some ⟨vg,0,none⟩) 1 vcc) k7.2.2.1 (show b2≠mb by have:=HMB.out;have:=HB2.out;omega)
    have e4:Frm (Only mb) w (w'.setCell ⟨mb,0,none⟩ (.slice (some ⟨vg,0,none⟩) 1 vcc)):=k7.2.2.2.setCell (.inl (Only.self mb)) _
    have e1:(w'.setCell ⟨mb,0,none⟩ (.slice (some ⟨vg,0,none⟩) 1 vcc)).heap[mb]?=some (.cells #[.slice (some ⟨vg,0,none⟩) 1 vcc,.int .i64 2] 111 (0,0)):=e1
    obtain ⟨z8,hz8⟩: ∃z8,w'.setCell ⟨mb,0,none⟩ (.slice (some ⟨vg,0,none⟩) 1 vcc)=z8:=⟨_,rfl⟩
    rw [hz8] at e1 e2 e3 e4 ⊢
    have HE:=Lib.hid (And.intro e3 e4)
    have m0:z8.cell? ⟨mb,0,none⟩=some (.slice (some ⟨vg,0,none⟩) 1 vcc):=(cell_of_block e1).trans rfl
    have g0:z8.cell? ⟨gt,0,none⟩=some (.string nm):=(cell_of_block e2).trans rfl
    have g1:z8.cell? ⟨gt,1,none⟩=some (.int .i64 1):=(cell_of_block e2).trans rfl
    have g2:z8.cell? ⟨gt,2,none⟩=some (.int .i64 P):=(cell_of_block e2).trans rfl
    have g3:z8.cell? ⟨gt,3,none⟩=some (.int .i64 p3):=(cell_of_block e2).trans rfl
    have g4:z8.cell? ⟨gt,4,none⟩=some (.int .i64 p4):=(cell_of_block e2).trans rfl
    have g5:z8.cell? ⟨gt,5,none⟩=some (.int .i64 p5):=(cell_of_block e2).trans rfl
    have g6:z8.cell? ⟨gt,6,none⟩=some (.bool p6):=(cell_of_block e2).trans rfl
    have g7:z8.cell? ⟨gt,7,none⟩=some (.int .i64 p7):=(cell_of_block e2).trans rfl
    clear e1 e2 e3 e4 hz8 h7 k7 c7 f7 HAP KZ HNEW HZ c0 c0' d0 d1 d2 d3 d4 d5 d6 d7
    go_wp2_with fail
    go_loopw [13,14] (fun t13 _ wr=>t13= .int .i64 0∧z8=wr) (fun _ _ _=>0)
    case atStart=>exact ⟨rfl,rfl⟩
    case round=>
      obtain ⟨rfl,rfl⟩:=hrel
      go_wp2_with fail
      go_quiet (fail)
      go_wp2_with (refine storeRT rfl _ _ rfl b2 nm 1 P p3 p4 p5 p6 p7 rfl rfl _ rfl HE.out.1 ?_)
      have hld:=run_loadVar_row (P:=Tryz.prog) ((z8.drewN nq).setRow b2 (tpz nm 1 P p3 p4 p5 p6 p7)) b2 45 45 (tpz nm 1 P p3 p4 p5 p6 p7) (0,0) _ (setRow_heap (z8.drewN nq) _ _ (tpz nm 1 P p3 p4 p5 p6 p7) _ _ HE.out.1) Tryz.underlying45 rfl (infoRT _ _ _ _ _ _ _ _)
      (try simp only [Exit.inBlock,Exit.then])
      exact bodyPost_ret (v:= .tuple #[.agg (tpz nm 1 P p3 p4 p5 p6 p7),.int .i64 0]) (results_ct Tryz.results18 _ _ ⟨b2,0,none⟩ rfl _ hld) rfl ⟨rfl,(HE.out.2.drewN nq).setRowAt HB2.out _⟩
set_option maxRecDepth 100000 in
theorem l_topic (w:World) (nm:ByteArray) (p1 p2 p3 p4 p5:Int) (p6:Bool) (p7:Int):
    Calls Tryz.prog 19 #[.agg (tpz nm p1 p2 p3 p4 p5 p6 p7)] w fun e w'=>e= .returned (.agg (tpz nm p1 p2 p3 p4 p5 p6 p7))∧Frm NoB w w':=by
  obtain ⟨b1,b2,y,hb1,hb2,hy,ht⟩:=twoNew w (tpz nm p1 p2 p3 p4 p5 p6 p7) (tpz ByteArray.empty 0 0 0 0 0 false 0) 45 31
  have HT:=Lib.hid ht
  have HY:=Lib.hid (And.intro hy (And.intro hb1 hb2))
  have d0:y.cell? ⟨b1,0,none⟩=some (.string nm):=(cell_of_block ht.h1).trans rfl
  have d1:y.cell? ⟨b1,1,none⟩=some (.int .i64 p1):=(cell_of_block ht.h1).trans rfl
  have d2:y.cell? ⟨b1,2,none⟩=some (.int .i64 p2):=(cell_of_block ht.h1).trans rfl
  have d3:y.cell? ⟨b1,3,none⟩=some (.int .i64 p3):=(cell_of_block ht.h1).trans rfl
  have d4:y.cell? ⟨b1,4,none⟩=some (.int .i64 p4):=(cell_of_block ht.h1).trans rfl
  have d5:y.cell? ⟨b1,5,none⟩=some (.int .i64 p5):=(cell_of_block ht.h1).trans rfl
  have d6:y.cell? ⟨b1,6,none⟩=some (.bool p6):=(cell_of_block ht.h1).trans rfl
  have d7:y.cell? ⟨b1,7,none⟩=some (.int .i64 p7):=(cell_of_block ht.h1).trans rfl
  clear ht hy hb1 hb2
  go_enter Tryz.func19,Tryz.ntmps19
  go_upto_region 1 with (refine allocRow rfl _ _ zeroTp rfl ?_)
  rw [HY.out.1]
  simp only [size_alloc]
  rw [HY.out.2.1,HY.out.2.2]
  clear HY
  go_wp2_with (refine storeTp rfl _ _ rfl b2 nm p1 p2 p3 p4 p5 p6 p7 rfl rfl _ rfl HT.out.h2 ?_)
  have hld:=run_loadVar_row (P:=Tryz.prog) _ b2 31 31 (tpz nm p1 p2 p3 p4 p5 p6 p7) (0,0) _ (setRow_heap _ _ _ (tpz nm p1 p2 p3 p4 p5 p6 p7) _ _ HT.out.h2) Tryz.underlying31 rfl (infoTp _ _ _ _ _ _ _ _)
  (try simp only [Exit.inBlock,Exit.then])
  exact bodyPost_ret (v:= .agg (tpz nm p1 p2 p3 p4 p5 p6 p7)) (results_c1 Tryz.results19 _ _ ⟨b2,0,none⟩ rfl _ hld) rfl ⟨rfl,HT.out.frm.setRowNew HT.out.g2 _⟩
end
section
open Go.ChangeMaps Go.MapKept Go.RowKit
variable {w0:Gnd} {w:World} {rs:List Res} {X:Sys} {F:FH} {A:Path→Option Nd} {ι:Path→Nat}
theorem Fs.poke {b:Nat} {c:Array Value} {t:TypeId} {ht: ¬U8T t} (h:Fs w0 w F X A ι (arr b c t ht::rs)) {w':World} (hf:Frm (Only b) w w'):Fs w0 w' F X A ι rs:=by
  obtain ⟨⟨n,l,ha,hl⟩,hr⟩:=h
  refine ⟨⟨n,l,⟨?_,ha.2⟩,hl⟩,hr⟩
  have h1:=ha.1.write 3 rfl hf voidR trivial (fun x hx=>hx.elim)
  exact h1.sub ((((List.sublist_cons_self _ _).cons_cons _).cons_cons _).cons_cons _)
end
section
open Go.ChangeMaps Go.MapKept Go.RowKit
theorem neStg: ¬U8T (29:TypeId):=by decide
theorem app_get {α:Type} (a b:List α) (i:Nat):(a++b)[a.length+i]?=b[i]?:=by rw [List.getElem?_append_right (Nat.le_add_right _ _),Nat.add_sub_cancel_left]
theorem entCreate1:EntersF Tryz.prog 45:=entersF_of Tryz.func45 (by kernel_rfl) rfl
end
section
open Go.ChangeMaps Go.MapKept Go.RowKit
variable {w0:Gnd} {w:World} {rs:List Res} {X:Sys} {F:FH} {A:Path→Option Nd} {ι:Path→Nat}
attribute [local go_sem] run_mf in
theorem Fs.perm2 (h:Fs w0 w F X A ι rs) {rs':List Res} (hp:rs.Perm rs'):Fs w0 w F X A ι rs':=by
  obtain ⟨⟨k,l,ha,hl⟩,hr⟩:=h
  exact ⟨⟨k,l,ha.perm ((hp.cons _).cons _),hl⟩,hr⟩
attribute [local go_sem] run_mf in
set_option maxHeartbeats 1000000 in
set_option maxRecDepth 100000 in
theorem c_Create {cb mb n P next:Nat} {L:List Tp} {D:List ByteArray} (h:Fs w0 w F X A ι (catS cb F.fb next mb::catM mb L::rs)) (hb:F.begun=false) (hd:F.dead=false) (hop:X.op=false) (hlim:X.D.lim=none) (hm:X.m<1000000) (hl:X.l= []) (hc:MayCr X A next L n D P) {nm:ByteArray} (hn50:nm.size≤50) (hnm:Named nm true) (hno: ∀x∈L,x.nm≠nm) (p3 p4 p5:Int) (p6:Bool) (p7:Int)
    (h1:512≤p3∧p3≤8192) (h2: -1≤p4∧p4≤1099511627776) (h3: -1≤p5∧p5≤1125899906842624) (h4:0≤p7∧p7≤1125899906842624):
    Calls Tryz.prog 11 #[.pointer (some ⟨cb,0,none⟩),.string nm,.int .i64 P,.agg (stz p3 p4 p5 p6 p7)] w fun e w'=>e= .returned (.tuple #[.agg (tpz nm next P p3 p4 p5 p6 p7),.int .i64 0])∧∃Y A' ι' n' mb',Fs w0 w' { F with begun:=false,over:=false } Y A' ι' (catS cb F.fb ((next:Int)+1) mb'::catM mb' (insT ⟨nm,next,P,p3,p4,p5,p6,p7⟩ L)::rs)∧CrMade X Y A A' (encC next L) (encC ((next:Int)+1) (insT ⟨nm,next,P,p3,p4,p5,p6,p7⟩ L)) next n n' P:=by
  have hh:=(((h.newArr #[.pointer (some ⟨cb,0,none⟩)] 25 neCatp).newArr (stz p3 p4 p5 p6 p7) 29 neStg).newArr (tpz ByteArray.empty 0 0 0 0 0 false 0) 31 neTp)
  simp only [size_alloc] at hh
  obtain ⟨y,hy⟩: ∃y,((w.alloc (.cells #[.pointer (some ⟨cb,0,none⟩)] 25 (0,0))).alloc (.cells (stz p3 p4 p5 p6 p7) 29 (0,0))).alloc (.cells (tpz ByteArray.empty 0 0 0 0 0 false 0) 31 (0,0))=y:=⟨_,rfl⟩
  obtain ⟨b1,hb1⟩: ∃b1,w.heap.size=b1:=⟨_,rfl⟩
  rw [hy,hb1] at hh
  obtain ⟨b2,hb2⟩: ∃b2,b1+1=b2:=⟨_,rfl⟩
  rw [hb2] at hh
  obtain ⟨b3,hb3⟩: ∃b3,b2+1=b3:=⟨_,rfl⟩
  rw [hb3] at hh
  have hP:=hc.Pl
  have P1:(1:Int)≤(P:Int):=by omega
  have P8:(P:Int)≤8:=by omega
  have c0:y.cell? ⟨b1,0,none⟩=some (.pointer (some ⟨cb,0,none⟩)):=(hh.arrCell (i:=2) rfl 0).trans rfl
  have hnm50:Hid (nm.size≤50):=Lib.hid hn50
  have HR:=Lib.hid (c_ready hh (i:=3) rfl)
  have HN:=Lib.hid (hnm y)
  have KS:Hid (∀W,Calls Tryz.prog 41 #[.agg (stz p3 p4 p5 p6 p7)] W fun r w'=>r= .returned (.bool true)∧Frm NoB W w'):=Lib.hid fun W=>p_Settings W p3 p4 p5 p6 p7 h1 h2 h3 h4
  have HY:=Lib.hid (And.intro hy (And.intro hb1 (And.intro hb2 hb3)))
  have HH:=Lib.hid hh
  have HC:=Lib.hid hc
  have HP:=Lib.hid (And.intro hno (And.intro hb (And.intro hd (And.intro hop (And.intro hlim (And.intro hm hl))))))
  have HSz:=Lib.hid (And.intro h1 (And.intro h2 (And.intro h3 h4)))
  clear h hb hd hop hlim hm hl hc hnm hn50 hno h1 h2 h3 h4 hh hy hb1 hb2 hb3 hP
  go_enter Tryz.func11,Tryz.ntmps11
  go_upto_region 1 with (refine allocRow rfl _ _ zeroTp rfl ?_)
  rw [HY.out.1,HY.out.2.1,HY.out.2.2.1,HY.out.2.2.2]
  clear HY
  go_wp2_with fail
  refine HR.out.mono ?_
  clear HR
  rintro e w2 ⟨rfl,rfl⟩
  go_wp2_with fail
  refine HN.out.mono ?_
  clear HN
  rintro e w2 ⟨rfl,hf⟩
  have HH2:=Lib.hid (HH.out.frm hf)
  have s0:w2.cell? ⟨b2,0,none⟩=some (.int .i64 p3):=(HH2.out.arrCell (i:=1) rfl 0).trans rfl
  have s1:w2.cell? ⟨b2,1,none⟩=some (.int .i64 p4):=(HH2.out.arrCell (i:=1) rfl 1).trans rfl
  have s2:w2.cell? ⟨b2,2,none⟩=some (.int .i64 p5):=(HH2.out.arrCell (i:=1) rfl 2).trans rfl
  have s3:w2.cell? ⟨b2,3,none⟩=some (.bool p6):=(HH2.out.arrCell (i:=1) rfl 3).trans rfl
  have s4:w2.cell? ⟨b2,4,none⟩=some (.int .i64 p7):=(HH2.out.arrCell (i:=1) rfl 4).trans rfl
  have c0':w2.cell? ⟨b1,0,none⟩=some (.pointer (some ⟨cb,0,none⟩)):=(HH2.out.arrCell (i:=2) rfl 0).trans rfl
  clear HH hf c0
  go_wp2_with fail
  refine (KS.out _).mono ?_
  clear KS s0 s1 s2 s3 s4
  rintro e w3 ⟨rfl,hf⟩
  have HH3:=Lib.hid (HH2.out.frm hf)
  have d0:w3.cell? ⟨b1,0,none⟩=some (.pointer (some ⟨cb,0,none⟩)):=(HH3.out.arrCell (i:=2) rfl 0).trans rfl
  have d3:w3.cell? ⟨cb,3,none⟩=some (.map (some mb)):=(HH3.out.arrCell (i:=3) rfl 3).trans rfl
  clear HH2 hf c0'
  go_upto_region 5 with fail
  have KL:Hid (∀W,Fs w0 W F X A ι (arr b3 (tpz ByteArray.empty 0 0 0 0 0 false 0) 31 neTp::arr b2 (stz p3 p4 p5 p6 p7) 29 neStg::arr b1 #[.pointer (some ⟨cb,0,none⟩)] 25 neCatp::catS cb F.fb next mb::catM mb L::rs)→W.cell? ⟨b1,0,none⟩=some (.pointer (some ⟨cb,0,none⟩))∧W.cell? ⟨cb,3,none⟩=some (.map (some mb))∧(Instr.lookup 91 (.map (some mb)) (.agg ((keyB nm).map B8).toArray) true).run Tryz.prog W= .ok (.tuple #[.agg #[.string ⟨#[]⟩,.int .i64 0,.int .i64 0,.int .i64 0,.int .i64 0,.int .i64 0,.bool false,.int .i64 0],.bool false]) W):=Lib.hid fun W hW=>by
    refine ⟨(hW.arrCell (i:=2) rfl 0).trans rfl,(hW.arrCell (i:=3) rfl 3).trans rfl,?_⟩
    have this:=(hW.catAt (i:=4) rfl).lookup_ok kindCKey Tryz.underlying91 (a:=keyB nm) (keyB_length nm hnm50.out) zeroTp W rfl
    rw [tpV_none HC.out.cat hnm50.out HP.out.1] at this
    exact this
  have KO:Hid (∀W,Calls Tryz.prog 42 #[.string nm] W fun e w'=>e= .returned (.agg ((keyB nm).map B8).toArray)∧Frm NoB W w'):=Lib.hid fun W=>c_of W nm hnm50.out
  have HHd:=Lib.hid (HH3.out.frm (Frm.refl NoB w3).drew)
  obtain ⟨k1,k2,k3⟩:=KL.out _ HH3.out
  clear d0 d3
  go_cut [10,11] from 36 (fun t10 t11 wx=>t11= .bool false∧Fs w0 wx F X A ι (arr b3 (tpz ByteArray.empty 0 0 0 0 0 false 0) 31 neTp::arr b2 (stz p3 p4 p5 p6 p7) 29 neStg::arr b1 #[.pointer (some ⟨cb,0,none⟩)] 25 neCatp::catS cb F.fb next mb::catM mb L::rs))
  case first=>
    refine wp_region_held_drew (S:=(fun y=>y.cell? ⟨b1,0,none⟩=some (.pointer (some ⟨cb,0,none⟩))∧y.cell? ⟨cb,3,none⟩=some (.map (some mb))∧(Instr.lookup 91 (.map (some mb)) (.agg ((keyB nm).map B8).toArray) true).run Tryz.prog y= .ok (.tuple #[.agg #[.string ⟨#[]⟩,.int .i64 0,.int .i64 0,.int .i64 0,.int .i64 0,.int .i64 0,.bool false,.int .i64 0],.bool false]) y)) (by kernel_rfl) (KL.out _ HHd.out) (fun hHeld=>?_)
    refine wpAnyH_take (i:=0) (v:=?v0_1) rfl (by kernel_rfl) (by kernel_rfl) (by kernel_rfl) (fun _ _ _ h=>h) (Or.inl ⟨by rfl,?hy0_1⟩) (by assumption) ?rest0_1
    case hy0_1=>(intro w hSw;(try dsimp only at hSw);go_simp;(try with_reducible rfl))
    try simp only [Act.put,List.setIfInBounds_toArray,List.set_cons_zero,List.set_cons_succ]
    refine wpAnyH_take (i:=1) (v:=?v1_2) rfl (by kernel_rfl) (by kernel_rfl) (by kernel_rfl) (fun _ _ _ h=>h) (Or.inl ⟨by rfl,?hy1_2⟩) (by assumption) ?rest1_2
    case hy1_2=>(intro w hSw;(try dsimp only at hSw);go_simp;(try with_reducible rfl))
    try simp only [Act.put,List.setIfInBounds_toArray,List.set_cons_zero,List.set_cons_succ]
    refine wpAnyH_take (i:=2) (v:=?v2_3) rfl (by kernel_rfl) (by kernel_rfl) (by kernel_rfl) (fun _ _ _ h=>h) (Or.inl ⟨by rfl,?hy2_3⟩) (by assumption) ?rest2_3
    case hy2_3=>(intro w hSw;(try dsimp only at hSw);go_simp;(try with_reducible rfl))
    try simp only [Act.put,List.setIfInBounds_toArray,List.set_cons_zero,List.set_cons_succ]
    refine wpAnyH_take (i:=3) (v:=?v3_4) rfl (by kernel_rfl) (by kernel_rfl) (by kernel_rfl) (fun _ _ _ h=>h) (Or.inl ⟨by rfl,?hy3_4⟩) (by assumption) ?rest3_4
    case hy3_4=>(intro w hSw;(try dsimp only at hSw);go_simp;(try with_reducible rfl))
    try simp only [Act.put,List.setIfInBounds_toArray,List.set_cons_zero,List.set_cons_succ]
    refine wpAnyH_take (i:=4) (v:=?v4_5) rfl (by kernel_rfl) (by kernel_rfl) (by kernel_rfl) (fun _ _ _ h=>h) (Or.inl ⟨by rfl,?hy4_5⟩) (by assumption) ?rest4_5
    case hy4_5=>(intro w hSw;(try dsimp only at hSw);go_simp;(try with_reducible rfl))
    try simp only [Act.put,List.setIfInBounds_toArray,List.set_cons_zero,List.set_cons_succ]
    refine wpAnyH_ready (rs:= [5,10]) (by kernel_rfl) (by simp) ?_
    refine AllReadyH.cons rfl (fun K hK=>?_) ?_
    · go_simp
      refine (KO.out _).mono ?_
      rintro e w4 ⟨rfl,hf4⟩
      go_wp2_with fail
      have HH4:=Lib.hid (HHd.out.frm hf4)
      clear hf4
      refine hK.out _ _ (KL.out _ HH4.out) (fun hHeld=>?_)
      clear hK K
      try simp only [Act.put,List.setIfInBounds_toArray,List.set_cons_zero,List.set_cons_succ]
      refine wpAnyH_take (i:=6) (v:=?v6_6) rfl (by kernel_rfl) (by kernel_rfl) (by kernel_rfl) (fun _ _ _ h=>h) (Or.inl ⟨by rfl,?hy6_6⟩) (by assumption) ?rest6_6
      case hy6_6=>(intro w hSw;(try dsimp only at hSw);go_simp;(try with_reducible rfl))
      try simp only [Act.put,List.setIfInBounds_toArray,List.set_cons_zero,List.set_cons_succ]
      refine wpAnyH_take (i:=7) (v:=?v7_7) rfl (by kernel_rfl) (by kernel_rfl) (by kernel_rfl) (fun _ _ _ h=>h) (Or.inl ⟨by rfl,?hy7_7⟩) (by assumption) ?rest7_7
      case hy7_7=>(intro w hSw;(try dsimp only at hSw);go_simp;(try with_reducible rfl))
      try simp only [Act.put,List.setIfInBounds_toArray,List.set_cons_zero,List.set_cons_succ]
      refine wpAnyH_take (i:=8) (v:=?v8_8) rfl (by kernel_rfl) (by kernel_rfl) (by kernel_rfl) (fun _ _ _ h=>h) (Or.inl ⟨by rfl,?hy8_8⟩) (by assumption) ?rest8_8
      case hy8_8=>(intro w hSw;(try dsimp only at hSw);go_simp;(try with_reducible rfl))
      try simp only [Act.put,List.setIfInBounds_toArray,List.set_cons_zero,List.set_cons_succ]
      refine wpAnyH_take (i:=9) (v:=?v9_9) rfl (by kernel_rfl) (by kernel_rfl) (by kernel_rfl) (fun _ _ _ h=>h) (Or.inl ⟨by rfl,?hy9_9⟩) (by assumption) ?rest9_9
      case hy9_9=>(intro w hSw;(try dsimp only at hSw);go_simp;(try with_reducible rfl))
      change wpAnyH _ _ _ _ _ _ _ (Act.put _ (some 45) _) _
      try simp only [Act.put,List.setIfInBounds_toArray,List.set_cons_zero,List.set_cons_succ]
      refine wpAnyH_ready (rs:= [10]) (by kernel_rfl) (by simp) ?_
      refine AllReadyH.cons rfl (fun K hK=>?_) AllReadyH.nil
      go_simp
      have HA:=Lib.hid (HH4.out.newArr (tpz ByteArray.empty 0 0 0 0 0 false 0) 31 neTp)
      refine hK.out _ _ (KL.out _ (HA.out.drop 1)) (fun hHeld=>?_)
      clear hK K
      try simp only [Act.put,List.setIfInBounds_toArray,List.set_cons_zero,List.set_cons_succ]
      refine wpAnyH_ready (rs:= [11]) (by kernel_rfl) (by simp) ?_
      refine AllReadyH.cons rfl (fun K hK=>?_) AllReadyH.nil
      rw [if_pos (by rfl)]
      refine wp_store_row 31 _ _ rfl w4.heap.size (tpz ByteArray.empty 0 0 0 0 0 false 0) rfl rfl _ _ (HA.out.block (i:=0) rfl) (infoTp _ _ _ _ _ _ _ _) rfl (oneTp _ _ _ _ _ _ _ _) ?_
      have HB:=Lib.hid (HA.out.setRow 0 (c':=(tpz ByteArray.empty 0 0 0 0 0 false 0)) rfl)
      refine hK.out _ _ (KL.out _ (HB.out.drop 1)) (fun hHeld=>?_)
      clear hK K
      try simp only [Act.put,List.setIfInBounds_toArray,List.set_cons_zero,List.set_cons_succ]
      refine wpAnyH_take (i:=12) (v:=?v12_10) rfl (by kernel_rfl) (by kernel_rfl) (by kernel_rfl) (fun _ _ _ h=>h) (Or.inl ⟨by rfl,?hy12_10⟩) (by assumption) ?rest12_10
      case hy12_10=>(intro w hSw;(try dsimp only at hSw);go_simp;(try with_reducible rfl))
      change wpAnyH _ _ _ _ _ _ _ (Act.put _ (some 11) _) _
      try simp only [Act.put,List.setIfInBounds_toArray,List.set_cons_zero,List.set_cons_succ]
      refine wpAnyH_done (by kernel_rfl) ?_ _
      go_wp2_with fail
      go_meet
      exact ⟨rfl,HB.out.drop 1⟩
    · refine AllReadyH.cons rfl (fun K hK=>?_) AllReadyH.nil
      go_simp
      have HA:=Lib.hid ((HH3.out.newArr (tpz ByteArray.empty 0 0 0 0 0 false 0) 31 neTp).frm (Frm.refl NoB _).drew)
      refine hK.out _ _ (KL.out _ (HA.out.drop 1)) (fun hHeld=>?_)
      clear hK K
      try simp only [Act.put,List.setIfInBounds_toArray,List.set_cons_zero,List.set_cons_succ]
      obtain ⟨wa,hwa⟩: ∃wa,(w3.alloc (.cells (tpz ByteArray.empty 0 0 0 0 0 false 0) 31 (0,0))).drew=wa:=⟨_,rfl⟩
      obtain ⟨ga,hga⟩: ∃ga,w3.heap.size=ga:=⟨_,rfl⟩
      change wpAnyH _ _ _ _ _ _ _ _ ((w3.alloc (.cells (tpz ByteArray.empty 0 0 0 0 0 false 0) 31 (0,0))).drew)
      have hHeld2:=hHeld
      clear hHeld
      have hHeld:=KL.out _ (HA.out.drop 1)
      clear hHeld2
      rw [hwa,hga] at HA
      rw [hwa] at hHeld
      rw [hwa,hga]
      clear hwa hga
      refine wpAnyH_ready (rs:= [5]) (by kernel_rfl) (by simp) ?_
      refine AllReadyH.cons rfl (fun K hK=>?_) AllReadyH.nil
      go_simp
      refine (KO.out _).mono ?_
      rintro e w4 ⟨rfl,hf4⟩
      go_wp2_with fail
      have HH4:=Lib.hid (HA.out.frm hf4)
      clear hf4 HA
      refine hK.out _ _ (KL.out _ (HH4.out.drop 1)) (fun hHeld=>?_)
      clear hK K
      try simp only [Act.put,List.setIfInBounds_toArray,List.set_cons_zero,List.set_cons_succ]
      refine wpAnyH_take (i:=6) (v:=?v6_11) rfl (by kernel_rfl) (by kernel_rfl) (by kernel_rfl) (fun _ _ _ h=>h) (Or.inl ⟨by rfl,?hy6_11⟩) (by assumption) ?rest6_11
      case hy6_11=>(intro w hSw;(try dsimp only at hSw);go_simp;(try with_reducible rfl))
      try simp only [Act.put,List.setIfInBounds_toArray,List.set_cons_zero,List.set_cons_succ]
      refine wpAnyH_take (i:=7) (v:=?v7_12) rfl (by kernel_rfl) (by kernel_rfl) (by kernel_rfl) (fun _ _ _ h=>h) (Or.inl ⟨by rfl,?hy7_12⟩) (by assumption) ?rest7_12
      case hy7_12=>(intro w hSw;(try dsimp only at hSw);go_simp;(try with_reducible rfl))
      try simp only [Act.put,List.setIfInBounds_toArray,List.set_cons_zero,List.set_cons_succ]
      refine wpAnyH_take (i:=8) (v:=?v8_13) rfl (by kernel_rfl) (by kernel_rfl) (by kernel_rfl) (fun _ _ _ h=>h) (Or.inl ⟨by rfl,?hy8_13⟩) (by assumption) ?rest8_13
      case hy8_13=>(intro w hSw;(try dsimp only at hSw);go_simp;(try with_reducible rfl))
      try simp only [Act.put,List.setIfInBounds_toArray,List.set_cons_zero,List.set_cons_succ]
      refine wpAnyH_take (i:=9) (v:=?v9_14) rfl (by kernel_rfl) (by kernel_rfl) (by kernel_rfl) (fun _ _ _ h=>h) (Or.inl ⟨by rfl,?hy9_14⟩) (by assumption) ?rest9_14
      case hy9_14=>(intro w hSw;(try dsimp only at hSw);go_simp;(try with_reducible rfl))
      change wpAnyH _ _ _ _ _ _ _ (Act.put _ (some 45) _) _
      try simp only [Act.put,List.setIfInBounds_toArray,List.set_cons_zero,List.set_cons_succ]
      refine wpAnyH_ready (rs:= [11]) (by kernel_rfl) (by simp) ?_
      refine AllReadyH.cons rfl (fun K hK=>?_) AllReadyH.nil
      rw [if_pos (by rfl)]
      refine wp_store_row 31 _ _ rfl ga (tpz ByteArray.empty 0 0 0 0 0 false 0) rfl rfl _ _ (HH4.out.block (i:=0) rfl) (infoTp _ _ _ _ _ _ _ _) rfl (oneTp _ _ _ _ _ _ _ _) ?_
      have HB:=Lib.hid (HH4.out.setRow 0 (c':=(tpz ByteArray.empty 0 0 0 0 0 false 0)) rfl)
      refine hK.out _ _ (KL.out _ (HB.out.drop 1)) (fun hHeld=>?_)
      clear hK K
      try simp only [Act.put,List.setIfInBounds_toArray,List.set_cons_zero,List.set_cons_succ]
      refine wpAnyH_take (i:=12) (v:=?v12_15) rfl (by kernel_rfl) (by kernel_rfl) (by kernel_rfl) (fun _ _ _ h=>h) (Or.inl ⟨by rfl,?hy12_15⟩) (by assumption) ?rest12_15
      case hy12_15=>(intro w hSw;(try dsimp only at hSw);go_simp;(try with_reducible rfl))
      change wpAnyH _ _ _ _ _ _ _ (Act.put _ (some 11) _) _
      try simp only [Act.put,List.setIfInBounds_toArray,List.set_cons_zero,List.set_cons_succ]
      refine wpAnyH_done (by kernel_rfl) ?_ _
      go_wp2_with fail
      go_meet
      exact ⟨rfl,HB.out.drop 1⟩
  case rest=>
  obtain ⟨rfl,hcut⟩:=hcut
  have hlen: ∀ty,(Builtin.len_ #[91] ty #[.map (some mb)]).run Tryz.prog wc= .ok (goInt L.length) wc:=fun ty=>(hcut.catAt (i:=4) rfl).len Tryz.underlying91 ty wc rfl
  have hl0:(0:Int)≤(L.length:Int):=Int.natCast_nonneg _
  have hl20:(L.length:Int)<20:=by have:=HC.out.few;omega
  have n0:(0:Int)≤(next:Int):=Int.natCast_nonneg _
  have n1:(next:Int)<100:=by have:=HC.out.id;omega
  have hwr:IntKind.i64.wrap ((next:Int)+1)=(next:Int)+1:=IntWalk.i64_in _ (by omega)
  have c5:wc.cell? ⟨b1,0,none⟩=some (.pointer (some ⟨cb,0,none⟩)):=(hcut.arrCell (i:=2) rfl 0).trans rfl
  have d5:wc.cell? ⟨cb,3,none⟩=some (.map (some mb)):=(hcut.arrCell (i:=3) rfl 3).trans rfl
  have HH5:=Lib.hid hcut
  clear hcut KL HH3 HHd k1 k2 k3
  go_upto_region 10 with fail
  clear hlen c5 d5
  have KC:Hid (∀W A' ι' X' F' L1,Fs w0 W F' X' A' ι' (L1++(arr b3 (tpz ByteArray.empty 0 0 0 0 0 false 0) 31 neTp::arr b2 (stz p3 p4 p5 p6 p7) 29 neStg::arr b1 #[.pointer (some ⟨cb,0,none⟩)] 25 neCatp::catS cb F.fb next mb::catM mb L::rs))→(W.cell? ⟨b1,0,none⟩=some (.pointer (some ⟨cb,0,none⟩))∧W.cell? ⟨cb,2,none⟩=some (.int .i64 next)∧W.cell? ⟨cb,3,none⟩=some (.map (some mb)))∧W.cell? ⟨b2,0,none⟩=some (.int .i64 p3)∧W.cell? ⟨b2,1,none⟩=some (.int .i64 p4)∧W.cell? ⟨b2,2,none⟩=some (.int .i64 p5)∧W.cell? ⟨b2,3,none⟩=some (.bool p6)∧W.cell? ⟨b2,4,none⟩=some (.int .i64 p7)):=Lib.hid fun W A' ι' X' F' L1 hW=>by
    have hW:=hW.sub (List.sublist_append_right L1 _)
    exact ⟨⟨(hW.arrCell (i:=2) rfl 0).trans rfl,(hW.arrCell (i:=3) rfl 2).trans rfl,(hW.arrCell (i:=3) rfl 3).trans rfl⟩,(hW.arrCell (i:=1) rfl 0).trans rfl,(hW.arrCell (i:=1) rfl 1).trans rfl,(hW.arrCell (i:=1) rfl 2).trans rfl,(hW.arrCell (i:=1) rfl 3).trans rfl,(hW.arrCell (i:=1) rfl 4).trans rfl⟩
  have HH5d:=Lib.hid (HH5.out.frm (Frm.refl NoB wc).drew)
  refine wp_region_held_drew (S:=(fun y=>(y.cell? ⟨b1,0,none⟩=some (.pointer (some ⟨cb,0,none⟩))∧y.cell? ⟨cb,2,none⟩=some (.int .i64 next)∧y.cell? ⟨cb,3,none⟩=some (.map (some mb)))∧y.cell? ⟨b2,0,none⟩=some (.int .i64 p3)∧y.cell? ⟨b2,1,none⟩=some (.int .i64 p4)∧y.cell? ⟨b2,2,none⟩=some (.int .i64 p5)∧y.cell? ⟨b2,3,none⟩=some (.bool p6)∧y.cell? ⟨b2,4,none⟩=some (.int .i64 p7))) (by kernel_rfl) (KC.out _ _ _ _ _ [] HH5d.out) (fun hHeld=>?_)
  refine wpAnyH_take (i:=0) (v:=?v0_16) rfl (by kernel_rfl) (by kernel_rfl) (by kernel_rfl) (fun _ _ _ h=>h) (Or.inl ⟨by rfl,?hy0_16⟩) (by assumption) ?rest0_16
  case hy0_16=>(intro w hSw;(try dsimp only at hSw);go_simp;(try with_reducible rfl))
  try simp only [Act.put,List.setIfInBounds_toArray,List.set_cons_zero,List.set_cons_succ]
  refine wpAnyH_take (i:=1) (v:=?v1_17) rfl (by kernel_rfl) (by kernel_rfl) (by kernel_rfl) (fun _ _ _ h=>h) (Or.inl ⟨by rfl,?hy1_17⟩) (by assumption) ?rest1_17
  case hy1_17=>(intro w hSw;(try dsimp only at hSw);go_simp;(try with_reducible rfl))
  try simp only [Act.put,List.setIfInBounds_toArray,List.set_cons_zero,List.set_cons_succ]
  refine wpAnyH_take (i:=2) (v:=?v2_18) rfl (by kernel_rfl) (by kernel_rfl) (by kernel_rfl) (fun _ _ _ h=>h) (Or.inl ⟨by rfl,?hy2_18⟩) (by assumption) ?rest2_18
  case hy2_18=>(intro w hSw;(try dsimp only at hSw);go_simp;(try with_reducible rfl))
  try simp only [Act.put,List.setIfInBounds_toArray,List.set_cons_zero,List.set_cons_succ]
  refine wpAnyH_take (i:=3) (v:=?v3_19) rfl (by kernel_rfl) (by kernel_rfl) (by kernel_rfl) (fun _ _ _ h=>h) (Or.inl ⟨by rfl,?hy3_19⟩) (by assumption) ?rest3_19
  case hy3_19=>(intro w hSw;(try dsimp only at hSw);go_simp;(try with_reducible rfl))
  try simp only [Act.put,List.setIfInBounds_toArray,List.set_cons_zero,List.set_cons_succ]
  refine wpAnyH_take (i:=4) (v:=?v4_20) rfl (by kernel_rfl) (by kernel_rfl) (by kernel_rfl) (fun _ _ _ h=>h) (Or.inl ⟨by rfl,?hy4_20⟩) (by assumption) ?rest4_20
  case hy4_20=>(intro w hSw;(try dsimp only at hSw);go_simp;(try with_reducible rfl))
  try simp only [Act.put,List.setIfInBounds_toArray,List.set_cons_zero,List.set_cons_succ]
  refine wpAnyH_take (i:=5) (v:=?v5_21) rfl (by kernel_rfl) (by kernel_rfl) (by kernel_rfl) (fun _ _ _ h=>h) (Or.inl ⟨by rfl,?hy5_21⟩) (by assumption) ?rest5_21
  case hy5_21=>(intro w hSw;(try dsimp only at hSw);go_simp;(try with_reducible rfl))
  try simp only [Act.put,List.setIfInBounds_toArray,List.set_cons_zero,List.set_cons_succ]
  refine wpAnyH_take (i:=6) (v:=?v6_22) rfl (by kernel_rfl) (by kernel_rfl) (by kernel_rfl) (fun _ _ _ h=>h) (Or.inl ⟨by rfl,?hy6_22⟩) (by assumption) ?rest6_22
  case hy6_22=>(intro w hSw;(try dsimp only at hSw);go_simp;(try with_reducible rfl))
  try simp only [Act.put,List.setIfInBounds_toArray,List.set_cons_zero,List.set_cons_succ]
  refine wpAnyH_take (i:=7) (v:=?v7_23) rfl (by kernel_rfl) (by kernel_rfl) (by kernel_rfl) (fun _ _ _ h=>h) (Or.inl ⟨by rfl,?hy7_23⟩) (by assumption) ?rest7_23
  case hy7_23=>(intro w hSw;(try dsimp only at hSw);go_simp;(try with_reducible rfl))
  change wpAnyH _ _ _ _ _ _ _ (Act.put _ (some 62) _) _
  try simp only [Act.put,List.setIfInBounds_toArray,List.set_cons_zero,List.set_cons_succ]
  refine wpAnyH_ready (rs:= [8]) (by kernel_rfl) (by simp) ?_
  refine AllReadyH.cons rfl (fun K hK=>?_) AllReadyH.nil
  go_simp
  have HA:=Lib.hid ((HH5.out.newArr (tpz ByteArray.empty 0 0 0 0 0 false 0) 31 neTp).frm (Frm.refl NoB _).drew)
  refine hK.out _ _ (KC.out _ _ _ _ _ [_] HA.out) (fun hHeld=>?_)
  clear hK K
  try simp only [Act.put,List.setIfInBounds_toArray,List.set_cons_zero,List.set_cons_succ]
  obtain ⟨wa,hwa⟩: ∃wa,(wc.alloc (.cells (tpz ByteArray.empty 0 0 0 0 0 false 0) 31 (0,0))).drew=wa:=⟨_,rfl⟩
  obtain ⟨b4,hga⟩: ∃b4,wc.heap.size=b4:=⟨_,rfl⟩
  change wpAnyH _ _ _ _ _ _ _ _ ((wc.alloc (.cells (tpz ByteArray.empty 0 0 0 0 0 false 0) 31 (0,0))).drew)
  clear hHeld
  have hHeld:=KC.out _ _ _ _ _ [_] HA.out
  rw [hwa,hga] at HA
  rw [hwa] at hHeld
  rw [hwa,hga]
  clear hwa hga
  refine wpAnyH_ready (rs:= [9]) (by kernel_rfl) (by simp) ?_
  refine AllReadyH.cons rfl (fun K hK=>?_) AllReadyH.nil
  rw [if_pos (by rfl)]
  refine wp_store_row 31 _ _ rfl b4 (tpz nm next P p3 p4 p5 p6 p7) rfl rfl _ _ (HA.out.block (i:=0) rfl) (infoTp _ _ _ _ _ _ _ _) rfl (oneTp _ _ _ _ _ _ _ _) ?_
  have HB:=Lib.hid (HA.out.setRow 0 (c':=(tpz nm next P p3 p4 p5 p6 p7)) rfl)
  refine hK.out _ _ (KC.out _ _ _ _ _ [_] HB.out) (fun hHeld=>?_)
  clear hK K
  try simp only [Act.put,List.setIfInBounds_toArray,List.set_cons_zero,List.set_cons_succ]
  refine wpAnyH_done (by kernel_rfl) ?_ _
  obtain ⟨w6,hw6⟩: ∃w6,wa.setRow b4 (tpz nm next P p3 p4 p5 p6 p7)=w6:=⟨_,rfl⟩
  rw [hw6] at HB ⊢
  clear hw6 HA HH5 HH5d hHeld
  have HCl:=Lib.hid (c_clone HB.out (j:=5) rfl)
  obtain ⟨⟨c6,-,d6⟩,-⟩:=KC.out _ _ _ _ _ [_] HB.out
  go_wp2_with fail
  refine HCl.out.mono ?_
  clear HCl c6 d6 HB
  rintro e w7 ⟨mb',rfl,h7⟩
  have HH7:=Lib.hid h7
  have HH7d:=Lib.hid (h7.frm (Frm.refl NoB w7).drew)
  clear h7
  go_upto_region 12 with fail
  have KT:Hid (∀W A' ι' X' F' L1,Fs w0 W F' X' A' ι' (L1++(arr b4 (tpz nm next P p3 p4 p5 p6 p7) 31 neTp::arr b3 (tpz ByteArray.empty 0 0 0 0 0 false 0) 31 neTp::arr b2 (stz p3 p4 p5 p6 p7) 29 neStg::arr b1 #[.pointer (some ⟨cb,0,none⟩)] 25 neCatp::catS cb F.fb next mb::catM mb L::rs))→W.cell? ⟨b4,0,none⟩=some (.string nm)∧W.cell? ⟨b4,1,none⟩=some (.int .i64 next)∧W.cell? ⟨b4,2,none⟩=some (.int .i64 P)∧W.cell? ⟨b4,3,none⟩=some (.int .i64 p3)∧W.cell? ⟨b4,4,none⟩=some (.int .i64 p4)∧W.cell? ⟨b4,5,none⟩=some (.int .i64 p5)∧W.cell? ⟨b4,6,none⟩=some (.bool p6)∧W.cell? ⟨b4,7,none⟩=some (.int .i64 p7)):=Lib.hid fun W A' ι' X' F' L1 hW=>by
    have hW:=hW.sub (List.sublist_append_right L1 _)
    exact ⟨(hW.arrCell (i:=0) rfl 0).trans rfl,(hW.arrCell (i:=0) rfl 1).trans rfl,(hW.arrCell (i:=0) rfl 2).trans rfl,(hW.arrCell (i:=0) rfl 3).trans rfl,(hW.arrCell (i:=0) rfl 4).trans rfl,(hW.arrCell (i:=0) rfl 5).trans rfl,(hW.arrCell (i:=0) rfl 6).trans rfl,(hW.arrCell (i:=0) rfl 7).trans rfl⟩
  refine wp_region_held_drew (S:=(fun y=>y.cell? ⟨b4,0,none⟩=some (.string nm)∧y.cell? ⟨b4,1,none⟩=some (.int .i64 next)∧y.cell? ⟨b4,2,none⟩=some (.int .i64 P)∧y.cell? ⟨b4,3,none⟩=some (.int .i64 p3)∧y.cell? ⟨b4,4,none⟩=some (.int .i64 p4)∧y.cell? ⟨b4,5,none⟩=some (.int .i64 p5)∧y.cell? ⟨b4,6,none⟩=some (.bool p6)∧y.cell? ⟨b4,7,none⟩=some (.int .i64 p7))) (by kernel_rfl) (KT.out _ _ _ _ _ [_] HH7d.out) (fun hHeld=>?_)
  refine wpAnyH_take (i:=0) (v:=?v0_24) rfl (by kernel_rfl) (by kernel_rfl) (by kernel_rfl) (fun _ _ _ h=>h) (Or.inl ⟨by rfl,?hy0_24⟩) (by assumption) ?rest0_24
  case hy0_24=>(intro w hSw;(try dsimp only at hSw);go_simp;(try with_reducible rfl))
  try simp only [Act.put,List.setIfInBounds_toArray,List.set_cons_zero,List.set_cons_succ]
  refine wpAnyH_take (i:=1) (v:=?v1_25) rfl (by kernel_rfl) (by kernel_rfl) (by kernel_rfl) (fun _ _ _ h=>h) (Or.inl ⟨by rfl,?hy1_25⟩) (by assumption) ?rest1_25
  case hy1_25=>(intro w hSw;(try dsimp only at hSw);go_simp;(try with_reducible rfl))
  try simp only [Act.put,List.setIfInBounds_toArray,List.set_cons_zero,List.set_cons_succ]
  refine wpAnyH_take (i:=3) (v:=?v3_26) rfl (by kernel_rfl) (by kernel_rfl) (by kernel_rfl) (fun _ _ _ h=>h) (Or.inl ⟨by rfl,?hy3_26⟩) (by assumption) ?rest3_26
  case hy3_26=>(intro w hSw;(try dsimp only at hSw);go_simp;(try with_reducible rfl))
  change wpAnyH _ _ _ _ _ _ _ (Act.put _ (some 71) _) _
  try simp only [Act.put,List.setIfInBounds_toArray,List.set_cons_zero,List.set_cons_succ]
  refine wpAnyH_ready (rs:= [2]) (by kernel_rfl) (by simp) ?_
  refine AllReadyH.cons rfl (fun K hK=>?_) AllReadyH.nil
  go_simp
  refine (KO.out _).mono ?_
  rintro e w8 ⟨rfl,hf8⟩
  go_wp2_with fail
  have HH8:=Lib.hid (HH7d.out.frm hf8)
  clear hf8
  refine hK.out _ _ (KT.out _ _ _ _ _ [_] HH8.out) (fun hHeld=>?_)
  clear hK K
  try simp only [Act.put,List.setIfInBounds_toArray,List.set_cons_zero,List.set_cons_succ]
  obtain ⟨o,hup,h9⟩:=HH8.out.catPut 0 rfl HC.out.cat (⟨nm,next,P,p3,p4,p5,p6,p7⟩:Tp) hnm50.out HP.out.1
  have hup:(Instr.mapUpdate 91 (.map (some mb')) (.agg ((keyB nm).map B8).toArray) (.agg #[.string nm,.int .i64 next,.int .i64 P,.int .i64 p3,.int .i64 p4,.int .i64 p5,.bool p6,.int .i64 p7])).run Tryz.prog w8= .ok () (setBlock w8 mb' o):=hup
  have HH9:=Lib.hid h9
  clear h9
  refine wpAnyH_ready (rs:= [4]) (by kernel_rfl) (by simp) ?_
  refine AllReadyH.cons rfl (fun K hK=>?_) AllReadyH.nil
  go_simp
  refine hK.out _ _ (KT.out _ _ _ _ _ [_] HH9.out) (fun hHeld=>?_)
  clear hK K
  try simp only [Act.put,List.setIfInBounds_toArray,List.set_cons_zero,List.set_cons_succ]
  refine wpAnyH_done (by kernel_rfl) ?_ _
  clear hup hHeld HH7 HH7d HH8
  obtain ⟨w9,hw9⟩: ∃w9,setBlock w8 mb' o=w9:=⟨_,rfl⟩
  rw [hw9] at HH9 ⊢
  clear hw9
  have HH9d:=Lib.hid (HH9.out.frm (Frm.refl NoB w9).drew)
  have KCh:Hid (∀W,Fs w0 W F X A ι (catM mb' (insT (⟨nm,next,P,p3,p4,p5,p6,p7⟩:Tp) L)::arr b4 (tpz nm next P p3 p4 p5 p6 p7) 31 neTp::arr b3 (tpz ByteArray.empty 0 0 0 0 0 false 0) 31 neTp::arr b2 (stz p3 p4 p5 p6 p7) 29 neStg::arr b1 #[.pointer (some ⟨cb,0,none⟩)] 25 neCatp::catS cb F.fb next mb::catM mb L::rs)→Calls Tryz.prog 44 #[.pointer (some ⟨cb,0,none⟩),.int .i64 ((next:Int)+1),.map (some mb'),.func (.func 45) #[] #[.pointer (some ⟨b1,0,none⟩),.pointer (some ⟨b4,0,none⟩)]] W fun e w'=>e= .returned (.int .i64 0)∧∃Y A' ι' n',Fs w0 w' { F with begun:=false,over:=false } Y A' ι' (catM mb' (insT (⟨nm,next,P,p3,p4,p5,p6,p7⟩:Tp) L)::arr b4 (tpz nm next P p3 p4 p5 p6 p7) 31 neTp::arr b3 (tpz ByteArray.empty 0 0 0 0 0 false 0) 31 neTp::arr b2 (stz p3 p4 p5 p6 p7) 29 neStg::arr b1 #[.pointer (some ⟨cb,0,none⟩)] 25 neCatp::catS cb F.fb ((next:Int)+1) mb'::catM mb L::rs)∧CrMade X Y A A' (encC next L) (encC ((next:Int)+1) (insT (⟨nm,next,P,p3,p4,p5,p6,p7⟩:Tp) L)) next n n' P):=Lib.hid fun W hW=>by
    have hsv0:=HC.out.save hW.2 HP.out.2.2.2.2.2.2 (⟨nm,next,P,p3,p4,p5,p6,p7⟩:Tp) hnm50.out ((next:Int)+1)
    refine (c_change hW HP.out.2.1 HP.out.2.2.1 HP.out.2.2.2.1 HP.out.2.2.2.2.1 HP.out.2.2.2.2.2.1 (i:=5) (j:=0) rfl rfl (HC.out.cat.ins (⟨nm,next,P,p3,p4,p5,p6,p7⟩:Tp) hnm50.out HP.out.1) (by rw [insT_length];have:=HC.out.few;omega) hsv0.1 entCreate1 (K:=fun X' A' ι'=> ∃X1 C1 C' n',Saved X.open' X1 (heldM X ι) C1 (encC next L) (encC ((next:Int)+1) (insT (⟨nm,next,P,p3,p4,p5,p6,p7⟩:Tp) L))∧Fold X1 X' (setT A [cN,lsN] (some (.file (encC ((next:Int)+1) (insT (⟨nm,next,P,p3,p4,p5,p6,p7⟩:Tp) L))))) ι A' ι' C1 C' next n n' P) (fun y X1 C1 rs' hy hsv=>?_)).mono ?_
    · have hx1:=hsv.goes.wr
      refine (c_Create1 hy (Tx.wr (X:=X.open') ⟨rfl,rfl,HP.out.2.2.1,rfl,rfl⟩ hx1) (i0:=rs'.length+5) (i1:=rs'.length+4) (i2:=rs'.length+1) ((app_get rs' _ 5).trans rfl) (HC.out.fold hW.2 HP.out.2.2.2.2.2.2 (⟨nm,next,P,p3,p4,p5,p6,p7⟩:Tp) hnm50.out ((next:Int)+1) hsv) nm p3 p4 p5 p6 p7 ((app_get rs' _ 4).trans rfl) ((app_get rs' _ 1).trans rfl) HSz.out.1 HSz.out.2.1 HSz.out.2.2.1 HSz.out.2.2.2).mono ?_
      rintro e w' ⟨rfl,X',A',ι',C',n',h',hf⟩
      exact ⟨rfl,X',A',ι',h',by rw [hf.goes.wr,hx1];rfl,X1,C1,C',n',hsv,hf⟩
    · rintro e w' ⟨rfl,X',A',ι',Y,h2,hcm,hx,X1,C1,C',n',hsv,hf⟩
      exact ⟨rfl,Y,A',ι',n',h2,crMade HC.out.tree hsv hf hx hcm⟩
  clear KO HSz HP HC
  obtain ⟨⟨k1,k2,-⟩,-⟩:=KC.out _ _ _ _ _ [_,_] HH9.out
  go_upto_region 13 with fail
  have hnx:(w9.drew).cell? ⟨cb,2,none⟩=some (.int .i64 next):=(KC.out _ _ _ _ _ [_,_] HH9d.out).1.2.1
  refine wp_region_held_drew (S:=(fun y=>y.cell? ⟨b1,0,none⟩=some (.pointer (some ⟨cb,0,none⟩)))) (by kernel_rfl) (KC.out _ _ _ _ _ [_,_] HH9d.out).1.1 (fun hHeld=>?_)
  refine wpAnyH_take (i:=0) (v:=?v0_27) rfl (by kernel_rfl) (by kernel_rfl) (by kernel_rfl) (fun _ _ _ h=>h) (Or.inl ⟨by rfl,?hy0_27⟩) (by assumption) ?rest0_27
  case hy0_27=>(intro w hSw;(try dsimp only at hSw);go_simp;(try with_reducible rfl))
  try simp only [Act.put,List.setIfInBounds_toArray,List.set_cons_zero,List.set_cons_succ]
  refine wpAnyH_take (i:=1) (v:=?v1_28) rfl (by kernel_rfl) (by kernel_rfl) (by kernel_rfl) (fun _ _ _ h=>h) (Or.inl ⟨by rfl,?hy1_28⟩) (by assumption) ?rest1_28
  case hy1_28=>(intro w hSw;(try dsimp only at hSw);go_simp;(try with_reducible rfl))
  try simp only [Act.put,List.setIfInBounds_toArray,List.set_cons_zero,List.set_cons_succ]
  refine wpAnyH_take (i:=2) (v:=?v2_29) rfl (by kernel_rfl) (by kernel_rfl) (by kernel_rfl) (fun _ _ _ h=>h) (Or.inl ⟨by rfl,?hy2_29⟩) (by assumption) ?rest2_29
  case hy2_29=>(intro w hSw;(try dsimp only at hSw);go_simp;(try with_reducible rfl))
  try simp only [Act.put,List.setIfInBounds_toArray,List.set_cons_zero,List.set_cons_succ]
  refine wpAnyH_take (i:=3) (v:=?v3_30) rfl (by kernel_rfl) (by kernel_rfl) (by kernel_rfl) (fun _ _ _ h=>h) (Or.inl ⟨by rfl,?hy3_30⟩) (by assumption) ?rest3_30
  case hy3_30=>(intro w hSw;(try dsimp only at hSw);go_simp;(try with_reducible rfl))
  try simp only [Act.put,List.setIfInBounds_toArray,List.set_cons_zero,List.set_cons_succ]
  refine wpAnyH_take (i:=6) (v:=?v6_31) rfl (by kernel_rfl) (by kernel_rfl) (by kernel_rfl) (fun _ _ _ h=>h) (Or.inl ⟨by rfl,?hy6_31⟩) (by assumption) ?rest6_31
  case hy6_31=>(intro w hSw;(try dsimp only at hSw);go_simp;(try with_reducible rfl))
  try simp only [Act.put,List.setIfInBounds_toArray,List.set_cons_zero,List.set_cons_succ]
  refine wpAnyH_take (i:=7) (v:=?v7_32) rfl (by kernel_rfl) (by kernel_rfl) (by kernel_rfl) (fun _ _ _ h=>h) (Or.inl ⟨by rfl,?hy7_32⟩) (by assumption) ?rest7_32
  case hy7_32=>(intro w hSw;(try dsimp only at hSw);go_simp;(try with_reducible rfl))
  change wpAnyH _ _ _ _ _ _ _ (Act.put _ (some 79) _) _
  try simp only [Act.put,List.setIfInBounds_toArray,List.set_cons_zero,List.set_cons_succ]
  refine wpAnyH_ready (rs:= [4]) (by kernel_rfl) (by simp) ?_
  refine AllReadyH.cons rfl (fun K hK=>?_) AllReadyH.nil
  go_simp
  refine hK.out _ _ ((KC.out _ _ _ _ _ [_,_] HH9d.out).1.1) (fun hHeld=>?_)
  clear hK K
  try simp only [Act.put,List.setIfInBounds_toArray,List.set_cons_zero,List.set_cons_succ]
  refine wpAnyH_take (i:=5) (v:=?v5_33) rfl (by kernel_rfl) (by kernel_rfl) (by kernel_rfl) (fun _ _ _ h=>h) (Or.inl ⟨by rfl,?hy5_33⟩) (by assumption) ?rest5_33
  case hy5_33=>(intro w hSw;(try dsimp only at hSw);go_simp;(try with_reducible rfl))
  change wpAnyH _ _ _ _ _ _ _ (Act.put _ (some 77) _) _
  try simp only [Act.put,List.setIfInBounds_toArray,List.set_cons_zero,List.set_cons_succ]
  refine wpAnyH_ready (rs:= [8]) (by kernel_rfl) (by simp) ?_
  refine AllReadyH.cons rfl (fun K hK=>?_) AllReadyH.nil
  go_simp
  refine (KCh.out _ HH9d.out).mono ?_
  rintro e w10 ⟨rfl,Y,A',ι',n',h10,hmd⟩
  go_wp2_with fail
  have HL:=Lib.hid (h10.block (i:=1) rfl)
  have HS:=Lib.hid (h10.block (i:=2) rfl)
  have HX:=Lib.hid (h10.setRow 2 (c':=(tpz nm next P p3 p4 p5 p6 p7)) rfl)
  have HMD:=Lib.hid hmd
  have hb1c:w10.cell? ⟨b1,0,none⟩=some (.pointer (some ⟨cb,0,none⟩)):=(h10.arrCell (i:=4) rfl 0).trans rfl
  clear h10 hmd
  refine hK.out _ _ (hb1c) (fun hHeld=>?_)
  clear hK K
  try simp only [Act.put,List.setIfInBounds_toArray,List.set_cons_zero,List.set_cons_succ]
  refine wpAnyH_take (i:=9) (v:=?v9_34) rfl (by kernel_rfl) (by kernel_rfl) (by kernel_rfl) (fun _ _ _ h=>h) (Or.inl ⟨by rfl,?hy9_34⟩) (by assumption) ?rest9_34
  case hy9_34=>(intro w hSw;(try dsimp only at hSw);go_simp;(try with_reducible rfl))
  change wpAnyH _ _ _ _ _ _ _ (Act.put _ (some 14) _) _
  try simp only [Act.put,List.setIfInBounds_toArray,List.set_cons_zero,List.set_cons_succ]
  refine wpAnyH_done (by kernel_rfl) ?_ _
  clear hHeld hb1c KC KT KCh HH9 HH9d hnx k1 k2
  go_wp2_with (first | (refine loadTp rfl _ rfl b4 rfl nm next P p3 p4 p5 p6 p7 HL.out ?_) | (refine storeTp rfl _ _ rfl b3 nm next P p3 p4 p5 p6 p7 rfl rfl _ rfl HS.out ?_))
  have hld:=run_loadVar_row (P:=Tryz.prog) _ b3 31 31 (tpz nm next P p3 p4 p5 p6 p7) (0,0) _ (HX.out.block (i:=2) rfl) Tryz.underlying31 rfl (infoTp _ _ _ _ _ _ _ _)
  (try simp only [Exit.inBlock,Exit.then])
  refine bodyPost_ret (v:= .tuple #[.agg (tpz nm next P p3 p4 p5 p6 p7),.int .i64 0]) (results_ct Tryz.results11 _ _ ⟨b3,0,none⟩ rfl _ hld) rfl ⟨rfl,Y,A',ι',n',mb',?_,HMD.out⟩
  have hx:=HX.out
  refine (hx.sub (rs':=catM mb' (insT (⟨nm,next,P,p3,p4,p5,p6,p7⟩:Tp) L)::catS cb F.fb ((next:Int)+1) mb'::rs) ?_).perm2 (List.Perm.swap _ _ _)
  exact List.Sublist.cons_cons _ (List.Sublist.cons _ (List.Sublist.cons _ (List.Sublist.cons _ (List.Sublist.cons _ (List.Sublist.cons_cons _ (List.Sublist.cons _ (List.Sublist.refl _)))))))
theorem Fs.perm (h:Fs w0 w F X A ι rs) {rs':List Res} (hp:rs.Perm rs'):Fs w0 w F X A ι rs':=by
  obtain ⟨⟨k,l,ha,hl⟩,hr⟩:=h
  exact ⟨⟨k,l,ha.perm ((hp.cons _).cons _),hl⟩,hr⟩
theorem entDelete1:EntersF Tryz.prog 48:=entersF_of Tryz.func48 (by kernel_rfl) rfl
theorem c_Delete1 (w:World):Calls Tryz.prog 48 #[] w fun e w'=>e= .returned (.int .i64 0)∧w'=w:=by
  go_enter Tryz.func48,Tryz.ntmps48
  go_wp2
  go_ret
  exact ⟨rfl,rfl⟩
set_option maxHeartbeats 1000000 in
set_option maxRecDepth 100000 in
theorem c_DeleteNo (h:Fs w0 w F X A ι rs) {cb mb i j:Nat} {next:Int} {L:List Tp} (hr:rs[i]?=some (catS cb F.fb next mb)) (hr2:rs[j]?=some (catM mb L)) (hL:CatL L) {nm:ByteArray} (hn:nm.size≤50) (hN:Named nm true) (hno: ∀x∈L,x.nm≠nm):
    Calls Tryz.prog 15 #[.pointer (some ⟨cb,0,none⟩),.string nm] w fun e w'=>e= .returned (.int .i64 4)∧Fs w0 w' F X A ι rs:=by
  have HR:=Lib.hid (c_ready h hr)
  have hq:mapL L (keyB nm)=none:=by
    cases hq:mapL L (keyB nm) with
    | none=>rfl
    | some t=>
      have h1:=(hL.map_iff _ _).1 hq
      exact absurd (keyB_inj _ _ hn (hL.nm t h1.1) h1.2).symm (hno t h1.1)
  have HF:=Lib.hid (c_Find h hr hr2 hn hN hq)
  clear h hr hr2 hL hN hno hq
  go_enter Tryz.func15,Tryz.ntmps15
  go_wp2_with fail
  refine HR.out.mono ?_
  clear HR
  rintro e w2 ⟨rfl,rfl⟩
  go_wp2_with fail
  refine HF.out.mono ?_
  clear HF
  rintro e w3 ⟨rfl,h3⟩
  have HK0:=Lib.hid (block_alloc_new w3 (.cells (tpz ByteArray.empty 0 0 0 0 0 false 0) 31 (0,0)))
  have H3:=Lib.hid (h3.frm (((Frm.refl NoB w3).alloc (.cells (tpz ByteArray.empty 0 0 0 0 0 false 0) 31 (0,0))).setRowNew (Nat.le_refl _) (tpz ByteArray.empty 0 0 0 0 0 false 0)))
  clear h3
  unfold findT
  go_upto_region 4 with (first | (refine allocRow rfl _ _ zeroTp rfl ?_) | (refine storeTp rfl _ _ rfl w3.heap.size ByteArray.empty 0 0 0 0 0 false 0 rfl rfl _ rfl HK0.out ?_))
  clear HK0
  go_wp2_with fail
  go_ret
  exact ⟨rfl,H3.out⟩
set_option maxHeartbeats 1000000 in
set_option maxRecDepth 100000 in
theorem c_Delete {cb mb n next used ops:Nat} {L:List Tp} {D:List ByteArray} (h:Fs w0 w F X A ι (catS cb F.fb next mb::catM mb L::rs)) (hc:Calm F X) (hR:Roomy X A next used ops n L D) (hm:X.m<1000000) {t:Tp} (ht:t∈L) (hN:Named t.nm true):
    Calls Tryz.prog 15 #[.pointer (some ⟨cb,0,none⟩),.string t.nm] w fun e w'=>e= .returned (.int .i64 0)∧∃Y A' mb',Fs w0 w' { F with begun:=false,over:=false } Y A' ι (catS cb F.fb next mb'::catM mb' (delT t.nm L)::rs)∧Gone X Y A A' (encC next L) (encC next (delT t.nm L)):=by
  have HR:=Lib.hid (c_ready h (i:=0) rfl)
  have hn:t.nm.size≤50:=hR.cat.nm t ht
  have HF:=Lib.hid (c_Find h (i:=0) (j:=1) rfl rfl hn hN ((hR.cat.map_iff _ _).2 ⟨ht,rfl⟩))
  have KDel:Hid (∀z mb',Fs w0 z F X A ι (catM mb' L::catS cb F.fb next mb::catM mb L::rs)→∃o,(∀ty,(Builtin.delete_ #[91,95] ty #[.map (some mb'),.agg ((keyB t.nm).map B8).toArray]).run Tryz.prog z= .ok (.tuple #[]) (setBlock z mb' o))∧Fs w0 (setBlock z mb' o) F X A ι (catM mb' (delT t.nm L)::catS cb F.fb next mb::catM mb L::rs)):=Lib.hid fun z mb' hz=>hz.catDel 0 rfl hR.cat ht
  have KCh:Hid (∀z mb',Fs w0 z F X A ι (catM mb' (delT t.nm L)::catS cb F.fb next mb::catM mb L::rs)→Calls Tryz.prog 44 #[.pointer (some ⟨cb,0,none⟩),.int .i64 next,.map (some mb'),.func (.func 48) #[] #[]] z fun e w'=>e= .returned (.int .i64 0)∧∃Y A',Fs w0 w' { F with begun:=false,over:=false } Y A' ι (catS cb F.fb next mb'::catM mb' (delT t.nm L)::rs)∧Gone X Y A A' (encC next L) (encC next (delT t.nm L))):=Lib.hid fun z mb' hz=>by
    have hlen:(delT t.nm L).length≤20:=Nat.le_trans (List.length_filter_le _ _) hR.few
    refine (c_change hz hc.b hc.d hc.op hc.lim hm (i:=1) (j:=0) rfl rfl (hR.cat.del t.nm) hlen (hR.saveDel hz.2 hc.l t.nm) entDelete1 (K:=fun X' A' ι'=>(∃C1,Saved X.open' X' (X.P.bm::heldL X (ι [cN,lsN])) C1 (encC next L) (encC next (delT t.nm L)))∧A'=setT A [cN,lsN] (some (.file (encC next (delT t.nm L))))∧ι'=ι) (fun y X1 C1 rs' hy hsv=>?_)).mono ?_
    · refine (c_Delete1 y).mono ?_
      rintro e w' ⟨rfl,rfl⟩
      exact ⟨rfl,X1,_,ι,hy,hsv.goes.wr,⟨C1,hsv⟩,rfl,rfl⟩
    · rintro e w' ⟨rfl,X',A',ι',Y,h2,hcm,hx,⟨C1,hsv⟩,hA,rfl⟩
      refine ⟨rfl,Y,A',?_,gone hsv hA hx hcm⟩
      have h3:Fs w0 w' { F with begun:=false,over:=false } Y A' ι' (catM mb' (delT t.nm L)::catS cb F.fb next mb'::catM mb L::rs):=h2
      exact (h3.perm (List.Perm.swap _ _ _)).sub (((List.Sublist.refl rs).cons (catM mb L)).cons_cons _ |>.cons_cons _)
  have HH:=Lib.hid h
  have hnn:=Lib.hid hn
  clear h hc hR hm ht hN hn
  obtain ⟨nm,q1,q2,q3,q4,q5,q6,q7⟩:=t
  go_enter Tryz.func15,Tryz.ntmps15
  go_wp2_with fail
  refine HR.out.mono ?_
  clear HR
  rintro e w2 ⟨rfl,rfl⟩
  go_wp2_with fail
  refine HF.out.mono ?_
  clear HF
  rintro e w3 ⟨rfl,h3⟩
  have HK0:=Lib.hid (block_alloc_new w3 (.cells (tpz ByteArray.empty 0 0 0 0 0 false 0) 31 (0,0)))
  have H3:=Lib.hid (h3.frm (((Frm.refl NoB w3).alloc (.cells (tpz ByteArray.empty 0 0 0 0 0 false 0) 31 (0,0))).setRowNew (Nat.le_refl _) (tpz nm q1 q2 q3 q4 q5 q6 q7)))
  clear h3 HH
  dsimp only [findT,Tp.cells]
  go_upto_region 4 with (first | (refine allocRow rfl _ _ zeroTp rfl ?_) | (refine storeTp rfl _ _ rfl w3.heap.size nm q1 q2 q3 q4 q5 q6 q7 rfl rfl _ rfl HK0.out ?_))
  clear HK0
  obtain ⟨w4,hw4⟩: ∃w4,(w3.alloc (.cells (tpz ByteArray.empty 0 0 0 0 0 false 0) 31 (0,0))).setRow w3.heap.size (tpz nm q1 q2 q3 q4 q5 q6 q7)=w4:=⟨_,rfl⟩
  show Code.wp Tryz.prog _ _ _ ((w3.alloc (.cells (tpz ByteArray.empty 0 0 0 0 0 false 0) 31 (0,0))).setRow w3.heap.size (tpz nm q1 q2 q3 q4 q5 q6 q7))
  rw [hw4] at H3 ⊢
  have c3:w4.cell? ⟨cb,3,none⟩=some (.map (some mb)):=(H3.out.arrCell (i:=0) rfl 3).trans rfl
  have HCl:=Lib.hid (c_clone H3.out (j:=1) rfl)
  clear hw4 H3
  go_wp2_with fail
  refine HCl.out.mono ?_
  clear HCl c3
  rintro e w5 ⟨mb',rfl,h5⟩
  have KO:=Lib.hid (c_of w5 nm hnn.out)
  have H5:=Lib.hid h5
  clear h5
  go_wp2_with fail
  refine KO.out.mono ?_
  clear KO
  rintro e w6 ⟨rfl,hf6⟩
  obtain ⟨o,hdel0,h7⟩:=KDel.out w6 mb' (H5.out.frm hf6)
  have hdel: ∀ty,(Builtin.delete_ #[91,95] ty #[.map (some mb'),.agg (keyC nm)]).run Tryz.prog w6= .ok (.tuple #[]) (setBlock w6 mb' o):=hdel0
  clear hdel0
  have d2:(setBlock w6 mb' o).cell? ⟨cb,2,none⟩=some (.int .i64 next):=(h7.arrCell (i:=1) rfl 2).trans rfl
  have HCh:=Lib.hid (KCh.out _ _ h7)
  clear h7 hf6 H5 KDel KCh
  go_wp2_with fail
  refine HCh.out.mono ?_
  clear HCh hdel d2
  rintro e w8 ⟨rfl,Y,A',h8,hg⟩
  have H8:=Lib.hid (And.intro h8 hg)
  clear h8 hg
  go_wp2
  go_ret
  exact ⟨rfl,Y,A',mb',H8.out.1,H8.out.2⟩
set_option maxRecDepth 100000 in
theorem c_List (h:Fs w0 w F X A ι rs) {cb mb i j:Nat} {next:Int} {L:List Tp} (hr:rs[i]?=some (catS cb F.fb next mb)) (hr2:rs[j]?=some (catM mb L)) (hL:CatL L) (hlen:L.length≤20):
    Calls Tryz.prog 14 #[.pointer (some ⟨cb,0,none⟩)] w fun e w'=> ∃v,e= .returned v∧w'.ownsRow w.heap.size 31 8 v L.length (tpsC L)∧Frm NoB w w':=by
  have c3:w.cell? ⟨cb,3,none⟩=some (.map (some mb)):=(h.arrCell hr 3).trans rfl
  have HS:=Lib.hid (c_sorted w mb hL (by omega) (h.catAt hr2))
  clear h hr hr2 hL hlen
  go_enter Tryz.func14,Tryz.ntmps14
  go_wp2_with fail
  refine HS.out.mono ?_
  clear HS
  rintro e w2 ⟨v,rfl,hv,hf⟩
  have HV:=Lib.hid (And.intro hv hf)
  clear hv hf
  go_wp2
  go_ret
  exact ⟨v,rfl,HV.out⟩
end
section
open Go.ChangeMaps Go.MapKept Go.RowKit
theorem zeroStz (W:World):(zeroValue 29).run Tryz.prog W= .ok (.agg (stz 0 0 0 false 0)) W:=by kernel_rfl
theorem infoStz (a b c:Int) (d:Bool) (e:Int):(Tryz.prog.info? 29).map (·.size)=some (stz a b c d e).size:=by kernel_rfl
theorem oneStz (a b c:Int) (d:Bool) (e:Int):((stz a b c d e).all fun x=>x.oneCell')=true:=by simp [stz,Value.oneCell']
theorem storeStz {ops:Array Oper} {rest:List Oper} {o:Oper} {a:Act} {w:World} {Q:Exit→Act→World→Prop} (hgd:o.guard=none) (x y:Operand) (ho:o.op= .store 29 x y) (g:Nat) (p1 p2 p3:Int) (p4:Bool) (p5:Int) (hx:a.eval x= .pointer (some ⟨g,0,none⟩)) (hy:a.eval y= .agg (stz p1 p2 p3 p4 p5)) (old:Array Value) (hold:old.size=5)
    (hg:w.heap[g]?=some (.cells old 29 (0,0))) (h:wpList Tryz.prog ops Q rest (a.put o.dst undef) (w.setRow g (stz p1 p2 p3 p4 p5))):wpList Tryz.prog ops Q (o::rest) a w:=
  wpList_store_row hgd _ x y ho g (stz p1 p2 p3 p4 p5) hx hy _ old hg (infoStz _ _ _ _ _) (by rw [hold];rfl) (oneStz _ _ _ _ _) h
set_option maxRecDepth 100000 in
theorem p_plain (w:World):Calls Tryz.prog 13 #[] w fun e w'=>e= .returned (.agg (stz 600 (-1) (-1) false 0))∧Frm NoB w w':=by
  have HK0:=Lib.hid (block_alloc_new w (.cells (stz 0 0 0 false 0) 29 (0,0)))
  go_enter Tryz.func13,Tryz.ntmps13
  go_upto_region 1 with (refine allocRow rfl _ _ zeroStz rfl ?_)
  go_wp2_with (refine storeStz rfl _ _ rfl w.heap.size 600 (-1) (-1) false 0 rfl rfl _ rfl HK0.out ?_)
  have hb2:=setRow_heap _ _ _ (stz 600 (-1) (-1) false 0) _ _ HK0.out
  have hld:=run_loadVar_row (P:=Tryz.prog) _ w.heap.size 29 29 (stz 600 (-1) (-1) false 0) (0,0) _ hb2 Tryz.underlying29 rfl (infoStz _ _ _ _ _)
  (try simp only [Exit.inBlock,Exit.then])
  exact bodyPost_ret (v:= .agg (stz 600 (-1) (-1) false 0)) (results_c1 Tryz.results13 _ _ ⟨w.heap.size,0,none⟩ rfl _ hld) rfl ⟨rfl,((Frm.refl NoB w).alloc _).setRowNew (Nat.le_refl _) _⟩
end
section
open Go.ChangeMaps Go.MapKept Go.RowKit
variable {w0:Gnd} {w:World} {rs:List Res} {fb cb next used ops:Nat} {L:List Tp}
theorem CatI.st (h:CatI w0 w fb cb next used ops L rs):St w0 w rs:=by
  obtain ⟨F,X,A,ι,mb,n,D,h1,⟨⟨k,l,ha,-⟩,-⟩,h3,h4⟩:=h
  exact ha.1.drop 5
structure SetOk (p3 p4 p5 p7:Int):Prop where
  h1:512≤p3∧p3≤8192
  h2: -1≤p4∧p4≤1099511627776
  h3: -1≤p5∧p5≤1125899906842624
  h4:0≤p7∧p7≤1125899906842624
end
end Go.Proofs.YtlemndledcmhiaaGreatDoor
