/-
  The catalog, from the device up, part 15.
-/
import Derived.Test.YtlemndledcmhiaaGreatDoorU14
import Derived.Shelf.SlIterI.Collect
import Derived.RangeFuncNested
import Derived.Shelf.SlSortCmp.NoneTotal
namespace Go.Proofs.YtlemndledcmhiaaGreatDoor
set_option linter.unusedVariables false
set_option linter.unusedSimpArgs false
section
open Go.ChangeMaps Go.MapKept Go.RowKit
theorem loadCKey {ops:Array Oper} {rest:List Oper} {o:Oper} {a:Act} {w:World} {Q:Exit→Act→World→Prop} (hw:Region.wanted o (yielded ops a.tmps)=true) (x:Operand) (ho:o.op= .load 95 x) (g:Nat) (hx:a.eval x= .pointer (some ⟨g,0,none⟩)) (c:Array Value) (hc:c.size=51)
    (hg:w.heap[g]?=some (.cells c 95 (0,0))) (h:wpList Tryz.prog ops Q rest (a.put o.dst (.agg c)) w):wpList Tryz.prog ops Q (o::rest) a w:=
  BigFrame.wpList_want hw fun K hK=>wp_load_row _ x ho g hx _ c _ _ hg Tryz.underlying95 rfl (infoCKey c hc) (hK _ _ h)
theorem storeCKey {ops:Array Oper} {rest:List Oper} {o:Oper} {a:Act} {w:World} {Q:Exit→Act→World→Prop} (hgd:o.guard=none) (x y:Operand) (ho:o.op= .store 95 x y) (g:Nat) (b:Blk) (hb:b.length=51) (hx:a.eval x= .pointer (some ⟨g,0,none⟩)) (hy:a.eval y= .agg (b.map B8).toArray) (old:Array Value) (hold:old.size=51)
    (hg:w.heap[g]?=some (.cells old 95 (0,0))) (h:wpList Tryz.prog ops Q rest (a.put o.dst undef) (w.setRow g (b.map B8).toArray)):wpList Tryz.prog ops Q (o::rest) a w:=
  wpList_store_row hgd _ x y ho g (b.map B8).toArray hx hy _ old hg (infoCKey _ (by simp [hb])) (by rw [hold];simp [hb]) (oneB8 b) h
set_option maxRecDepth 100000 in
theorem c_of (w:World) (s:ByteArray) (hs:s.size≤50):
    Calls Tryz.prog 42 #[.string s] w fun e w'=>e= .returned (.agg (keyC s))∧Frm NoB w w':=by
  obtain ⟨g,hg⟩: ∃g,w.heap.size=g:=⟨_,rfl⟩
  have hb0:=block_alloc_new w (.cells kc0 95 (0,0))
  have hf0:=(Frm.refl NoB w).alloc (.cells kc0 95 (0,0))
  obtain ⟨y,hy⟩: ∃y,w.alloc (.cells kc0 95 (0,0))=y:=⟨_,rfl⟩
  have HG:=Lib.hid hg
  rw [hy,hg] at hb0
  rw [hy] at hf0
  have d0:y.cell? ⟨g,0,none⟩=some (.int .u8 0):=(cell_of_block hb0).trans rfl
  have f0:y.frozen? ⟨g,0,none⟩=false:=frozen_of_block hb0
  have hb1:=block_setCell_same (i:=0) (.int .u8 (s.size:Nat)) hb0
  have hf1:Frm NoB w (y.setCell ⟨g,0,none⟩ (.int .u8 (s.size:Nat))):=hf0.setCell (.inr (by rw [←hg];exact Nat.le_refl _)) _
  obtain ⟨y1,hy1⟩: ∃y1,y.setCell ⟨g,0,none⟩ (.int .u8 (s.size:Nat))=y1:=⟨_,rfl⟩
  rw [hy1] at hb1 hf1
  have hcp:=fun ty c=>Lib.run_copy_row_string (P:=Tryz.prog) y1 76 9 ty 5 g 1 50 c s _ 95 Tryz.underlying76 (by kernel_rfl) hb1 hs (by rw [Array.size_setIfInBounds];show 1+s.size≤51;omega)
  rw [key_cells s hs] at hcp
  have hsz:(keyC s).size=51:=by unfold keyC;simp [keyB_length s hs]
  have hb2:=setRow_heap y1 g _ (keyC s) _ _ hb1
  have hf2:Frm NoB w (y1.setRow g (keyC s)):=hf1.setRowNew (by rw [hg];exact Nat.le_refl _) _
  have hs0:(0:Int)≤((s.size:Nat):Int):=Int.natCast_nonneg _
  have hs1:((s.size:Nat):Int)≤50:=by omega
  have HY:=Lib.hid (And.intro hy hy1)
  have HB2:=Lib.hid hb2
  have HF2:=Lib.hid hf2
  have HSZ:=Lib.hid hsz
  clear hb0 hf0 hb1 hf1 hb2 hf2 hsz hy hy1 hg
  go_enter Tryz.func42,Tryz.ntmps42
  go_upto_region 1 with (refine allocRow rfl _ _ zeroCKey rfl ?_)
  rw [HY.out.1,HG.out]
  go_upto_region 2 with fail
  rw [HY.out.2]
  clear d0 f0
  go_upto_region 3 with fail
  have HB3:=Lib.hid (setRow_heap (y1.setRow g (keyC s)) g _ (keyC s) _ _ HB2.out)
  have HF3:=Lib.hid (HF2.out.setRowNew (by rw [HG.out];exact Nat.le_refl _) (keyC s))
  go_wp2_with (first | (refine loadCKey rfl _ rfl g rfl _ HSZ.out HB2.out ?_) | (refine storeCKey rfl _ _ rfl g (keyB s) (keyB_length s hs) rfl rfl _ HSZ.out HB2.out ?_))
  have hld:=run_loadVar_row (P:=Tryz.prog) ((y1.setRow g (keyC s)).setRow g (keyC s)) g 95 95 (keyC s) (0,0) _ HB3.out Tryz.underlying95 rfl (infoCKey _ HSZ.out)
  exact bodyPost_ret (v:= .agg (keyC s)) (results_c1 Tryz.results42 _ _ ⟨g,0,none⟩ rfl _ hld) rfl ⟨rfl,HF3.out⟩
theorem keyTyCKey:Tryz.prog.keyType 95=true:=by kernel_rfl
theorem cellsCKey:Tryz.prog.cellsOf 95=51:=by kernel_rfl
theorem keyOf_ckey (b:Blk) (h:okK b): ∃l,keyOf Tryz.prog 95 (KeyK b)=some l:=by
  obtain ⟨d,hd⟩:=typesSz
  have hl:b.length=51:=h
  unfold keyOf KeyK
  simp only [Tryz.underlying95]
  rw [if_pos (by simp [keyTyCKey,Value.formed,Tryz.underlying95,cellsCKey,hl]),hd]
  unfold Program.keyLits
  simp only [Tryz.underlying95,Value.cells]
  rw [if_pos (by rw [cellsCKey];simp [hl])]
  obtain ⟨ys,hys⟩:=mapM_all (fun i=>Tryz.prog.keyLits (d+1) 5 (((b.map B8).toArray.toList.drop (i*Tryz.prog.cellsOf 5)).take (Tryz.prog.cellsOf 5))) (List.range 51) fun i hi=>by
    have hi:=List.mem_range.1 hi
    rw [cellsU8,Nat.mul_one]
    refine ⟨[.int .u8 ((b[i]'(by omega)).toNat:Int)],?_⟩
    have e:((b.map B8).drop i).take 1= [B8 (b[i]'(by omega))]:=by
      rw [List.drop_eq_getElem_cons (by rw [List.length_map];omega)]
      simp
    rw [e]
    exact keyLits_u8 d _
  rw [hys]
  exact ⟨_,rfl⟩
theorem kindCKey:KeyKind Tryz.prog 95 KeyK okK:=by
  have K:WideMaps.KeyLaw Tryz.prog 95:=deep_law_laid laidOutP (m:=2) (by omega) (by decide+kernel) (by kernel_rfl) (by kernel_rfl)
  refine ⟨Go.Maps.Keyed.of_law K,fun a ha=>keyOf_ckey a ha,fun a b h=>?_⟩
  have h1:(a.map B8)=(b.map B8):=by
    unfold KeyK at h
    injection h with h
    exact congrArg Array.toList h |> fun h=>by simpa using h
  have: ∀(a b:Blk),a.map B8=b.map B8→a=b:=fun a=>by
    induction a with
    | nil=>intro b h;cases b with
      | nil=>rfl
      | cons y b=>cases h
    | cons x a ih=>intro b h;cases b with
      | nil=>cases h
      | cons y b=>
        rw [List.map_cons,List.map_cons,List.cons.injEq] at h
        have h2:B8 x=B8 y:=h.1
        have:(x.toNat:Int)=y.toNat:=by unfold B8 at h2;injection h2
        rw [ih b h.2,UInt8.toNat_inj.1 (by omega:x.toNat=y.toNat)]
  exact this a b h1
structure Tp where
  nm:ByteArray
  id:Int
  parts:Int
  seg:Int
  byt:Int
  age:Int
  comp:Bool
  delay:Int
deriving DecidableEq
def tpz (nm:ByteArray) (a b c d e:Int) (f:Bool) (g:Int):Array Value:= #[.string nm,.int .i64 a,.int .i64 b,.int .i64 c,.int .i64 d,.int .i64 e,.bool f,.int .i64 g]
def stz (c d e:Int) (f:Bool) (g:Int):Array Value:= #[.int .i64 c,.int .i64 d,.int .i64 e,.bool f,.int .i64 g]
def n7z (a b c d e f g:Int):Array Value:= #[.int .i64 a,.int .i64 b,.int .i64 c,.int .i64 d,.int .i64 e,.int .i64 f,.int .i64 g]
def Tp.cells (t:Tp):Array Value:=tpz t.nm t.id t.parts t.seg t.byt t.age t.comp t.delay
def bit01 (b:Bool):Int:=if b then 1 else 0
def Tp.nums (t:Tp):List Int:= [t.id,t.parts,t.seg,t.byt,t.age,bit01 t.comp,t.delay]
theorem neTp: ¬U8T (31:TypeId):=by decide
theorem neSet: ¬U8T (29:TypeId):=by decide
theorem zeroTp (W:World):(zeroValue 31).run Tryz.prog W= .ok (.agg (tpz ByteArray.empty 0 0 0 0 0 false 0)) W:=by kernel_rfl
theorem zeroN7 (W:World):(zeroValue 194).run Tryz.prog W= .ok (.agg (n7z 0 0 0 0 0 0 0)) W:=by kernel_rfl
theorem infoTp (nm:ByteArray) (a b c d e:Int) (f:Bool) (g:Int):(Tryz.prog.info? 31).map (·.size)=some (tpz nm a b c d e f g).size:=by kernel_rfl
theorem infoN7 (a b c d e f g:Int):(Tryz.prog.info? 194).map (·.size)=some (n7z a b c d e f g).size:=by kernel_rfl
theorem oneTp (nm:ByteArray) (a b c d e:Int) (f:Bool) (g:Int):((tpz nm a b c d e f g).all fun x=>x.oneCell')=true:=by simp [tpz,Value.oneCell']
theorem oneN7 (a b c d e f g:Int):((n7z a b c d e f g).all fun x=>x.oneCell')=true:=by simp [n7z,Value.oneCell']
theorem storeTp {ops:Array Oper} {rest:List Oper} {o:Oper} {a:Act} {w:World} {Q:Exit→Act→World→Prop} (hgd:o.guard=none) (x y:Operand) (ho:o.op= .store 31 x y) (g:Nat) (nm:ByteArray) (p1 p2 p3 p4 p5:Int) (p6:Bool) (p7:Int) (hx:a.eval x= .pointer (some ⟨g,0,none⟩)) (hy:a.eval y= .agg (tpz nm p1 p2 p3 p4 p5 p6 p7)) (old:Array Value) (hold:old.size=8)
    (hg:w.heap[g]?=some (.cells old 31 (0,0))) (h:wpList Tryz.prog ops Q rest (a.put o.dst undef) (w.setRow g (tpz nm p1 p2 p3 p4 p5 p6 p7))):wpList Tryz.prog ops Q (o::rest) a w:=
  wpList_store_row hgd _ x y ho g (tpz nm p1 p2 p3 p4 p5 p6 p7) hx hy _ old hg (infoTp _ _ _ _ _ _ _ _) (by rw [hold];rfl) (oneTp _ _ _ _ _ _ _ _) h
theorem loadTp {ops:Array Oper} {rest:List Oper} {o:Oper} {a:Act} {w:World} {Q:Exit→Act→World→Prop} (hw:Region.wanted o (yielded ops a.tmps)=true) (x:Operand) (ho:o.op= .load 31 x) (g:Nat) (hx:a.eval x= .pointer (some ⟨g,0,none⟩)) (nm:ByteArray) (p1 p2 p3 p4 p5:Int) (p6:Bool) (p7:Int)
    (hg:w.heap[g]?=some (.cells (tpz nm p1 p2 p3 p4 p5 p6 p7) 31 (0,0))) (h:wpList Tryz.prog ops Q rest (a.put o.dst (.agg (tpz nm p1 p2 p3 p4 p5 p6 p7))) w):wpList Tryz.prog ops Q (o::rest) a w:=
  BigFrame.wpList_want hw fun K hK=>wp_load_row _ x ho g hx _ _ _ _ hg Tryz.underlying31 rfl (infoTp _ _ _ _ _ _ _ _) (hK _ _ h)
theorem storeN7 {ops:Array Oper} {rest:List Oper} {o:Oper} {a:Act} {w:World} {Q:Exit→Act→World→Prop} (hgd:o.guard=none) (x y:Operand) (ho:o.op= .store 194 x y) (g:Nat) (p1 p2 p3 p4 p5 p6 p7:Int) (hx:a.eval x= .pointer (some ⟨g,0,none⟩)) (hy:a.eval y= .agg (n7z p1 p2 p3 p4 p5 p6 p7)) (old:Array Value) (hold:old.size=7)
    (hg:w.heap[g]?=some (.cells old 194 (0,0))) (h:wpList Tryz.prog ops Q rest (a.put o.dst undef) (w.setRow g (n7z p1 p2 p3 p4 p5 p6 p7))):wpList Tryz.prog ops Q (o::rest) a w:=
  wpList_store_row hgd _ x y ho g (n7z p1 p2 p3 p4 p5 p6 p7) hx hy _ old hg (infoN7 _ _ _ _ _ _ _) (by rw [hold];rfl) (oneN7 _ _ _ _ _ _ _) h
set_option maxRecDepth 100000 in
theorem c_numbers (w:World) (nm:ByteArray) (p1 p2 p3 p4 p5:Int) (p6:Bool) (p7:Int):
    Calls Tryz.prog 192 #[.agg (tpz nm p1 p2 p3 p4 p5 p6 p7)] w fun e w'=>e= .returned (.agg (n7z p1 p2 p3 p4 p5 (bit01 p6) p7))∧Frm NoB w w':=by
  have hb0:=block_alloc_new w (.cells (tpz nm p1 p2 p3 p4 p5 p6 p7) 31 (0,0))
  have hf0:=(Frm.refl NoB w).alloc (.cells (tpz nm p1 p2 p3 p4 p5 p6 p7) 31 (0,0))
  obtain ⟨y,hy⟩: ∃y,w.alloc (.cells (tpz nm p1 p2 p3 p4 p5 p6 p7) 31 (0,0))=y:=⟨_,rfl⟩
  obtain ⟨g,hg⟩: ∃g,w.heap.size=g:=⟨_,rfl⟩
  rw [hy,hg] at hb0
  rw [hy] at hf0
  have hb1:=block_alloc_old (.cells (n7z 0 0 0 0 0 0 0) 194 (0,0)) hb0
  have hn1:=block_alloc_new y (.cells (n7z 0 0 0 0 0 0 0) 194 (0,0))
  have hf1:=hf0.alloc (.cells (n7z 0 0 0 0 0 0 0) 194 (0,0))
  obtain ⟨z,hz⟩: ∃z,y.alloc (.cells (n7z 0 0 0 0 0 0 0) 194 (0,0))=z:=⟨_,rfl⟩
  obtain ⟨k,hk⟩: ∃k,y.heap.size=k:=⟨_,rfl⟩
  rw [hz] at hb1 hn1 hf1
  rw [hk] at hn1
  have hkg:w.heap.size≤k:=by rw [←hk];exact hf0.size
  have hf2:Frm NoB w (z.setRow k (n7z p1 p2 p3 p4 p5 (bit01 p6) p7)):=hf1.setRowNew hkg _
  have hn2:=setRow_heap z k _ (n7z p1 p2 p3 p4 p5 (bit01 p6) p7) _ _ hn1
  have c1:z.cell? ⟨g,1,none⟩=some (.int .i64 p1):=(cell_of_block hb1).trans rfl
  have c2:z.cell? ⟨g,2,none⟩=some (.int .i64 p2):=(cell_of_block hb1).trans rfl
  have c3:z.cell? ⟨g,3,none⟩=some (.int .i64 p3):=(cell_of_block hb1).trans rfl
  have c4:z.cell? ⟨g,4,none⟩=some (.int .i64 p4):=(cell_of_block hb1).trans rfl
  have c5:z.cell? ⟨g,5,none⟩=some (.int .i64 p5):=(cell_of_block hb1).trans rfl
  have c6:z.cell? ⟨g,6,none⟩=some (.bool p6):=(cell_of_block hb1).trans rfl
  have c7:z.cell? ⟨g,7,none⟩=some (.int .i64 p7):=(cell_of_block hb1).trans rfl
  have HN1:=Lib.hid hn1
  have HF2:=Lib.hid hf2
  have HN2:=Lib.hid hn2
  have HY:=Lib.hid (And.intro (And.intro hy hg) (And.intro hz hk))
  clear hb0 hf0 hb1 hn1 hf1 hf2 hn2 hy hg hz hk hkg
  go_enter Tryz.func192,Tryz.ntmps192
  go_upto_region 1 with (refine allocRow rfl _ _ zeroN7 rfl ?_)
  rw [HY.out.1.1,HY.out.1.2,HY.out.2.1,HY.out.2.2]
  cases p6 with
  | true=>
    go_wp2_with (refine storeN7 rfl _ _ rfl k p1 p2 p3 p4 p5 1 p7 rfl rfl _ rfl HN1.out ?_)
    have hld:=run_loadVar_row (P:=Tryz.prog) (z.setRow k (n7z p1 p2 p3 p4 p5 1 p7)) k 194 194 (n7z p1 p2 p3 p4 p5 1 p7) (0,0) _ HN2.out Tryz.underlying194 rfl (infoN7 _ _ _ _ _ _ _)
    exact bodyPost_ret (v:= .agg (n7z p1 p2 p3 p4 p5 1 p7)) (results_c1 Tryz.results192 _ _ ⟨k,0,none⟩ rfl _ hld) rfl ⟨rfl,HF2.out⟩
  | false=>
    go_wp2_with (refine storeN7 rfl _ _ rfl k p1 p2 p3 p4 p5 0 p7 rfl rfl _ rfl HN1.out ?_)
    have hld:=run_loadVar_row (P:=Tryz.prog) (z.setRow k (n7z p1 p2 p3 p4 p5 0 p7)) k 194 194 (n7z p1 p2 p3 p4 p5 0 p7) (0,0) _ HN2.out Tryz.underlying194 rfl (infoN7 _ _ _ _ _ _ _)
    exact bodyPost_ret (v:= .agg (n7z p1 p2 p3 p4 p5 0 p7)) (results_c1 Tryz.results192 _ _ ⟨k,0,none⟩ rfl _ hld) rfl ⟨rfl,HF2.out⟩
set_option maxRecDepth 100000 in
theorem c_topic (w:World) (nm:ByteArray) (p1 p2 p3 p4 p5 p6 p7:Int):
    Calls Tryz.prog 124 #[.string nm,.agg (n7z p1 p2 p3 p4 p5 p6 p7)] w fun e w'=>e= .returned (.agg (tpz nm p1 p2 p3 p4 p5 (decide (p6=1)) p7))∧Frm NoB w w':=by
  have hb0:=block_alloc_new w (.cells (n7z p1 p2 p3 p4 p5 p6 p7) 194 (0,0))
  have hf0:=(Frm.refl NoB w).alloc (.cells (n7z p1 p2 p3 p4 p5 p6 p7) 194 (0,0))
  obtain ⟨y,hy⟩: ∃y,w.alloc (.cells (n7z p1 p2 p3 p4 p5 p6 p7) 194 (0,0))=y:=⟨_,rfl⟩
  obtain ⟨g,hg⟩: ∃g,w.heap.size=g:=⟨_,rfl⟩
  rw [hy,hg] at hb0
  rw [hy] at hf0
  have hb1:=block_alloc_old (.cells (tpz ByteArray.empty 0 0 0 0 0 false 0) 31 (0,0)) hb0
  have hn1:=block_alloc_new y (.cells (tpz ByteArray.empty 0 0 0 0 0 false 0) 31 (0,0))
  have hf1:=hf0.alloc (.cells (tpz ByteArray.empty 0 0 0 0 0 false 0) 31 (0,0))
  obtain ⟨z,hz⟩: ∃z,y.alloc (.cells (tpz ByteArray.empty 0 0 0 0 0 false 0) 31 (0,0))=z:=⟨_,rfl⟩
  obtain ⟨k,hk⟩: ∃k,y.heap.size=k:=⟨_,rfl⟩
  rw [hz] at hb1 hn1 hf1
  rw [hk] at hn1
  have hkg:w.heap.size≤k:=by rw [←hk];exact hf0.size
  have hf2:Frm NoB w (z.setRow k (tpz nm p1 p2 p3 p4 p5 (decide (p6=1)) p7)):=hf1.setRowNew hkg _
  have hn2:=setRow_heap z k _ (tpz nm p1 p2 p3 p4 p5 (decide (p6=1)) p7) _ _ hn1
  have c1:z.cell? ⟨g,0,none⟩=some (.int .i64 p1):=(cell_of_block hb1).trans rfl
  have c2:z.cell? ⟨g,1,none⟩=some (.int .i64 p2):=(cell_of_block hb1).trans rfl
  have c3:z.cell? ⟨g,2,none⟩=some (.int .i64 p3):=(cell_of_block hb1).trans rfl
  have c4:z.cell? ⟨g,3,none⟩=some (.int .i64 p4):=(cell_of_block hb1).trans rfl
  have c5:z.cell? ⟨g,4,none⟩=some (.int .i64 p5):=(cell_of_block hb1).trans rfl
  have c6:z.cell? ⟨g,5,none⟩=some (.int .i64 p6):=(cell_of_block hb1).trans rfl
  have c7:z.cell? ⟨g,6,none⟩=some (.int .i64 p7):=(cell_of_block hb1).trans rfl
  have HN1:=Lib.hid hn1
  have HF2:=Lib.hid hf2
  have HN2:=Lib.hid hn2
  have HY:=Lib.hid (And.intro (And.intro hy hg) (And.intro hz hk))
  clear hb0 hf0 hb1 hn1 hf1 hf2 hn2 hy hg hz hk hkg
  go_enter Tryz.func124,Tryz.ntmps124
  go_upto_region 1 with (refine allocRow rfl _ _ zeroTp rfl ?_)
  rw [HY.out.1.1,HY.out.1.2,HY.out.2.1,HY.out.2.2]
  clear HY
  go_wp2_with (refine storeTp rfl _ _ rfl k nm p1 p2 p3 p4 p5 (decide (p6=1)) p7 rfl rfl _ rfl HN1.out ?_)
  have hld:=run_loadVar_row (P:=Tryz.prog) (z.setRow k (tpz nm p1 p2 p3 p4 p5 (decide (p6=1)) p7)) k 31 31 (tpz nm p1 p2 p3 p4 p5 (decide (p6=1)) p7) (0,0) _ HN2.out Tryz.underlying31 rfl (infoTp _ _ _ _ _ _ _ _)
  exact bodyPost_ret (v:= .agg (tpz nm p1 p2 p3 p4 p5 (decide (p6=1)) p7)) (results_c1 Tryz.results124 _ _ ⟨k,0,none⟩ rfl _ hld) rfl ⟨rfl,HF2.out⟩
theorem infoTp3:(Tryz.prog.info? 31).map (fun i=>(i.zero,i.size,i.bytes))=some (some (.agg (tpz ByteArray.empty 0 0 0 0 0 false 0)),8,72):=by kernel_rfl
def tpsC (l:List Tp):List Value:=l.flatMap fun t=>t.cells.toList
theorem tpsC_length (l:List Tp):(tpsC l).length=l.length*8:=by
  unfold tpsC
  induction l with
  | nil=>rfl
  | cons t l ih=>rw [List.flatMap_cons,List.length_append,ih,List.length_cons];show 8+_=_;omega
def ApT (n0:Nat) (w:World) (xs:List Tp) (W:World):Prop:=
  (∃v,Boxed W n0 37 v∧W.ownsRow n0 31 8 v xs.length (tpsC xs)∧True)∧Below n0 w W
def AxT (n0:Nat) (g:Nat) (lb:Array Value) (x:Tp) (a:Act) (W:World):Prop:=
  ∃k,n0<k∧a= { tmps:= #[.slice none 0 0,.func (.func g) #[] lb,.pointer (some ⟨n0,0,none⟩),undef,.slice none 0 0,.pointer (some ⟨k,0,none⟩),.func (.func g) #[] lb,.agg x.cells,undef,undef,undef,undef,undef],defers:= [] }∧W.heap[k]?=some (.cells x.cells 31 (0,0))
set_option maxHeartbeats 1000000 in
set_option maxRecDepth 100000 in
theorem appendSeqT (w:World) (g:Nat) (lb:Array Value) (eg: ∀args w,(callFunc g args).run Tryz.prog w= .ok (.enter g args) w) (S:List Tp→Prop) (N:Nat) (hN:N≤1000000)
    (hseq:SeqStopsK Fence.wide 4 Tryz.prog g lb (fun t:Tp=> #[.agg t.cells]) KeepsWalks S (fun _=>True) N w):
    CallsIn Fence.wide 5 Tryz.prog 196 #[.slice none 0 0,.func (.func g) #[] lb] w fun e w'=> ∃(v:Value) (ss:List Tp),e= .returned v∧S ss∧w'.ownsRow w.heap.size 31 8 v ss.length (tpsC ss)∧Below w.heap.size w w':=by
  refine callsIn_of_wp_marks Tryz.func196 rfl trivial ?_ rfl
  simp only [Tryz.ntmps196,List.size_toArray,List.length_cons,List.length_nil,Nat.reduceAdd,Nat.reduceSub,Array.replicate_succ,Array.replicate_zero,List.push_toArray,List.append_toArray,List.nil_append,List.cons_append]
  gi_wp2
  have hI:OwnFrom (w.alloc (.cells #[.slice none 0 0] 37 (0,0))).heap.size (ApT w.heap.size w):=by
    have h1:=(holdsRow_own w.heap.size w.heap.size 37 31 8 (fun xs:List Tp=>xs.length) tpsC (fun _ _=>True)).from (w.alloc (.cells #[.slice none 0 0] 37 (0,0))).heap.size
    exact h1.and (ownFrom_below (Nat.le_refl _) (by simp))
  refine wpIn_rangeFunc_ownH (F:=Fence.wide) rfl (by omega) rfl trivial eg hseq walksK_t walksK_b ((Below.refl _ w).alloc (Nat.le_refl _) _) (fun _=>rfl) (ApT w.heap.size w) (fun _ _ _=>False) hI (fun _ _ _ _ _ h _ _=>h) ?start (AxT w.heap.size g lb) ?own ?assign ?body ?done ?stop
  case start=>exact ⟨⟨_,Boxed.new _ _ _,World.ownsRow_nil _ _ _ _,trivial⟩,(Below.refl _ w).alloc (Nat.le_refl _) _⟩
  case own=>
    rintro x a'-W W' row ⟨k,h1,h2,h3⟩ hg hr
    refine ⟨k,h1,h2,(hg.block k (lt_of_block h3) fun e=>?_).trans h3⟩
    obtain ⟨_,o,ho,hc⟩:=hr k e.symm
    rw [h3] at ho
    cases ho
    cases hc
  case stop=>intro D c pre W _ _ h;exact h.elim
  case assign=>
    intro l pre x W K hp hK
    obtain ⟨nm,p1,p2,p3,p4,p5,p6,p7⟩:=x
    have e: ∀(T:Array Value) (y:Value),((#[7]:Array Tmp).zip #[y]).foldl (fun t (p,v)=>t.setIfInBounds p v) T=T.setIfInBounds 7 y:=fun T y=>by simp
    have e:=e #[.slice none 0 0,.func (.func g) #[] lb,.pointer (some ⟨w.heap.size,0,none⟩),undef,.slice none 0 0,undef,.func (.func g) #[] lb,undef,undef,undef,undef,undef,undef] (.agg (tpz nm p1 p2 p3 p4 p5 p6 p7))
    refine (congrArg (fun t=>Code.wpIn _ _ _ _ _ { tmps:=t,defers:= [] } W) e).mpr ?_
    show Code.wpIn _ _ _ _ _ { tmps:= #[.slice none 0 0,.func (.func g) #[] lb,.pointer (some ⟨w.heap.size,0,none⟩),undef,.slice none 0 0,undef,.func (.func g) #[] lb,.agg #[.string nm,.int .i64 p1,.int .i64 p2,.int .i64 p3,.int .i64 p4,.int .i64 p5,.bool p6,.int .i64 p7],undef,undef,undef,undef,undef],defers:= [] } W
    have HK:=Lib.hid hK
    have HP:=Lib.hid hp
    have HI:=Lib.hid hI
    clear hK hp hseq hI eg
    gi_wp2_with gi_round_op_a
    refine HK.out _ _ ((KeepsOthers.alloc _ _).from _) (KeepsWalks.alloc _ _) (HI.out.alloc _ HP.out) ⟨W.heap.size,?_,rfl,block_alloc_new _ _⟩
    obtain ⟨⟨v,hv,_⟩,_⟩:=HP.out
    exact hv.lt
  case body=>
    rintro l pre ⟨nm,p1,p2,p3,p4,p5,p6,p7⟩ a' W hl-⟨⟨v,hv,hrow,-⟩,hb⟩ ⟨k,hk,rfl,hbk⟩ hlen
    obtain ⟨i0,hi0,hz0,hz1,hz2⟩:=info_parts infoTp3
    have hbk:W.heap[k]?=some (.cells #[.string nm,.int .i64 p1,.int .i64 p2,.int .i64 p3,.int .i64 p4,.int .i64 p5,.bool p6,.int .i64 p7] 31 (0,0)):=hbk
    have c0:W.cell? ⟨k,0,none⟩=some (.string nm):=(cell_of_block hbk).trans rfl
    have c1:W.cell? ⟨k,1,none⟩=some (.int .i64 p1):=(cell_of_block hbk).trans rfl
    have c2:W.cell? ⟨k,2,none⟩=some (.int .i64 p2):=(cell_of_block hbk).trans rfl
    have c3:W.cell? ⟨k,3,none⟩=some (.int .i64 p3):=(cell_of_block hbk).trans rfl
    have c4:W.cell? ⟨k,4,none⟩=some (.int .i64 p4):=(cell_of_block hbk).trans rfl
    have c5:W.cell? ⟨k,5,none⟩=some (.int .i64 p5):=(cell_of_block hbk).trans rfl
    have c6:W.cell? ⟨k,6,none⟩=some (.bool p6):=(cell_of_block hbk).trans rfl
    have c7:W.cell? ⟨k,7,none⟩=some (.int .i64 p7):=(cell_of_block hbk).trans rfl
    have d0:W.cell? ⟨w.heap.size,0,none⟩=some v:=hv.cell
    have HV:=Lib.hid hv
    have HR:=Lib.hid hrow
    have HB:=Lib.hid hb
    have HL:=Lib.hid (And.intro hl hlen)
    clear hv hrow hb hl hlen hseq hI eg hbk
    have hnew: ∀(j:Nat) (u:Value),([.string nm,.int .i64 p1,.int .i64 p2,.int .i64 p3,.int .i64 p4,.int .i64 p5,.bool p6,.int .i64 p7]:List Value)[j]?=some u→(W.alloc (.cells #[.string nm,.int .i64 p1,.int .i64 p2,.int .i64 p3,.int .i64 p4,.int .i64 p5,.bool p6,.int .i64 p7] 31 (0,0))).cell? ((⟨W.heap.size,0,none⟩:Addr).add j)=some u:=fun j u hj=>by
      rw [show (⟨W.heap.size,0,none⟩:Addr).add j=⟨W.heap.size,j,none⟩ by unfold Addr.add;split<;>simp_all]
      exact (cell_of_block (block_alloc_new W (.cells #[.string nm,.int .i64 p1,.int .i64 p2,.int .i64 p3,.int .i64 p4,.int .i64 p5,.bool p6,.int .i64 p7] 31 (0,0)))).trans (by rw [←hj,←Array.getElem?_toList])
    have HNEW:=Lib.hid hnew
    clear hnew
    gi_wp2_with (first
      | (gi_at_builtin;refine wpListIn_append_own _ rfl _ _ 37 rfl w.heap.size 31 i0 (.agg (tpz ByteArray.empty 0 0 0 0 0 false 0)) 8 72 Tryz.underlying37 hi0 hz0 hz1 hz2 rfl (by decide) v pre.length (tpsC pre) rfl (HR.out.alloc _) ⟨W.heap.size,0,none⟩ 1 1 [.string nm,.int .i64 p1,.int .i64 p2,.int .i64 p3,.int .i64 p4,.int .i64 p5,.bool p6,.int .i64 p7] rfl rfl HNEW.out (by simp [Value.oneCell']) (by have:=HL.out.2;simp only [maxLen];omega) (by have:=HL.out.2;omega) (by have:=HB.out.size;simp;omega) ?_;intro v' w1 hown' hgrow hnil;obtain ⟨g',cap',rfl⟩:=ownsRow_succ hown';obtain ⟨hv1,hv2,hr2,hk2,hb2⟩:=HV.out.appended (by decide) HR.out HB.out.size (Nat.le_refl _) hown' hgrow;have e1:=hv1.cell;have e2:=hv1.frozen;clear c0 c1 c2 c3 c4 c5 c6 c7 d0;go_frame)
      | gi_round_op_a)
    refine ⟨hk2.from _,⟨hk2.size,fun k o hk ho=>hk2.same k o hk (Obj.not_cells_of_walk ho)⟩,⟨_,hv2,?_,trivial⟩,HB.out.trans hb2⟩
    have e3:tpsC (pre++ [⟨nm,p1,p2,p3,p4,p5,p6,p7⟩])=tpsC pre++ [.string nm,.int .i64 p1,.int .i64 p2,.int .i64 p3,.int .i64 p4,.int .i64 p5,.bool p6,.int .i64 p7]:=by unfold tpsC;rw [List.flatMap_append];rfl
    rw [e3,List.length_append]
    exact hr2
  case done=>
    rintro D ys W hD hS ⟨⟨v,hv,hrow,-⟩,hB⟩ hK
    have hc:=hv.cell
    have HS:=Lib.hid (And.intro hS (And.intro hrow hB))
    clear hS hrow hB hseq eg hI
    gi_wp2
    refine ⟨by simp,.inl ⟨_,_,rfl,run_takeDeferred hK,?_⟩⟩
    exact ⟨_,results_tmp rfl _ _ _,v,ys,rfl,HS.out.1,ownsRow_putObj HS.out.2.1 _ hK rfl,HS.out.2.2.trans (belowK_b (w:=w) (Nat.le_refl _) W D _ _ (by simp at hD;omega) hK rfl rfl)⟩
end
section
open Go.ChangeMaps Go.MapKept Go.RowKit
variable {α:Type} {mk:α→Value} {ok:α→Prop} {P:Program} {k t e:TypeId} {w:World} {b r nn cnt:Nat} {f:α→Option Value} {left:α→Prop} {F:Fence} {n:Nat} {o:Oper} {a:Act} {ops:Array Oper} {rest:List Oper} {Q:Exit→Act→World→Prop}
theorem wpListIn_range_at (hg:o.guard=none) (m:Operand) (t:TypeId) (hop:o.op=Op.range t m) (k e:TypeId) (ht:P.underlying t=some (.map k e)) (hm:a.eval m= .map (some b)) (h:MapAt mk ok w b nn f)
    (hK: ∀o',o'.isCells=false→RangeAt mk ok (w.alloc o') b w.heap.size nn f (fun a=>(f a).isSome) nn→wpListIn F n P ops Q rest (a.put o.dst (.pointer (some ⟨w.heap.size,0,none⟩))) (w.alloc o')):wpListIn F n P ops Q (o::rest) a w:=by
  refine wpListIn_plain hg fun K' hK'=>?_
  obtain ⟨o',hrun,hr⟩:=h.range ht
  have hc:o'.isCells=false:=by
    obtain ⟨es,clock,seen,_,_,_,_,_,h6,_⟩:=hr
    rw [block_alloc_new w o'] at h6
    injection h6 with h6
    rw [h6]
    rfl
  unfold Oper.wpIn
  refine ⟨by simp [Oper.about,hop],?_⟩
  rw [Oper.semAt_plain F _ _ (by rw [hop];intro c hc';cases hc')]
  simp [execOp,hop,hm,hrun,Result.andThen]
  exact hK' _ _ (hK o' hc hr)
theorem wpListIn_next_at (hg:o.guard=none) (it:Operand) (hop:o.op=Op.next it false) (K:KeyKind P k mk ok) (hit:a.eval it= .pointer (some ⟨r,0,none⟩)) (h:RangeAt mk ok w b r nn f left cnt)
    (hDone:(∀a,ok a→¬left a)→wpListIn F n P ops Q rest (a.put o.dst (.tuple #[.bool false])) w)
    (hMore: ∀x v w' cnt',ok x→left x→f x=some v→RangeAt mk ok w' b r nn f (fun y=>left y∧y≠x) cnt'→cnt'<cnt→Frm (Only r) w w'→w'.heap.size=w.heap.size→
      (Instr.entry (.pointer (some ⟨r,0,none⟩))).run P w'= .ok (.tuple #[mk x,v]) w'→wpListIn F n P ops Q rest (a.put o.dst (.tuple #[.bool true,mk x,v])) w'):wpListIn F n P ops Q (o::rest) a w:=by
  refine wpListIn_plain hg fun K' hK'=>?_
  unfold Oper.wpIn
  refine ⟨by simp [Oper.about,hop],?_⟩
  rw [Oper.semAt_plain F _ _ (by rw [hop];intro c hc';cases hc')]
  rcases h.next K o.type with ⟨h0,hrun⟩ | ⟨x,v,w',cnt',h1,h2,h3,hrun,h4,h5,h6,h7,h8⟩
  · simp [execOp,hop,hit,hrun,Result.andThen]
    exact hK' _ _ (hDone h0)
  · simp [execOp,hop,hit,hrun,Result.andThen]
    exact hK' _ _ (hMore x v w' cnt' h1 h2 h3 h4 h5 h6 h7 h8)
theorem RangeAt.walk (h:RangeAt mk ok w b r nn f left cnt): ∃o:Obj,w.heap[r]?=some o∧o.isWalk=true:=by
  obtain ⟨es,clock,seen,_,_,_,_,_,h6,_⟩:=h
  exact ⟨_,h6,rfl⟩
theorem RangeAt.walks {w':World} (h:RangeAt mk ok w b r nn f left cnt) (hk:KeepsWalks w w'):RangeAt mk ok w' b r nn f left cnt:=by
  obtain ⟨es,clock,seen,h1,h2,h3,h4,h5,h6,h7⟩:=h
  exact ⟨es,clock,seen,hk.same _ _ h1 rfl,h2,h3,h4,h5,hk.same _ _ h6 rfl,h7⟩
end
section
open Go.ChangeMaps Go.MapKept Go.RowKit
theorem frm_grown {r:Nat} {w w':World} (h:Frm (Only r) w w'):w.grownBy w' (some r):=
  ⟨h.os,h.tape,h.output,h.size,fun k hk hne=>h.block k hk fun e=>hne (by rw [show k=r from e])⟩
def tpV (M:Blk→Option Tp):Blk→Option Value:=fun a=>(M a).map fun t=> .agg t.cells
def AllOf (M:Blk→Option Tp) (ss:List Tp):Prop:= ∃ks:List Blk,ks.Nodup∧(∀a,a∈ks↔okK a∧(M a).isSome=true)∧ss.map some=ks.map M
set_option maxHeartbeats 1000000 in
set_option maxRecDepth 100000 in
theorem valuesT (w:World) (Bm b nn:Nat) (M:Blk→Option Tp) (hBm:Bm<w.heap.size) (hm:w.cell? ⟨Bm,0,none⟩=some (.map (some b))) (hmap:MapAt KeyK okK w b nn (tpV M)):
    SeqStopsK Fence.wide 4 Tryz.prog 197 #[.pointer (some ⟨Bm,0,none⟩)] (fun t:Tp=> #[.agg t.cells]) KeepsWalks (AllOf M) (fun _=>True) nn w:=by
  intro l J Jx W hW hJ hJx hY h0
  have hm0:W.cell? ⟨Bm,0,none⟩=some (.map (some b)):=(hW.cell (p:=⟨Bm,0,none⟩) hBm).trans hm
  have hmp:MapAt KeyK okK W b nn (tpV M):=by
    obtain ⟨es,clock,h1,h2,h3,h4,h5⟩:=hmap
    exact ⟨es,clock,(hW.block b (lt_of_block h1)).trans h1,h2,h3,h4,h5⟩
  refine callsIn_of_wp Tryz.func197 rfl trivial ?_ rfl
  simp only [Tryz.ntmps197,List.size_toArray,List.length_cons,List.length_nil,Nat.reduceAdd,Nat.reduceSub,Array.replicate_succ,Array.replicate_zero,List.push_toArray,List.append_toArray,List.nil_append,List.cons_append]
  have HM:=Lib.hid (And.intro hmp (And.intro hJ hJx))
  have HY:=Lib.hid hY
  have H0:=Lib.hid h0
  clear hmap hm hmp hJ hJx hY h0 hW hBm
  gi_wp2_with (first
    | (gi_at_range;refine wpListIn_range_at rfl _ 91 rfl 95 31 Tryz.underlying91 rfl HM.out.1 ?_;intro o' ho' hrg0)
    | gi_in)
  have HRG:=Lib.hid hrg0
  have HJ0:Hid (J [] (W.alloc o')):=Lib.hid (HM.out.2.1 [] W _ none H0.out (World.grownBy_alloc W o' none) (fun r e=>by cases e))
  clear hrg0 hm0
  gi_loopw [4] (fun _ wr=> ∃(left:Blk→Prop) (cnt:Nat) (ss:List Tp) (ks:List Blk),RangeAt KeyK okK wr b W.heap.size nn (tpV M) left cnt∧J ss wr∧ss.length+cnt≤nn∧ks.Nodup∧(∀a,okK a→((tpV M a).isSome=true↔left a∨a∈ks))∧(∀a∈ks,okK a∧¬left a)∧ss.map some=ks.map M)
    (fun _ wr=>wr.rangeLeft b W.heap.size)
  case atStart=>
    exact ⟨_,_,[],[],HRG.out,HJ0.out,by simp,List.nodup_nil,fun a _=>by simp,fun a ha=>by simp at ha,rfl⟩
  case round=>
    obtain ⟨left,cnt,ss,ks,hrg,hJs,hcs,hnd,hall,hks,hss⟩:=hrel
    have HR:=Lib.hid hrg
    have HS:=Lib.hid (And.intro hJs (And.intro hcs (And.intro hnd (And.intro hall (And.intro hks hss)))))
    clear hrg hJs hcs hnd hall hks hss HRG HJ0
    gi_wp2_with (first
      | (gi_at_next;refine wpListIn_next_at rfl _ rfl kindCKey rfl HR.out ?_ ?_)
      | gi_in)
    · intro hd
      have HD:=Lib.hid hd
      clear hd
      gi_wp2
      go_end0
      refine ⟨⟨_,rfl⟩,.inl ⟨ss,⟨ks,HS.out.2.2.1,fun a=>?_,HS.out.2.2.2.2.2⟩,HS.out.1⟩⟩
      constructor
      · intro ha
        have hok:=(HS.out.2.2.2.2.1 a ha).1
        have:=(HS.out.2.2.2.1 a hok).2 (.inr ha)
        exact ⟨hok,by unfold tpV at this;rw [Option.isSome_map] at this;exact this⟩
      · rintro ⟨hok,hs⟩
        rcases (HS.out.2.2.2.1 a hok).1 (by unfold tpV;rw [Option.isSome_map];exact hs) with h | h
        · exact absurd h (HD.out a hok)
        · exact h
    · intro x v w2 cnt2 hok hlx hfx hrg2 hlt hfr hsz hen
      obtain ⟨nm,p1,p2,p3,p4,p5,p6,p7,ht,rfl⟩: ∃nm p1 p2 p3 p4 p5 p6 p7,M x=some ⟨nm,p1,p2,p3,p4,p5,p6,p7⟩∧v= .agg #[.string nm,.int .i64 p1,.int .i64 p2,.int .i64 p3,.int .i64 p4,.int .i64 p5,.bool p6,.int .i64 p7]:=by
        unfold tpV at hfx
        cases hM:M x with
        | none=>rw [hM] at hfx;cases hfx
        | some t=>
          obtain ⟨nm,p1,p2,p3,p4,p5,p6,p7⟩:=t
          rw [hM] at hfx
          injection hfx with hfx
          exact ⟨nm,p1,p2,p3,p4,p5,p6,p7,rfl,hfx.symm⟩
      have hJ2:J ss w2:=HM.out.2.1 ss wr w2 (some W.heap.size) HS.out.1 (frm_grown hfr) (fun r e=>by cases e;exact ⟨Nat.le_refl _,HR.out.walk⟩)
      have hJ3:J ss (w2.alloc (.cells #[.string nm,.int .i64 p1,.int .i64 p2,.int .i64 p3,.int .i64 p4,.int .i64 p5,.bool p6,.int .i64 p7] 31 (0,0))):=HM.out.2.1 ss w2 _ none hJ2 (World.grownBy_alloc _ _ none) (fun r e=>by cases e)
      obtain ⟨fn,tmps,assign,body,hy,hRD⟩:=HY.out ss ⟨nm,p1,p2,p3,p4,p5,p6,p7⟩ _ hJ3 (by have:=HS.out.2.1;omega)
      have hy:(Instr.yield l #[.agg #[.string nm,.int .i64 p1,.int .i64 p2,.int .i64 p3,.int .i64 p4,.int .i64 p5,.bool p6,.int .i64 p7]]).run Tryz.prog (w2.alloc (.cells #[.string nm,.int .i64 p1,.int .i64 p2,.int .i64 p3,.int .i64 p4,.int .i64 p5,.bool p6,.int .i64 p7] 31 (0,0)))= .ok (.round l fn tmps assign body) (w2.alloc (.cells #[.string nm,.int .i64 p1,.int .i64 p2,.int .i64 p3,.int .i64 p4,.int .i64 p5,.bool p6,.int .i64 p7] 31 (0,0))):=hy
      have HR2:=Lib.hid hrg2
      have HRD:=Lib.hid hRD
      have HX:=Lib.hid (And.intro hok (And.intro hlx (And.intro ht hlt)))
      clear hok hlx ht hlt hfx hrg2 hfr hsz hJ2 hJ3 hRD
      gi_wp2
      refine HRD.out.mono ?_
      clear HRD
      rintro e W3 (⟨rfl,hJ3,hk3⟩ | ⟨rfl,hJx⟩)
      · have HR3:=Lib.hid ((HR2.out.walks (KeepsWalks.alloc _ (.cells #[.string nm,.int .i64 p1,.int .i64 p2,.int .i64 p3,.int .i64 p4,.int .i64 p5,.bool p6,.int .i64 p7] 31 (0,0)))).walks hk3)
        have HJ3:=Lib.hid hJ3
        clear hJ3 hk3 HR2 hy
        gi_wp2
        go_roundw
        case rel=>
          refine ⟨_,cnt2,ss++ [⟨nm,p1,p2,p3,p4,p5,p6,p7⟩],ks++ [x],HR3.out,HJ3.out,?_,?_,fun a ha=>?_,fun a ha=>?_,?_⟩
          · have:=HS.out.2.1;have:=HX.out.2.2.2;rw [List.length_append];simp;omega
          · rw [List.nodup_append]
            exact ⟨HS.out.2.2.1,by simp,fun a ha b hb e=>by
              have hb:b=x:=by simpa using hb
              subst e;subst hb
              exact (HS.out.2.2.2.2.1 a ha).2 HX.out.2.1⟩
          · rw [HS.out.2.2.2.1 a ha,List.mem_append,List.mem_singleton]
            by_cases e:a=x
            · subst e;simp [HX.out.2.1]
            · simp [e]
          · rcases List.mem_append.1 ha with h | h
            · exact ⟨(HS.out.2.2.2.2.1 a h).1,fun h2=>(HS.out.2.2.2.2.1 a h).2 h2.1⟩
            · have:a=x:=by simpa using h
              subst this
              exact ⟨HX.out.1,fun h2=>h2.2 rfl⟩
          · rw [List.map_append,List.map_append,HS.out.2.2.2.2.2]
            simp [HX.out.2.2.1]
        case measure=>rw [HR3.out.left_eq,HR.out.left_eq];exact HX.out.2.2.2
      · have HJx:=Lib.hid hJx
        clear hJx HR2 hy
        gi_wp2
        exact bodyPost_ret (v:= .tuple #[]) (by simp [results,Tryz.results197,go_sem]) rfl ⟨⟨_,rfl⟩,.inr ⟨_,trivial,HJx.out⟩⟩
set_option maxRecDepth 100000 in
theorem ValuesT (w:World) (mb:Option Nat):Calls Tryz.prog 108 #[.map mb] w fun e w'=>e= .returned (.func (.func 197) #[] #[.pointer (some ⟨w.heap.size,0,none⟩)])∧w'=w.alloc (.cells #[.map mb] 91 (0,0)):=by
  have hmf: ∀(fn:Fn) (first cap:Array Value) (W:World),(Instr.makeFunc fn first cap).run Tryz.prog W= .ok (.func fn first cap) W:=fun _ _ _ _=>rfl
  go_enter Tryz.func108,Tryz.ntmps108
  go_wp2_with fail
  go_ret
  exact ⟨rfl,rfl⟩
set_option maxRecDepth 100000 in
theorem CollectT (w:World) (g:Nat) (lb:Array Value) (eg: ∀args w,(callFunc g args).run Tryz.prog w= .ok (.enter g args) w) (S:List Tp→Prop) (N:Nat) (hN:N≤1000000)
    (hseq:SeqStopsK Fence.wide 4 Tryz.prog g lb (fun t:Tp=> #[.agg t.cells]) KeepsWalks S (fun _=>True) N w):
    Calls Tryz.prog 107 #[.func (.func g) #[] lb] w fun e w'=> ∃(v:Value) (ss:List Tp),e= .returned v∧S ss∧w'.ownsRow w.heap.size 31 8 v ss.length (tpsC ss)∧Below w.heap.size w w':=by
  have HA:=Lib.hid ((callsIn_wide (n:=5)).1 (appendSeqT w g lb eg S N hN hseq))
  clear hseq eg
  go_enter Tryz.func107,Tryz.ntmps107
  go_wp2_with fail
  refine HA.out.mono ?_
  rintro e w2 ⟨v,ss,rfl,h⟩
  have H:=Lib.hid h
  clear h HA
  go_wp2
  go_ret
  exact ⟨v,ss,rfl,H.out⟩
instance:Inhabited Tp:=⟨⟨ByteArray.empty,0,0,0,0,0,false,0⟩⟩
def lessN (a b:ByteArray):Bool:=Op.bytesLess a.toList b.toList
def cmpN (a b:ByteArray):Int:=if lessN a b then-1 else if a.toList==b.toList then 0 else 1
def cmpT (x y:Tp):Int:=cmpN x.nm y.nm
set_option maxRecDepth 100000 in
theorem cmpS_any (w:World) (a b:ByteArray):Calls Tryz.prog 111 #[.string a,.string b] w fun e w'=>w=w'∧e= .returned (.int .i64 (cmpN a b)):=by
  have hN: ∀(s:ByteArray),Calls Tryz.prog 200 #[.string s] w fun e w'=>w=w'∧e= .returned (.bool false):=fun s=>by
    go_enter Tryz.func200,Tryz.ntmps200
    go_wp2_with fail
    go_ret
    exact ⟨rfl,rfl⟩
  go_enter Tryz.func111,Tryz.ntmps111
  go_wp2_with fail
  refine (hN a).mono ?_
  rintro e w1 ⟨rfl,rfl⟩
  go_wp2_with fail
  refine (hN b).mono ?_
  rintro e w1 ⟨rfl,rfl⟩
  go_wp2_with fail
  · have h:Op.bytesLess a.toList b.toList=true:=by assumption
    go_ret
    refine ⟨rfl,?_⟩
    rw [show cmpN a b= -1 by unfold cmpN lessN;rw [if_pos h]]
    rfl
  · have h1:Op.bytesLess a.toList b.toList=false:=by assumption
    have h2:(!a.toList==b.toList)=true:=by assumption
    go_ret
    refine ⟨rfl,?_⟩
    rw [show cmpN a b=1 by unfold cmpN lessN;rw [if_neg (by rw [h1];decide),if_neg (by intro h;rw [h] at h2;cases h2)]]
    rfl
  · have h1:Op.bytesLess a.toList b.toList=false:=by assumption
    have h2:(!a.toList==b.toList)=false:=by assumption
    go_ret
    refine ⟨rfl,?_⟩
    rw [show cmpN a b=0 by unfold cmpN lessN;rw [if_neg (by rw [h1];decide),if_pos (by simpa using h2)]]
    rfl
set_option maxRecDepth 100000 in
theorem sorted1_any (w:World) (nm nm':ByteArray) (p1 p2 p3 p4 p5 p7 q1 q2 q3 q4 q5 q7:Int) (p6 q6:Bool):Calls Tryz.prog 110 #[.agg (tpz nm p1 p2 p3 p4 p5 p6 p7),.agg (tpz nm' q1 q2 q3 q4 q5 q6 q7)] w fun e w'=>e= .returned (.int .i64 (cmpN nm nm'))∧w'=(w.alloc (.cells (tpz nm p1 p2 p3 p4 p5 p6 p7) 31 (0,0))).alloc (.cells (tpz nm' q1 q2 q3 q4 q5 q6 q7) 31 (0,0)):=by
  have b1:=block_alloc_old (.cells (tpz nm' q1 q2 q3 q4 q5 q6 q7) 31 (0,0)) (block_alloc_new w (.cells (tpz nm p1 p2 p3 p4 p5 p6 p7) 31 (0,0)))
  have b2:=block_alloc_new (w.alloc (.cells (tpz nm p1 p2 p3 p4 p5 p6 p7) 31 (0,0))) (.cells (tpz nm' q1 q2 q3 q4 q5 q6 q7) 31 (0,0))
  have e2:(w.alloc (.cells (tpz nm p1 p2 p3 p4 p5 p6 p7) 31 (0,0))).heap.size=w.heap.size+1:=by simp
  rw [e2] at b2
  obtain ⟨y,hy⟩: ∃y,(w.alloc (.cells (tpz nm p1 p2 p3 p4 p5 p6 p7) 31 (0,0))).alloc (.cells (tpz nm' q1 q2 q3 q4 q5 q6 q7) 31 (0,0))=y:=⟨_,rfl⟩
  rw [hy] at b1 b2 ⊢
  have c1:y.cell? ⟨w.heap.size,0,none⟩=some (.string nm):=(cell_of_block b1).trans rfl
  have c2:y.cell? ⟨w.heap.size+1,0,none⟩=some (.string nm'):=(cell_of_block b2).trans rfl
  have HY:=Lib.hid hy
  have KC:Hid (∀W,Calls Tryz.prog 111 #[.string nm,.string nm'] W fun e w'=>W=w'∧e= .returned (.int .i64 (cmpN nm nm'))):=Lib.hid fun W=>cmpS_any W nm nm'
  clear b1 b2 e2 hy
  go_enter Tryz.func110,Tryz.ntmps110
  go_upto_region 1 with fail
  rw [HY.out]
  go_wp2_with fail
  refine (KC.out _).mono ?_
  rintro e w2 ⟨rfl,rfl⟩
  clear KC c1 c2
  go_wp2
  go_ret
  exact ⟨rfl,rfl⟩
theorem lessN_eq (a b:ByteArray):lessN a b=decide (a.toList<b.toList):=bytesLess_eq _ _
theorem ltOf_cmpT:ltOf cmpT=fun x y=>lessN x.nm y.nm:=by
  funext x y
  unfold ltOf cmpT cmpN
  by_cases h:lessN x.nm y.nm=true
  · rw [if_pos h,h];rfl
  · rw [if_neg h]
    rw [Bool.not_eq_true] at h
    rw [h]
    split<;>rfl
theorem swoT:Sort.SWO (ltOf cmpT):=by
  rw [ltOf_cmpT]
  refine ⟨fun x=>?_,fun x y z h1 h2=>?_,fun x y z h1 h2=>?_⟩
  · show lessN x.nm x.nm=false
    rw [lessN_eq]
    exact decide_eq_false (List.lt_irrefl _)
  · have h1:lessN x.nm y.nm=true:=h1
    have h2:lessN y.nm z.nm=true:=h2
    rw [lessN_eq] at h1 h2
    show lessN x.nm z.nm=true
    rw [lessN_eq]
    exact decide_eq_true (List.lt_trans (of_decide_eq_true h1) (of_decide_eq_true h2))
  · have h1:lessN x.nm y.nm=false:=h1
    have h2:lessN y.nm z.nm=false:=h2
    rw [lessN_eq] at h1 h2
    show lessN x.nm z.nm=false
    rw [lessN_eq]
    refine decide_eq_false ?_
    have h1:=List.not_lt.1 (of_decide_eq_false h1)
    have h2:=List.not_lt.1 (of_decide_eq_false h2)
    exact List.not_lt.2 (List.le_trans h2 h1)
theorem tpsC_get: ∀(l:List Tp) (t:Nat),t<l.length*8→(tpsC l)[t]! =(l[t/8]!.cells.toList)[t%8]!
  | [],t,h=>by simp at h
  | a::r,t,h=>by
    have e:tpsC (a::r)=a.cells.toList++tpsC r:=rfl
    have hl:a.cells.toList.length=8:=rfl
    rw [e]
    by_cases h8:t<8
    · have h1:t/8=0:=by omega
      have h2:t%8=t:=by omega
      rw [h1,h2,List.getElem!_eq_getElem?_getD,List.getElem?_append_left (by omega),←List.getElem!_eq_getElem?_getD]
      rfl
    · obtain ⟨m,rfl⟩: ∃m,t=m+8:=⟨t-8,by omega⟩
      have h1:(m+8)/8=m/8+1:=by omega
      have h2:(m+8)%8=m%8:=by omega
      rw [h1,h2,List.getElem!_eq_getElem?_getD,List.getElem?_append_right (by omega),hl,Nat.add_sub_cancel,←List.getElem!_eq_getElem?_getD,tpsC_get r m (by rw [List.length_cons] at h;omega)]
      rfl
theorem flatK_tps (d:Array Tp):Go.Sort.flatK (fun t:Tp=>t.cells.toList) 8 d=(tpsC d.toList).toArray:=by
  refine Go.Sort.ext_get! ?_ fun t ht=>?_
  · rw [Go.Sort.size_flatK]
    show d.size*8=(tpsC d.toList).toArray.size
    simp [tpsC_length]
  · rw [Go.Sort.size_flatK] at ht
    rw [Go.Sort.get_flatK _ _ _ _ ht]
    have:=tpsC_get d.toList t (by rw [Array.length_toList];exact ht)
    have e1:(tpsC d.toList).toArray[t]! =(tpsC d.toList)[t]!:=by simp
    have e2:d.toList[t/8]! =d[t/8]!:=by simp only [getElem!_def,Array.getElem?_toList]
    rw [e1,this,e2]
set_option maxRecDepth 100000 in
theorem SortT (w:World) (base:Nat) (v:Value) (ss:List Tp) (h:w.ownsRow base 31 8 v ss.length (tpsC ss)) (hl:ss.length≤1000000):
    Calls Tryz.prog 109 #[v,.func (.func 110) #[] #[]] w fun e w'=>e= .returned (.tuple #[])∧∃ss',ss'.Perm ss∧(ss'.Pairwise fun x y=>lessN y.nm x.nm=false)∧w'.ownsRow base 31 8 v ss'.length (tpsC ss')∧Frm (Up base) w w':=by
  rcases h.2 with ⟨rfl,h0⟩ | ⟨g,cap,cur,rfl,hbg,hg,hnc,hcm,hcs,htake⟩
  · have hx:ss= []:=List.eq_nil_of_length_eq_zero h0
    subst hx
    refine (AnyF.slices_SortFunc_none Tryz.sortT none 0 _ w).mono ?_
    rintro e w' ⟨he,rfl⟩
    exact ⟨he,[],List.Perm.refl _,List.Pairwise.nil,h,Frm.refl _ _⟩
  · have hcells: ∀j,j<(tpsC ss).length→cur[j]?=(tpsC ss)[j]?:=fun j hj=>by
      rw [←htake,List.getElem?_take,if_pos (by rw [tpsC_length] at hj;exact hj),Array.getElem?_toList]
    have hH:Go.Sort.HoldsK (fun t:Tp=>t.cells.toList) 8 w g 0 ss.toArray:=by
      intro j hj
      rw [Go.Sort.size_flatK] at hj
      have hj2:j<(tpsC ss).length:=by rw [tpsC_length];simpa using hj
      rw [flatK_tps]
      refine ⟨?_,frozen_of_block hg⟩
      rw [Nat.zero_add,cell_of_block hg,hcells j hj2]
      simp [hj2]
    have hcmp:CmpLays Tryz.prog 110 #[] (fun t:Tp=>t.cells.toList) 8 cmpT g 0 ss.toArray.size w:=by
      intro m os dk hdk x y
      obtain ⟨nm,p1,p2,p3,p4,p5,p6,p7⟩:=x
      obtain ⟨nm',q1,q2,q3,q4,q5,q6,q7⟩:=y
      refine (sorted1_any (sortWorldK (fun t:Tp=>t.cells.toList) 8 w g 0 m dk os) nm nm' p1 p2 p3 p4 p5 p7 q1 q2 q3 q4 q5 q7 p6 q6).mono ?_
      rintro e w' ⟨he,hw⟩
      refine ⟨he,0,#[.cells (tpz nm p1 p2 p3 p4 p5 p6 p7) 31 (0,0)]++ #[.cells (tpz nm' q1 q2 q3 q4 q5 q6 q7) 31 (0,0)],?_⟩
      rw [hw,←Go.Sort.grow_grow,←Go.Sort.alloc_eq_grow,←Go.Sort.alloc_eq_grow]
      rfl
    have hL:=AnyQ.slices_SortFunc Tryz.sortT 8 (fun W=>by kernel_rfl) (fun W=>by kernel_rfl) (fun t:Tp=>t.cells.toList) (fun _=>rfl) (fun x v hv=>by
      obtain ⟨nm,p1,p2,p3,p4,p5,p6,p7⟩:=x
      have:=oneTp nm p1 p2 p3 p4 p5 p6 p7
      rw [Array.all_eq_true_iff_forall_mem] at this
      exact this v (Array.mem_toList_iff.1 hv)) cmpT swoT 110 #[] g 0 cap ss.toArray w (enters_of Tryz.func110 (by kernel_rfl) rfl) hcmp hH (lt_of_block hg) (by simp;omega)
    refine hL.mono ?_
    rintro e w' ⟨he,d',n,os,hp,hs,hw⟩
    have hsz:d'.size=ss.length:=hp.1.trans (by simp)
    have hperm:d'.toList.Perm ss:=by
      have h1:=hp.2.2
      have e1:d'.extract 0 ss.toArray.size=d':=by rw [←hp.1];exact Array.extract_size
      have e2:ss.toArray.extract 0 ss.toArray.size=ss.toArray:=Array.extract_size
      rw [e1,e2] at h1
      exact h1
    have hcur:w'.heap[g]?=some (.cells (Go.Sort.putCells id 0 (Go.Sort.flatK (fun t:Tp=>t.cells.toList) 8 d') cur) 31 (0,0)):=by
      rw [hw]
      show (Array.modify w.heap g _++os)[g]?=_
      rw [Array.getElem?_append_left (by rw [Array.size_modify];exact lt_of_block hg),Array.getElem?_modify,if_pos rfl,hg]
      rfl
    refine ⟨he,d'.toList,hperm,?_,⟨by rw [tpsC_length],.inr ⟨g,cap,_,by simp [hsz],hbg,hcur,by rw [Array.length_toList,hsz];exact hnc,hcm,by rw [←hcs];simp [Go.Sort.putCells],?_⟩⟩,?_⟩
    · rw [List.pairwise_iff_getElem]
      intro i j hi hj hij
      rw [Array.length_toList] at hi hj
      have h1:=hs i j (Nat.zero_le _) hij (by rw [←hp.1];exact hj)
      rw [ltOf_cmpT] at h1
      rw [getElem!_pos d' i hi,getElem!_pos d' j hj] at h1
      exact h1
    · apply List.ext_getElem?
      intro i
      rw [Array.length_toList,hsz,List.getElem?_take]
      split
      · rename_i hi
        have hi':i<(tpsC d'.toList).length:=by rw [tpsC_length,Array.length_toList,hsz];exact hi
        have hic:i<cur.size:=by rw [hcs];have:ss.length*8≤cap*8:=Nat.mul_le_mul_right 8 hnc;omega
        rw [Array.getElem?_toList]
        unfold Go.Sort.putCells
        rw [Array.getElem?_mapIdx,Array.getElem?_eq_getElem hic,Option.map_some,if_pos ⟨Nat.zero_le _,by rw [Go.Sort.size_flatK,hsz];omega⟩,flatK_tps,List.getElem?_eq_getElem hi']
        simp [hi']
      · rename_i hi
        rw [List.getElem?_eq_none (by rw [tpsC_length,Array.length_toList,hsz];omega)]
    · rw [hw]
      refine frm_up ?_ rfl rfl rfl hbg fun k hk hne=>?_
      · show w.heap.size≤(Array.modify w.heap g _++os).size
        simp
      · show (Array.modify w.heap g _++os)[k]?=_
        rw [Array.getElem?_append_left (by rw [Array.size_modify];exact hk),Array.getElem?_modify,if_neg (fun e=>hne e.symm)]
theorem run_getObj_iter {P:Program} {w:World} {r:Nat} {m:Option Nat} {s l:Nat} {seen:Array Nat} (hb:w.heap[r]?=some (.mapIter m s seen l)):(getObj r).run P w= .ok (.mapIter m s seen l) w:=by
  simp [getObj,Sem.run,hb]
set_option maxHeartbeats 1000000 in
set_option maxRecDepth 100000 in
theorem valuesNil (w:World) (Bm:Nat) (hBm:Bm<w.heap.size) (hm:w.cell? ⟨Bm,0,none⟩=some (.map none)):
    SeqStopsK Fence.wide 4 Tryz.prog 197 #[.pointer (some ⟨Bm,0,none⟩)] (fun t:Tp=> #[.agg t.cells]) KeepsWalks (fun ss=>ss= []) (fun _=>True) 0 w:=by
  intro l J Jx W hW hJ hJx hY h0
  have hm0:W.cell? ⟨Bm,0,none⟩=some (.map none):=(hW.cell (p:=⟨Bm,0,none⟩) hBm).trans hm
  refine callsIn_of_wp Tryz.func197 rfl trivial ?_ rfl
  simp only [Tryz.ntmps197,List.size_toArray,List.length_cons,List.length_nil,Nat.reduceAdd,Nat.reduceSub,Array.replicate_succ,Array.replicate_zero,List.push_toArray,List.append_toArray,List.nil_append,List.cons_append]
  have HM:=Lib.hid (And.intro hJ hJx)
  have HY:=Lib.hid hY
  have H0:=Lib.hid h0
  clear hm hJ hJx hY h0 hW hBm
  have hrange:(Instr.range 91 (.map none)).run Tryz.prog W= .ok (.pointer (some ⟨W.heap.size,0,none⟩)) (W.alloc (.mapIter none 0 #[] 0)):=by
    simp [Instr.range,run_underlying Tryz.underlying91,Result.andThen,go_sem]
  have hget:(getObj W.heap.size).run Tryz.prog (W.alloc (.mapIter none 0 #[] 0))= .ok (.mapIter none 0 #[] 0) (W.alloc (.mapIter none 0 #[] 0)):=by
    exact run_getObj_iter (block_alloc_new W (.mapIter none 0 #[] 0))
  have hnext: ∀ty,(Instr.next (.pointer (some ⟨W.heap.size,0,none⟩)) false ty).run Tryz.prog (W.alloc (.mapIter none 0 #[] 0))= .ok (.tuple #[.bool false]) (W.alloc (.mapIter none 0 #[] 0)):=fun ty=>by
    simp [Instr.next,hget,Result.andThen,go_sem]
  have HJ0:Hid (J [] (W.alloc (.mapIter none 0 #[] 0))):=Lib.hid (HM.out.1 [] W _ none H0.out (World.grownBy_alloc W _ none) (fun r e=>by cases e))
  obtain ⟨Y,hY⟩: ∃Y,W.alloc (.mapIter none 0 #[] 0)=Y:=⟨_,rfl⟩
  obtain ⟨r,hr⟩: ∃r,W.heap.size=r:=⟨_,rfl⟩
  rw [hY] at hrange hnext HJ0
  rw [hr] at hrange hnext
  clear hget hY hr HY H0 HM
  gi_wp2_with gi_in
  gi_loopw [4] (fun _ wr=>wr=Y) (fun _ _=>0)
  case atStart=>rfl
  case round=>
    obtain rfl:=hrel
    gi_wp2_with gi_in
    go_end0
    exact ⟨⟨_,rfl⟩,.inl ⟨[],rfl,HJ0.out⟩⟩
structure CatL (L:List Tp):Prop where
  asc:L.Pairwise fun x y=>lessN x.nm y.nm=true
  nm: ∀t∈L,t.nm.size≤50
def mapL (L:List Tp):Blk→Option Tp:=fun a=>L.find? fun t=>keyB t.nm==a
theorem lessN_irr (a:ByteArray):lessN a a=false:=by rw [lessN_eq];exact decide_eq_false (List.lt_irrefl _)
theorem lessN_asym {a b:ByteArray} (h:lessN a b=true):lessN b a=false:=by
  rw [lessN_eq] at h ⊢
  exact decide_eq_false fun h2=>List.lt_irrefl _ (List.lt_trans (of_decide_eq_true h) h2)
theorem toList_inj {a b:ByteArray} (h:a.toList=b.toList):a=b:=by
  have h1:a.data.toList=b.data.toList:=by rw [←ByteArray.toList_eq,←ByteArray.toList_eq];exact h
  exact ByteArray.ext (Array.toList_inj.1 h1)
theorem lessN_tri {a b:ByteArray} (h1:lessN a b=false) (h2:lessN b a=false):a=b:=by
  rw [lessN_eq] at h1 h2
  exact toList_inj (List.le_antisymm (List.not_lt.1 (of_decide_eq_false h2)) (List.not_lt.1 (of_decide_eq_false h1)))
theorem CatL.nodup {L:List Tp} (h:CatL L):L.Nodup:=h.asc.imp fun hl e=>by rw [e,lessN_irr] at hl;cases hl
theorem CatL.one {L:List Tp} (h:CatL L) {s t:Tp} (hs:s∈L) (ht:t∈L) (e:s.nm=t.nm):s=t:=by
  obtain ⟨i,hi,rfl⟩:=List.getElem_of_mem hs
  obtain ⟨j,hj,rfl⟩:=List.getElem_of_mem ht
  have ha:=List.pairwise_iff_getElem.1 h.asc
  rcases Nat.lt_trichotomy i j with hlt | rfl | hlt
  · have:=ha i j hi hj hlt
    rw [e,lessN_irr] at this;cases this
  · rfl
  · have:=ha j i hj hi hlt
    rw [e,lessN_irr] at this;cases this
theorem CatL.find {L:List Tp} (h:CatL L) {s:ByteArray} (hs:s.size≤50) {t:Tp}:mapL L (keyB s)=some t↔t∈L∧t.nm=s:=by
  unfold mapL
  constructor
  · intro hf
    have h1:=List.mem_of_find?_eq_some hf
    have h2:=List.find?_some hf
    exact ⟨h1,keyB_inj _ _ (h.nm t h1) hs (by simpa using h2)⟩
  · rintro ⟨h1,rfl⟩
    cases hf:L.find? fun t'=>keyB t'.nm==keyB t.nm with
    | none=>
      have:=List.find?_eq_none.1 hf t h1
      simp at this
    | some t'=>
      have h2:=List.mem_of_find?_eq_some hf
      have h3:=List.find?_some hf
      rw [h.one h2 h1 (keyB_inj _ _ (h.nm t' h2) (h.nm t h1) (by simpa using h3))]
theorem CatL.sub {L:List Tp} {a:Blk} {t:Tp} (h:mapL L a=some t):t∈L∧a=keyB t.nm:=
  ⟨List.mem_of_find?_eq_some h,by have:=List.find?_some h;exact (by simpa using this:keyB t.nm=a).symm⟩
theorem CatL.all {L ss:List Tp} (h:CatL L) (ha:AllOf (mapL L) ss):ss.Perm L:=by
  obtain ⟨ks,hnd,hks,hmap⟩:=ha
  have hmem: ∀t,t∈ss↔t∈L:=fun t=>by
    constructor
    · intro ht
      have:some t∈ss.map some:=List.mem_map.2 ⟨t,ht,rfl⟩
      rw [hmap] at this
      obtain ⟨a,_,ha⟩:=List.mem_map.1 this
      exact (CatL.sub ha).1
    · intro ht
      have hf:=(h.find (h.nm t ht)).2 ⟨ht,rfl⟩
      have hk:keyB t.nm∈ks:=(hks _).2 ⟨keyB_length _ (h.nm t ht),by rw [hf];rfl⟩
      have:some t∈ks.map (mapL L):=List.mem_map.2 ⟨_,hk,hf⟩
      rw [←hmap] at this
      obtain ⟨t',h1,h2⟩:=List.mem_map.1 this
      injection h2 with h2
      rw [←h2];exact h1
  have hnd2:ss.Nodup:=by
    rw [List.Nodup,List.pairwise_iff_getElem]
    intro i j hi hj hij e
    have hlen:ss.length=ks.length:=by have:=congrArg List.length hmap;simpa using this
    have g1:mapL L (ks[i]'(by omega))=some ss[i]:=by
      have:=congrArg (fun l=>l[i]?) hmap
      simp [hi,show i<ks.length by omega] at this
      exact this.symm
    have g2:mapL L (ks[j]'(by omega))=some ss[j]:=by
      have:=congrArg (fun l=>l[j]?) hmap
      simp [hj,show j<ks.length by omega] at this
      exact this.symm
    have k1:=(CatL.sub g1).2
    have k2:=(CatL.sub g2).2
    rw [←e] at k2
    exact (List.pairwise_iff_getElem.1 hnd) i j (by omega) (by omega) hij (k1.trans k2.symm)
  exact (List.perm_ext_iff_of_nodup hnd2 h.nodup).2 hmem
theorem CatL.sorted {L ss ss':List Tp} (h:CatL L) (hp:ss.Perm L) (hp':ss'.Perm ss) (hs:ss'.Pairwise fun x y=>lessN y.nm x.nm=false):ss'=L:=by
  refine List.Perm.eq_of_pairwise (le:=fun x y:Tp=>lessN y.nm x.nm=false) (fun a b ha hb h1 h2=>?_) hs (h.asc.imp fun hl=>lessN_asym hl) (hp'.trans hp)
  exact h.one ((hp'.trans hp).mem_iff.1 ha) hb (lessN_tri h2 h1)
set_option maxRecDepth 100000 in
theorem c_sorted (w:World) (b:Nat) {L:List Tp} (hL:CatL L) (hlen:L.length≤1000) (hmap:MapAt KeyK okK w b L.length (tpV (mapL L))):
    Calls Tryz.prog 47 #[.map (some b)] w fun e w'=> ∃v,e= .returned v∧w'.ownsRow w.heap.size 31 8 v L.length (tpsC L)∧Frm NoB w w':=by
  have hm1:MapAt KeyK okK (w.alloc (.cells #[.map (some b)] 91 (0,0))) b L.length (tpV (mapL L)):=by
    obtain ⟨es,clock,h1,h2⟩:=hmap
    exact ⟨es,clock,block_alloc_old _ h1,h2⟩
  have HV:=Lib.hid (ValuesT w (some b))
  have HC:=Lib.hid (CollectT (w.alloc (.cells #[.map (some b)] 91 (0,0))) 197 #[.pointer (some ⟨w.heap.size,0,none⟩)] (enters_of Tryz.func197 (by kernel_rfl) rfl) _ L.length (by omega)
    (valuesT (w.alloc (.cells #[.map (some b)] 91 (0,0))) w.heap.size b L.length (mapL L) (by simp) (cell_of_block (block_alloc_new w _)) hm1))
  have KS:Hid (∀W v ss,W.ownsRow w.heap.size 31 8 v ss.length (tpsC ss)→ss.length≤1000→Calls Tryz.prog 109 #[v,.func (.func 110) #[] #[]] W fun e w'=>e= .returned (.tuple #[])∧∃ss',ss'.Perm ss∧(ss'.Pairwise fun x y=>lessN y.nm x.nm=false)∧w'.ownsRow w.heap.size 31 8 v ss'.length (tpsC ss')∧Frm (Up w.heap.size) W w'):=Lib.hid fun W v ss h hl=>SortT W w.heap.size v ss h (by omega)
  have HL:=Lib.hid (And.intro hL hlen)
  clear hmap hm1 hL hlen
  go_enter Tryz.func47,Tryz.ntmps47
  go_wp2_with fail
  refine HV.out.mono ?_
  rintro e w1 ⟨rfl,rfl⟩
  go_wp2_with fail
  refine HC.out.mono ?_
  clear HV HC
  rintro e w2 ⟨v,ss,rfl,hall,hrow,hb⟩
  have hp:=HL.out.1.all hall
  have hlss:=hp.length_eq
  have hb2:Frm NoB w w2:=((Frm.refl NoB w).alloc _).trans (Frm.ofBelow hb rfl NoB) (fun _ _ e=>e)
  have hrow2:w2.ownsRow w.heap.size 31 8 v ss.length (tpsC ss):=by
    refine ⟨hrow.1,?_⟩
    rcases hrow.2 with h | ⟨g,cap,cur,h1,h2,h3⟩
    · exact .inl h
    · exact .inr ⟨g,cap,cur,h1,by simp at h2;omega,h3⟩
  have HS:=Lib.hid (KS.out w2 v ss hrow2 (by have:=HL.out.2;omega))
  have HP:=Lib.hid (And.intro hp hb2)
  clear hall hrow hb hp hlss hb2 hrow2 KS
  go_wp2_with fail
  refine HS.out.mono ?_
  clear HS
  rintro e w3 ⟨rfl,ss',hp',hs',hrow3,hf3⟩
  have e3:=HL.out.1.sorted HP.out.1 hp' hs'
  rw [e3] at hrow3
  have H3:=Lib.hid (And.intro hrow3 (HP.out.2.trans hf3 (fun x hx hup=>by have:w.heap.size≤x:=hup;omega)))
  clear hp' hs' hrow3 hf3 e3
  go_wp2
  go_ret
  exact ⟨v,rfl,H3.out.1,H3.out.2⟩
set_option maxRecDepth 100000 in
theorem c_sortedNil (w:World):
    Calls Tryz.prog 47 #[.map none] w fun e w'=> ∃v,e= .returned v∧w'.ownsRow w.heap.size 31 8 v (([]:List Tp).length) (tpsC [])∧Frm NoB w w':=by
  have HV:=Lib.hid (ValuesT w none)
  have HC:=Lib.hid (CollectT (w.alloc (.cells #[.map none] 91 (0,0))) 197 #[.pointer (some ⟨w.heap.size,0,none⟩)] (enters_of Tryz.func197 (by kernel_rfl) rfl) _ 0 (by omega)
    (valuesNil (w.alloc (.cells #[.map none] 91 (0,0))) w.heap.size (by simp) (cell_of_block (block_alloc_new w _))))
  have KS:Hid (∀W v ss,W.ownsRow w.heap.size 31 8 v ss.length (tpsC ss)→ss.length≤1000→Calls Tryz.prog 109 #[v,.func (.func 110) #[] #[]] W fun e w'=>e= .returned (.tuple #[])∧∃ss',ss'.Perm ss∧(ss'.Pairwise fun x y=>lessN y.nm x.nm=false)∧w'.ownsRow w.heap.size 31 8 v ss'.length (tpsC ss')∧Frm (Up w.heap.size) W w'):=Lib.hid fun W v ss h hl=>SortT W w.heap.size v ss h (by omega)
  go_enter Tryz.func47,Tryz.ntmps47
  go_wp2_with fail
  refine HV.out.mono ?_
  rintro e w1 ⟨rfl,rfl⟩
  go_wp2_with fail
  refine HC.out.mono ?_
  clear HV HC
  rintro e w2 ⟨v,ss,rfl,hall,hrow,hb⟩
  have hp:ss= []:=hall
  have hlss:ss.length=0:=by rw [hp];rfl
  have hb2:Frm NoB w w2:=((Frm.refl NoB w).alloc _).trans (Frm.ofBelow hb rfl NoB) (fun _ _ e=>e)
  have hrow2:w2.ownsRow w.heap.size 31 8 v ss.length (tpsC ss):=by
    refine ⟨hrow.1,?_⟩
    rcases hrow.2 with h | ⟨g,cap,cur,h1,h2,h3⟩
    · exact .inl h
    · exact .inr ⟨g,cap,cur,h1,by simp at h2;omega,h3⟩
  have HS:=Lib.hid (KS.out w2 v ss hrow2 (by omega))
  have HP:=Lib.hid (And.intro hp hb2)
  clear hall hrow hb hp hlss hb2 hrow2 KS
  go_wp2_with fail
  refine HS.out.mono ?_
  clear HS
  rintro e w3 ⟨rfl,ss',hp',hs',hrow3,hf3⟩
  have e3:ss'= []:=by have:=HP.out.1;subst this;exact hp'.eq_nil
  rw [e3] at hrow3
  have H3:=Lib.hid (And.intro hrow3 (HP.out.2.trans hf3 (fun x hx hup=>by have:w.heap.size≤x:=hup;omega)))
  clear hp' hs' hrow3 hf3 e3
  go_wp2
  go_ret
  exact ⟨v,rfl,H3.out.1,H3.out.2⟩
def rowC (t:Tp):Blk:=keyB t.nm++t.nums.flatMap be
def rowsC (L:List Tp):Blk:=L.flatMap rowC
def encC (next:Int) (L:List Tp):Blk:=be next++rowsC L
theorem rowC_length (t:Tp) (h:t.nm.size≤50):(rowC t).length=107:=by
  unfold rowC Tp.nums
  simp only [List.flatMap_cons,List.flatMap_nil,List.length_append,be_length,keyB_length _ h,List.length_nil]
theorem rowsC_length: ∀(L:List Tp),(∀t∈L,t.nm.size≤50)→(rowsC L).length=107*L.length
  | [],_=>rfl
  | t::L,h=>by
    have e:rowsC (t::L)=rowC t++rowsC L:=rfl
    rw [e,List.length_append,rowC_length t (h t (List.mem_cons_self ..)),rowsC_length L (fun x hx=>h x (List.mem_cons_of_mem _ hx)),List.length_cons]
    omega
theorem encC_length (next:Int) (L:List Tp) (h: ∀t∈L,t.nm.size≤50):(encC next L).length=8+107*L.length:=by
  unfold encC
  rw [List.length_append,be_length,rowsC_length L h]
def Out (B1 B2:Nat) (v:Value):Prop:= ∀x,v.ownBlock=some x→x<B1∨B2≤x
theorem row_cells {w:World} {base g n cap:Nat} {L:List Tp} (h:w.ownsRow base 31 8 (.slice (some ⟨g,0,none⟩) n cap) n (tpsC L)) {i:Nat} {nm:ByteArray} {p1 p2 p3 p4 p5 p7:Int} {p6:Bool} (hi:L[i]?=some ⟨nm,p1,p2,p3,p4,p5,p6,p7⟩) {k:Nat} (hk:i*8=k):
    w.cell? ⟨g,k,none⟩=some (.string nm)∧w.cell? ⟨g,k+1,none⟩=some (.int .i64 p1)∧w.cell? ⟨g,k+2,none⟩=some (.int .i64 p2)∧w.cell? ⟨g,k+3,none⟩=some (.int .i64 p3)∧w.cell? ⟨g,k+4,none⟩=some (.int .i64 p4)∧
    w.cell? ⟨g,k+5,none⟩=some (.int .i64 p5)∧w.cell? ⟨g,k+6,none⟩=some (.bool p6)∧w.cell? ⟨g,k+7,none⟩=some (.int .i64 p7):=by
  have hil:i<L.length:=(List.getElem?_eq_some_iff.1 hi).1
  have hc: ∀j,j<8→w.cell? ⟨g,k+j,none⟩=some ((tpsC L)[k+j]!):=fun j hj=>by
    have hlt:k+j<(tpsC L).length:=by rw [tpsC_length];omega
    have:=h.cells (g:=g) rfl (k+j) _ (List.getElem?_eq_getElem hlt)
    have e:(⟨g,0,none⟩:Addr).add (k+j)=⟨g,k+j,none⟩:=by unfold Addr.add;split<;>simp_all
    rw [e] at this
    rw [this,getElem!_pos (tpsC L) (k+j) hlt]
  have hv: ∀j,j<8→(tpsC L)[k+j]! =((tpz nm p1 p2 p3 p4 p5 p6 p7).toList)[j]!:=fun j hj=>by
    rw [tpsC_get L (k+j) (by omega),show (k+j)/8=i by omega,show (k+j)%8=j by omega,getElem!_pos L i hil,(List.getElem?_eq_some_iff.1 hi).2]
    rfl
  refine ⟨?_,?_,?_,?_,?_,?_,?_,?_⟩
  · rw [←Nat.add_zero k,hc 0 (by omega),hv 0 (by omega)];rfl
  · rw [hc 1 (by omega),hv 1 (by omega)];rfl
  · rw [hc 2 (by omega),hv 2 (by omega)];rfl
  · rw [hc 3 (by omega),hv 3 (by omega)];rfl
  · rw [hc 4 (by omega),hv 4 (by omega)];rfl
  · rw [hc 5 (by omega),hv 5 (by omega)];rfl
  · rw [hc 6 (by omega),hv 6 (by omega)];rfl
  · rw [hc 7 (by omega),hv 7 (by omega)];rfl
theorem idx7_0 (p1 p2 p3 p4 p5 q6 p7:Int) (W:World):(Instr.index 194 (.agg #[.int .i64 p1,.int .i64 p2,.int .i64 p3,.int .i64 p4,.int .i64 p5,.int .i64 q6,.int .i64 p7]) (.int .i64 0)).run Tryz.prog W= .ok (.int .i64 p1) W:=by kernel_rfl
theorem idx7_1 (p1 p2 p3 p4 p5 q6 p7:Int) (W:World):(Instr.index 194 (.agg #[.int .i64 p1,.int .i64 p2,.int .i64 p3,.int .i64 p4,.int .i64 p5,.int .i64 q6,.int .i64 p7]) (.int .i64 1)).run Tryz.prog W= .ok (.int .i64 p2) W:=by kernel_rfl
theorem idx7_2 (p1 p2 p3 p4 p5 q6 p7:Int) (W:World):(Instr.index 194 (.agg #[.int .i64 p1,.int .i64 p2,.int .i64 p3,.int .i64 p4,.int .i64 p5,.int .i64 q6,.int .i64 p7]) (.int .i64 2)).run Tryz.prog W= .ok (.int .i64 p3) W:=by kernel_rfl
theorem idx7_3 (p1 p2 p3 p4 p5 q6 p7:Int) (W:World):(Instr.index 194 (.agg #[.int .i64 p1,.int .i64 p2,.int .i64 p3,.int .i64 p4,.int .i64 p5,.int .i64 q6,.int .i64 p7]) (.int .i64 3)).run Tryz.prog W= .ok (.int .i64 p4) W:=by kernel_rfl
theorem idx7_4 (p1 p2 p3 p4 p5 q6 p7:Int) (W:World):(Instr.index 194 (.agg #[.int .i64 p1,.int .i64 p2,.int .i64 p3,.int .i64 p4,.int .i64 p5,.int .i64 q6,.int .i64 p7]) (.int .i64 4)).run Tryz.prog W= .ok (.int .i64 p5) W:=by kernel_rfl
theorem idx7_5 (p1 p2 p3 p4 p5 q6 p7:Int) (W:World):(Instr.index 194 (.agg #[.int .i64 p1,.int .i64 p2,.int .i64 p3,.int .i64 p4,.int .i64 p5,.int .i64 q6,.int .i64 p7]) (.int .i64 5)).run Tryz.prog W= .ok (.int .i64 q6) W:=by kernel_rfl
theorem idx7_6 (p1 p2 p3 p4 p5 q6 p7:Int) (W:World):(Instr.index 194 (.agg #[.int .i64 p1,.int .i64 p2,.int .i64 p3,.int .i64 p4,.int .i64 p5,.int .i64 q6,.int .i64 p7]) (.int .i64 6)).run Tryz.prog W= .ok (.int .i64 p7) W:=by kernel_rfl
structure EncB (w w1 w2:World) (L:List Tp) (sv:Value) (bs:Blk) (v:Value) (wr:World):Prop where
  own:OwnB wr w.heap.size v bs
  out:Out w1.heap.size w2.heap.size v
  row:wr.ownsRow w1.heap.size 31 8 sv L.length (tpsC L)
  rb: ∀x,sv.ownBlock=some x→w1.heap.size≤x∧x<w2.heap.size
  frm:Frm NoB w wr
  size:w2.heap.size≤wr.heap.size
theorem OwnB.block {w:World} {base:Nat} {v:Value} {bs:Blk} (h:OwnB w base v bs) {x:Nat} (hx:v.ownBlock=some x):base≤x∧x<w.heap.size:=by
  rcases h.2 with ⟨rfl,_⟩ | ⟨g,cap,cur,rfl,h2,hg,_⟩
  · cases hx
  · obtain rfl:g=x:=by simpa [Value.ownBlock] using hx
    exact ⟨h2,lt_of_block hg⟩
theorem EncB.step {w w1 w2 wr w':World} {L:List Tp} {sv v v':Value} {bs bs':Blk} (h:EncB w w1 w2 L sv bs v wr) (h':OwnB w' w.heap.size v' bs') (hf:Frm (OwnV v) wr w') (hv: ∀x,v'.ownBlock=some x→v.ownBlock=some x∨wr.heap.size≤x):EncB w w1 w2 L sv bs' v' w':=by
  refine ⟨h',fun x hx=>?_,?_,h.rb,h.frm.trans hf (fun x hx hvx=>by have:=(h.own.block hvx).1;omega),Nat.le_trans h.size hf.size⟩
  · rcases hv x hx with e | e
    · exact h.out x e
    · exact .inr (Nat.le_trans h.size e)
  · refine ⟨h.row.1,?_⟩
    rcases h.row.2 with hn | ⟨g,cap,cur,e,h2,hg,h4⟩
    · exact .inl hn
    · refine .inr ⟨g,cap,cur,e,h2,(hf.block g (lt_of_block hg) fun hvx=>?_).trans hg,h4⟩
      have r:=h.rb g (by rw [e];rfl)
      rcases h.out g hvx with q | q<;>omega
theorem EncB.keep {w w1 w2 wr w':World} {L:List Tp} {sv v:Value} {bs:Blk} (h:EncB w w1 w2 L sv bs v wr) (hf:Frm NoB wr w'):EncB w w1 w2 L sv bs v w':=
  h.step (h.own.frm hf) (hf.mono fun _ _ e=>e.elim) fun x hx=> .inl hx
end
end Go.Proofs.YtlemndledcmhiaaGreatDoor
