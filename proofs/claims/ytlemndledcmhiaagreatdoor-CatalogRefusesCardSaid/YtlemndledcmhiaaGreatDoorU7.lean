/-
  The catalog, from the device up, part 7.
-/
import Derived.Test.YtlemndledcmhiaaGreatDoorU6
import Derived.Laws.Tables
import Derived.Laws.Rows
namespace Go.Proofs.YtlemndledcmhiaaGreatDoor
set_option linter.unusedVariables false
set_option linter.unusedSimpArgs false
section
open Go.ChangeMaps Go.MapKept Go.RowKit
variable {w0:Gnd} {w:World} {rs:List Res} {cb wb:Nat} {op ov:Bool} {l:WrL} {H:Hdl} {jh:JHdl} {J:JSt}
set_option maxHeartbeats 1000000 in
set_option maxRecDepth 100000 in
theorem S_cCommit (h:St w0 w (cst cb jh.jb true ov wb::wrt wb l::jrn H jh J::rs)) (hkeys: ∀p∈l,okI p.1) (h512: ∀p∈l,p.2.length=512) (hlen:l.length≤1000) {Post:Ending→World→Prop}
    (hpost: ∀ks v vs W,ks.Pairwise (· < ·)→(∀a,a∈ks↔(look l a).isSome=true)→ks.length=l.length→St w0 W (jrn H jh J::chgs v ks vs (ks.map fun k=>(look l k).getD zeros)::cst cb jh.jb false ov wb::wrt wb []::rs)→
      Calls Tryz.prog 187 #[.pointer (some ⟨jh.jb,0,none⟩),v] W fun e w'=>(∃x,e= .returned (.int .i64 x))∧Post e w'):
    Calls Tryz.prog 96 #[.pointer (some ⟨cb,0,none⟩)] w Post:=by
  have HO:=Lib.hid (S_cOpen h)
  have HP:=Lib.hid hpost
  have H512:=Lib.hid h512
  have c3:w.cell? ⟨cb,3,none⟩=some (.map (some wb)):=(h.arrCell (i:=0) rfl 3).trans rfl
  have HK:=Lib.hid (Keys_anyC wb w)
  have HS:Hid (Calls Tryz.prog 70 #[.func (.func 249) #[] #[.pointer (some ⟨w.heap.size,0,none⟩)]] (w.alloc (.cells #[.map (some wb)] 242)) fun e w'=>
      ∃v ks,e= .returned v∧(ks.Pairwise (· < ·)∧(∀a,a∈ks↔(look l a).isSome=true)∧ks.length=l.length)∧St w0 w' (keyR v ks::cst cb jh.jb true ov wb::wrt wb l::jrn H jh J::rs)):=Lib.hid (by
    obtain ⟨F,hm,hf⟩:=h.get (i:=1) rfl
    refine (Sorted_anyC wb l.length F w hm (by omega)).mono ?_
    rintro e w' ⟨v,ks,he,hks,hrow,hfr⟩
    refine ⟨v,ks,he,⟨hks.sorted,fun a=>?_,hks.len⟩,h.mkKeys hfr hrow⟩
    rw [hks.mem a]
    constructor
    · rintro ⟨h1,h2⟩
      rw [hf a h1,Option.isSome_map] at h2
      exact h2
    · intro h2
      have hok:okI a:=by
        obtain ⟨p,hp,e⟩:=List.mem_map.1 ((look_mem l a).1 h2)
        rw [←e];exact hkeys p hp
      exact ⟨hok,by rw [hf a hok,Option.isSome_map];exact h2⟩)
  have HKEY:=Lib.hid hkeys
  have HLEN:=Lib.hid hlen
  clear h hpost h512 hkeys hlen
  go_enter Tryz.func96,Tryz.ntmps96
  go_wp2_with fail
  refine HO.out.mono ?_
  rintro e w2 ⟨rfl,rfl⟩
  clear HO
  go_wp2_with (first
    | (go_at_call 185;refine HK.out.mono ?_;rintro e w2k ⟨rfl,rfl⟩)
    | (go_at_call 70;refine HS.out.mono ?_;rintro e w3 ⟨kv,ks,rfl,hks,h3⟩;obtain ⟨ka,kc,hkv⟩:=keyRow (h3.get (i:=0) rfl);subst hkv;have HKS:=Lib.hid hks;have H3:=Lib.hid h3;clear hks h3))
  clear HK HS c3
  have HN:=Lib.hid (show St w0 w3 (chgs (.slice none 0 0) [] [] []::keyR (.slice ka ks.length kc) ks::cst cb jh.jb true ov wb::wrt wb l::jrn H jh J::rs) from H3.out.noChgs)
  have hkl0:(0:Int)≤((ks.length:Nat):Int):=Int.natCast_nonneg _
  have hkl1:((ks.length:Nat):Int)≤1000:=by have:=HKS.out.2.2;have:=HLEN.out;omega
  clear H3
  go_loopw [3,17] (fun v t wr=> ∃(i:Nat) (vs:List Value),i≤ks.length∧t= .int .i64 i∧St w0 wr (chgs v (ks.take i) vs ((ks.map fun k=>(look l k).getD zeros).take i)::keyR (.slice ka ks.length kc) ks::cst cb jh.jb true ov wb::wrt wb l::jrn H jh J::rs)) (fun _ t _=>ks.length-(intOf t).toNat)
  case atStart=>exact ⟨0,[],Nat.zero_le _,rfl,HN.out⟩
  case round=>
    clear HN
    obtain ⟨i,vs,hi,rfl,hst⟩:=hrel
    have HST:=Lib.hid hst
    clear hst
    by_cases hlt:i<ks.length
    · have hi0:(0:Int)≤(i:Int):=Int.natCast_nonneg _
      have hi1:(i:Int)<(ks.length:Int):=by omega
      obtain ⟨kx,hx⟩: ∃kx,ks[i]?=some kx:=⟨_,List.getElem?_eq_getElem hlt⟩
      have hkr:=HST.out.get (i:=1) rfl
      obtain ⟨ka',kc',e1,_,hcs⟩:=RowAt.cases hkr
      injection e1 with e1 e2 e3
      subst e1
      obtain ⟨gb,go,rfl,_,ck,_,_⟩:=hcs i (IntK kx) (by rw [List.getElem?_map,hx];rfl)
      have ck:wr.cell? ⟨gb,go+i,none⟩=some (.int .i64 kx):=ck
      have hsm:=(HKS.out.2.1 kx).1 (List.mem_of_getElem? hx)
      obtain ⟨b,hb⟩: ∃b,look l kx=some b:=Option.isSome_iff_exists.1 hsm
      have hbl:b.length=512:=H512.out _ (look_in hb)
      have hok:okI kx:=HKEY.out _ (look_in hb)
      have hlk:=HST.out.wrtGet (i:=3) rfl hok hb wr rfl
      have c3:wr.cell? ⟨cb,3,none⟩=some (.map (some wb)):=(HST.out.arrCell (i:=2) rfl 3).trans rfl
      have HNB:=Lib.hid (block_alloc_new wr (.cells zc 257 (0,0)))
      have HBL:=Lib.hid hbl
      have HX:=Lib.hid hx
      have HB:=Lib.hid hb
      clear hkr hcs hsm hbl hok hx hb e2 e3
      go_upto_region 8 with (first | refine allocArr rfl rfl ?_ | refine storeArr rfl _ _ rfl wr.heap.size b HBL.out rfl rfl zc zc_size HNB.out ?_)
      rw [setRow_new]
      have H4:=Lib.hid (HST.out.mkByt ((Frm.refl NoB wr).alloc (.cells (b.map B8).toArray 257 (0,0))) (arr_at wr b HBL.out))
      obtain ⟨w4,hw4⟩: ∃w4,w4=wr.alloc (.cells (b.map B8).toArray 257 (0,0)):=⟨_,rfl⟩
      rw [←hw4] at H4 ⊢
      clear hw4 hlk c3 ck HNB HST
      generalize wr.heap.size=nb at*
      have HLK:Hid ((ks.take i).length≤1000):=Lib.hid (by rw [List.length_take];omega)
      have HO:=Lib.hid (World.ownsRow.alloc (H4.out.get (i:=1) rfl).1 (.cells #[.int .i64 (kx),.slice (some ⟨nb,0,none⟩) 512 512] 274 (0,0)))
      have HNW:Hid (∀(j:Nat) x,([.int .i64 (kx),.slice (some ⟨nb,0,none⟩) 512 512]:List Value)[j]?=some x→(w4.alloc (.cells #[.int .i64 (kx),.slice (some ⟨nb,0,none⟩) 512 512] 274 (0,0))).cell? ((⟨w4.heap.size,0,none⟩:Addr).add j)=some x):=Lib.hid (new_two w4 _ _ _)
      obtain ⟨ii,hi0i,hz0,hz1,hz2⟩:=info_parts infoChg
      go_wp2_with (at_builtin;refine wpList_append_own_at _ rfl _ _ 271 rfl 0 274 ii (.agg #[.int .i64 0,.slice none 0 0]) 2 32 Tryz.underlying271 hi0i hz0 hz1 hz2 rfl (by decide) _ _ _ rfl HO.out ⟨w4.heap.size,0,none⟩ 1 1 [.int .i64 (kx),.slice (some ⟨nb,0,none⟩) 512 512] rfl rfl HNW.out ?qa0 ?qa1 ?qa2 ?qa3 ?_)
      case qa0=>first | exact ⟨rfl,rfl⟩ | (intro x hx;simp at hx;rcases hx with rfl | rfl<;>rfl)
      case qa1=>have:=HLK.out;simp only [maxLen];omega
      case qa2=>have:=HLK.out;omega
      try case qa3=>omega
      intro v' w5 ho hg2 hnn hat
      have h7:=H4.out.chgsAppend 1 0 rfl rfl (kx) (.cells #[.int .i64 (kx),.slice (some ⟨nb,0,none⟩) 512 512] 274 (0,0)) rfl (by first | exact ho | (rw [List.length_take,Nat.min_eq_left (Nat.le_of_lt hlt)];exact ho)) hg2 (by first | exact hat | (simp only [size_alloc] at hat ⊢;exact hat))
      have H7:=Lib.hid (h7.drop 1)
      clear ho hg2 hnn hat h7 HO HNW H4
      have HT1:Hid (ks.take (i+1)=ks.take i++ [kx]):=Lib.hid (by
        obtain ⟨h1,h2⟩:=List.getElem?_eq_some_iff.1 HX.out
        rw [List.take_succ_eq_append_getElem h1,h2])
      have HT2:Hid ((ks.map fun k=>(look l k).getD zeros).take (i+1)=(ks.map fun k=>(look l k).getD zeros).take i++ [b]):=Lib.hid (by
        rw [←List.map_take,←List.map_take,HT1.out,List.map_append]
        simp [HB.out])
      rw [←HT1.out,←HT2.out] at H7
      go_wp2
      first | exact ⟨⟨i+1,_,hlt,by go_num,H7.out⟩,by simp [intOf];omega⟩ | (go_roundw;case rel=>first | exact ⟨i+1,_,hlt,by go_num,H7.out⟩ | ((repeat apply Exists.intro);exact ⟨⟨i+1,_,hlt,by go_num,H7.out⟩,rfl⟩);case measure=>simp [intOf];omega)
    · have hi1: ¬(i:Int)<(ks.length:Int):=by omega
      have hil:i=ks.length:=by omega
      have h5:=HST.out
      rw [hil,List.take_length,List.take_of_length_le (by simp)] at h5
      have H5:=Lib.hid ((h5.drop2nd).perm (List.perm_append_comm (l₁:= [_]) (l₂:= [_,_]) |>.append_right _))
      have HD:=Lib.hid (S_cDone H5.out)
      clear h5 hil HST
      go_wp2_with fail
      refine HD.out.mono ?_
      clear HD H5
      rintro e w6 ⟨rfl,h6⟩
      have c0:w6.cell? ⟨cb,0,none⟩=some (.pointer (some ⟨jh.jb,0,none⟩)):=(h6.arrCell (i:=0) rfl 0).trans rfl
      have HC:=Lib.hid (HP.out ks _ vs w6 HKS.out.1 HKS.out.2.1 HKS.out.2.2 (h6.perm (((List.perm_append_comm (l₁:= [_,_]) (l₂:= [_,_]))).append_right _ |>.trans (List.Perm.swap _ _ _))))
      clear h6
      go_wp2_with fail
      refine HC.out.mono ?_
      clear HC c0
      rintro e w7 ⟨⟨y,rfl⟩,hp⟩
      have HPP:=Lib.hid hp
      clear hp
      go_wp2
      exact HPP.out
end
section
open Go.ChangeMaps Go.MapKept Go.RowKit
def stC (n:Nat) (f:Nat→Int):Array Value:=((List.range n).map fun k=>Value.int .i64 (f k)).toArray
theorem stC_size (n:Nat) (f:Nat→Int):(stC n f).size=n:=by simp [stC]
theorem stC_get (n:Nat) (f:Nat→Int) (k:Nat) (h:k<n):(stC n f)[k]?=some (.int .i64 (f k)):=by simp [stC,h]
theorem over_length: ∀(o:List Nat) (dt:List Blk) (C:Nat→Blk) (k:Nat),(∀b∈dt,b.length=512)→(∀k,(C k).length=512)→(over o dt C k).length=512
  | [],_,C,k,_,h=>by unfold over;exact h k
  | x::o,[],C,k,_,h=>by unfold over;exact h k
  | x::o,b::dt,C,k,hb,h=>by
    unfold over
    split
    · exact hb b (by simp)
    · exact over_length o dt C k (fun c hc=>hb c (by simp [hc])) h
theorem stC_one (n:Nat) (f:Nat→Int):(stC n f).all (·.oneCell')=true:=by
  rw [Array.all_eq_true_iff_forall_mem]
  intro v hv
  unfold stC at hv
  rw [List.mem_toArray,List.mem_map] at hv
  obtain ⟨k,_,rfl⟩:=hv
  rfl
theorem St.setRow {w0:Gnd} {w:World} {rs:List Res} (h:St w0 w rs) (i:Nat) {b:Nat} {c:Array Value} {t:TypeId} {ht: ¬U8T t} (hr:rs[i]?=some (arr b c t ht)) (c':Array Value):St w0 (w.setRow b c') (rs.set i (arr b c' t ht)):=by
  have hb:w.heap[b]?=some (.cells c t (0,0)):=h.get hr
  have hf:Frm (Only b) w (w.setRow b c'):=⟨rfl,rfl,rfl,by rw [size_setRow];exact Nat.le_refl _,fun k hk hne=>setRow_other w b k c' (fun e=>hne e)⟩
  exact h.write i hr hf (arr b c' t ht) (setRow_heap w b c c' t _ hb) (fun _ hx=> .inl hx)
def cvw (l:WrL) (s:Nat→Blk):Nat→Blk:=fun k=>(look l (k:Int)).getD (s k)
structure COk (n:Nat) (l:WrL):Prop where
  home: ∀p∈l,245≤p.1∧p.1<(n:Int)
  b512: ∀p∈l,p.2.length=512
  nodup:(l.map (·.1)).Nodup
  few:l.length≤60
theorem COk.nil (n:Nat):COk n []:=⟨fun _ h=>(by cases h),fun _ h=>(by cases h),List.nodup_nil,Nat.zero_le _⟩
theorem COk.put {n:Nat} {l:WrL} (h:COk n l) (k:Int) (b:Blk) (hk:245≤k∧k<(n:Int)) (hb:b.length=512) (hr:(look l k).isSome=true∨l.length<60):COk n (putW l k b):=by
  refine ⟨put_all k b h.home hk,put_all k b h.b512 hb,put_nodup h.nodup k b,?_⟩
  rw [put_length]
  have:=h.few
  split
  · exact this
  · rename_i hs
    rcases hr with hr | hr
    · exact absurd hr hs
    · omega
theorem COk.okI {n:Nat} {l:WrL} (h:COk n l) (hn:n≤65536): ∀p∈l,okI p.1:=fun p hp=>(okI_iff _).2 (by have:=h.home p hp;omega)
theorem COk.keys {n:Nat} {l:WrL} (h:COk n l) {ks:List Int} (hs:ks.Pairwise (· < ·)) (hm: ∀a,a∈ks↔(look l a).isSome=true) (hl:ks.length=l.length):
    ∃ks':List Nat,ks=ks'.map (fun k:Nat=>(k:Int))∧MayL n ks' (ks.map fun k=>(look l k).getD zeros)∧(∀d∈ks.map fun k=>(look l k).getD zeros,d.length=512)∧∀s k,over ks' (ks.map fun k=>(look l k).getD zeros) s k=cvw l s k:=by
  have hk: ∀a∈ks,245≤a∧a<(n:Int):=fun a ha=>by
    obtain ⟨p,hp,e⟩:=List.mem_map.1 ((look_mem l a).1 ((hm a).1 ha))
    rw [←e];exact h.home p hp
  have e1:ks=(ks.map Int.toNat).map (fun k:Nat=>(k:Int)):=by
    rw [List.map_map]
    refine (List.map_id _).symm.trans (List.map_congr_left fun a ha=>?_)
    have:=hk a ha
    simp only [id,Function.comp]
    omega
  have hnd:(ks.map Int.toNat).Nodup:=by
    rw [List.nodup_iff_pairwise_ne,List.pairwise_map]
    refine List.Pairwise.imp_of_mem ?_ hs
    intro a b ha hb hab
    have:=hk a ha
    have:=hk b hb
    omega
  refine ⟨ks.map Int.toNat,e1,⟨fun k hk'=>?_,hnd,?_,?_⟩,fun d hd=>?_,fun s k=>?_⟩
  · obtain ⟨a,ha,rfl⟩:=List.mem_map.1 hk'
    have:=hk a ha
    omega
  · rw [List.length_map,hl];exact h.few
  · rw [List.length_map,List.length_map]
  · obtain ⟨a,ha,rfl⟩:=List.mem_map.1 hd
    cases hb:look l a with
    | none=>exact zeros_length
    | some b=>exact h.b512 _ (look_in hb)
  · by_cases hmem:k∈ks.map Int.toNat
    · obtain ⟨i,hi⟩:=List.getElem?_of_mem hmem
      rw [List.getElem?_map] at hi
      cases hq:ks[i]? with
      | none=>rw [hq] at hi;cases hi
      | some a=>
        rw [hq] at hi
        have hka:=hk a (List.mem_of_getElem? hq)
        have ea:a=(k:Int):=by simp at hi;omega
        have hsm:=(hm a).1 (List.mem_of_getElem? hq)
        obtain ⟨b,hb⟩:=Option.isSome_iff_exists.1 hsm
        rw [over_at _ _ _ i k b hnd (by rw [List.getElem?_map,hq];simp [ea]) (by rw [List.getElem?_map,hq];simp [hb])]
        unfold cvw
        rw [←ea,hb];rfl
    · rw [over_not _ _ _ _ hmem]
      unfold cvw
      cases hb:look l (k:Int) with
      | none=>rfl
      | some b=>
        exact absurd (List.mem_map.2 ⟨(k:Int),(hm _).2 (by rw [hb];rfl),by simp⟩) hmem
end
section
open Go.ChangeMaps Go.MapKept Go.RowKit
variable {w0:Gnd} {w:World} {rs:List Res} {cb wb:Nat} {ov:Bool} {l:WrL} {H:Hdl} {jh:JHdl} {J:JSt}
theorem S_cCommitL (h:St w0 w (cst cb jh.jb true ov wb::wrt wb l::jrn H jh J::rs)) (a:Nat) {D:DSt} (hr:rs[a]?=some (dev H D)) {n g m:Nat} {s:Nat→Blk} (hL:Live n g m J D s) (hK:COk n l) (h246:246≤n) (hn:n≤65536) (hm:m<18446744073709551615) (hg:g<18446744073709551616) (ho:D.ops<1000000000) (hlim:D.lim=none):
    Calls Tryz.prog 96 #[.pointer (some ⟨cb,0,none⟩)] w fun e w'=> ∃jh' J' D',jh'.jb=jh.jb∧e= .returned (.int .i64 0)∧St w0 w' (cst cb jh.jb false ov wb::wrt wb []::jrn H jh' J'::rs.set a (dev H D'))∧Live n g (m+1) J' D' (cvw l s)∧D'.lim=none∧D'.ops≤D.ops+123:=by
  refine S_cCommit h (hK.okI hn) hK.b512 (by have:=hK.few;omega) (fun ks v vs W h1 h2 h3 hst=>?_)
  obtain ⟨ks',e1,hmay,h512,hov⟩:=hK.keys h1 h2 h3
  generalize hds:(ks.map fun k=>(look l k).getD zeros)=ds at*
  subst e1
  refine (S_CommitL hst (a+3) 0 hr rfl hL hmay h512 h246 hn hm hg ho hlim (by omega)).mono ?_
  rintro e w' ⟨jh',J',D',hjb,he,hst',hl',hlim',hops'⟩
  refine ⟨⟨0,he⟩,jh',J',D',hjb,he,?_,hl'.congr (fun k _ _=>hov s k),hlim',hops'⟩
  have hst':St w0 w' (jrn H jh' J'::chgs _ _ _ _::cst cb jh.jb false ov wb::wrt wb []::rs.set a (dev H D')):=hst'
  exact hst'.drop2nd.perm ((List.perm_append_comm (l₁:= [_]) (l₂:= [_,_])).append_right _)
end
section
open Go.ChangeMaps Go.MapKept Go.RowKit
theorem allocRow {ops:Array Oper} {rest:List Oper} {o:Oper} {a:Act} {w:World} {Q:Exit→Act→World→Prop} (hg:o.guard=none) (t:TypeId) (cs:Array Value) (hz: ∀W,(zeroValue t).run Tryz.prog W= .ok (.agg cs) W) (ho:o.op= .alloc t)
    (h:wpList Tryz.prog ops Q rest (a.put o.dst (.pointer (some ⟨w.heap.size,0,none⟩))) (w.alloc (.cells cs t (0,0)))):wpList Tryz.prog ops Q (o::rest) a w:=
  Go.Great.wpList_runTo hg o.dst rfl _ _ (by
    have hr:(Instr.alloc t true (.tuple #[])).run Tryz.prog w= .ok (.pointer (some ⟨w.heap.size,0,none⟩)) (w.alloc (.cells cs t (0,0))):=by
      simp only [Instr.alloc,Sem.run_bind,hz,Result.andThen_ok]
      rfl
    unfold execOp
    simp only [ho,Sem.run_bind,hr,Result.andThen_ok]
    rfl) h
def setF {α:Type} (f:Nat→α) (k:Nat) (x:α):Nat→α:=fun j=>if j=k then x else f j
theorem stC_setF (n:Nat) (f:Nat→Int) (k:Nat) (x:Int) (h:k<n):(stC n f).setIfInBounds k (.int .i64 x)=stC n (setF f k x):=by
  apply Array.ext'
  rw [Array.toList_setIfInBounds]
  unfold stC setF
  apply List.ext_getElem?
  intro i
  simp only [List.getElem?_set,List.length_map,List.length_range,List.getElem?_map]
  by_cases e:k=i
  · subst e;simp [h]
  · rw [if_neg e]
    by_cases hi:i<n
    · simp [hi,Ne.symm e]
    · simp [hi]
end
section
def bitAt (b:Blk) (k:Nat):Bool:=(b.getD (k/8) 0).toNat.testBit (k%8)
def byteSet (x:UInt8) (i:Nat) (on:Bool):UInt8:=if on then UInt8.ofNat (x.toNat ||| 2 ^ i) else UInt8.ofNat (x.toNat &&& (255-2 ^ i))
def setBit (b:Blk) (k:Nat) (on:Bool):Blk:=b.set (k/8) (byteSet (b.getD (k/8) 0) (k%8) on)
theorem two_pow_le (i:Nat) (h:i<8):2 ^ i≤128:=by
  have:2 ^ i≤2 ^ 7:=Nat.pow_le_pow_right (by omega) (by omega)
  omega
theorem byteSet_nat (x:UInt8) (i:Nat) (h:i<8) (on:Bool):(byteSet x i on).toNat=if on then x.toNat ||| 2 ^ i else x.toNat &&& (255-2 ^ i):=by
  have hx:x.toNat<2 ^ 8:=x.toNat_lt
  have h2:=two_pow_le i h
  unfold byteSet
  cases on with
  | true=>
    rw [if_pos rfl,if_pos rfl,UInt8.toNat_ofNat']
    exact Nat.mod_eq_of_lt (Nat.or_lt_two_pow hx (by omega))
  | false=>
    rw [if_neg (by simp),if_neg (by simp),UInt8.toNat_ofNat']
    exact Nat.mod_eq_of_lt (Nat.lt_of_le_of_lt Nat.and_le_left hx)
theorem byteSet_bit (x:UInt8) (i j:Nat) (hi:i<8) (hj:j<8) (on:Bool):(byteSet x i on).toNat.testBit j=if j=i then on else x.toNat.testBit j:=by
  rw [byteSet_nat x i hi]
  cases on with
  | true=>
    rw [if_pos rfl,Nat.testBit_or,Nat.testBit_two_pow]
    by_cases e:j=i
    · rw [if_pos e];simp [e]
    · rw [if_neg e];simp [Ne.symm e]
  | false=>
    have h2:=two_pow_le i hi
    rw [if_neg (by simp),Nat.testBit_and,show 255-2 ^ i=2 ^ 8-(2 ^ i+1) from by omega,Nat.testBit_two_pow_sub_succ (by omega),Nat.testBit_two_pow]
    by_cases e:j=i
    · rw [if_pos e];simp [e]
    · rw [if_neg e];simp [Ne.symm e,hj]
theorem setBit_length (b:Blk) (k:Nat) (on:Bool):(setBit b k on).length=b.length:=by unfold setBit;rw [List.length_set]
theorem bitAt_setBit (b:Blk) (k:Nat) (on:Bool) (h:k/8<b.length) (j:Nat):bitAt (setBit b k on) j=if j=k then on else bitAt b j:=by
  unfold bitAt setBit
  by_cases e:j/8=k/8
  · rw [e,List.getD_eq_getElem?_getD,List.getElem?_set_self h,Option.getD_some,byteSet_bit _ _ _ (Nat.mod_lt _ (by omega)) (Nat.mod_lt _ (by omega))]
    by_cases e2:j=k
    · subst e2;rw [if_pos rfl,if_pos rfl]
    · rw [if_neg e2,if_neg (by omega)]
  · rw [List.getD_eq_getElem?_getD,List.getElem?_set_ne (Ne.symm e),←List.getD_eq_getElem?_getD]
    rw [if_neg (fun h=>e (by rw [h]))]
def firstZ (b:Blk) (n:Nat):Option Nat:=(List.range n).find? fun k=>!bitAt b k
theorem firstZ_some {b:Blk} {n k:Nat} (h:firstZ b n=some k):k<n∧bitAt b k=false:=by
  have h1:=List.find?_some h
  have h2:=List.mem_of_find?_eq_some h
  exact ⟨List.mem_range.1 h2,by simpa using h1⟩
theorem firstZ_none {b:Blk} {n:Nat} (h:firstZ b n=none) (k:Nat) (hk:k<n):bitAt b k=true:=by
  have:=List.find?_eq_none.1 h k (List.mem_range.2 hk)
  simpa using this
theorem firstZ_at {b:Blk} {n k:Nat} (hk:k<n) (h:bitAt b k=false) (hlt: ∀j,j<k→bitAt b j=true):firstZ b n=some k:=by
  cases hf:firstZ b n with
  | none=>rw [firstZ_none hf k hk] at h;cases h
  | some j=>
    obtain ⟨h1,h2⟩:=firstZ_some hf
    rcases Nat.lt_trichotomy j k with hj | hj | hj
    · rw [hlt j hj] at h2;cases h2
    · rw [hj]
    · exfalso
      obtain ⟨i,hi,e,hall⟩: ∃i:Nat,∃hi:i<(List.range n).length,(List.range n)[i]=j∧∀a:Nat,(ha:a<i)→(!bitAt b ((List.range n)[a]'(by omega)))=false:=by
        obtain ⟨l1,l2,hp,hall⟩:=(List.find?_eq_some_iff_append.1 hf).2
        refine ⟨l1.length,?_,?_,fun a ha=>?_⟩
        · rw [hp];simp
        · simp [hp]
        · have:(List.range n)[a]'(by rw [hp];simp;omega)=l1[a]:=by simp only [hp];exact List.getElem_append_left ha
          rw [this]
          have:=hall _ (List.getElem_mem ha)
          simpa using this
      rw [List.getElem_range] at e
      have:=hall k (by omega)
      rw [List.getElem_range,h] at this
      cases this
def popc (b:Blk) (n:Nat):Nat:=((List.range n).filter (bitAt b)).length
theorem popc_succ (b:Blk) (n:Nat):popc b (n+1)=popc b n+if bitAt b n then 1 else 0:=by
  unfold popc
  rw [List.range_succ,List.filter_append,List.length_append,List.filter_cons,List.filter_nil]
  split<;>rfl
theorem popc_le (b:Blk) (n:Nat):popc b n≤n:=by
  unfold popc
  have:=List.length_filter_le (bitAt b) (List.range n)
  rw [List.length_range] at this
  exact this
theorem popc_congr {b c:Blk} {n:Nat} (h: ∀k,k<n→bitAt b k=bitAt c k):popc b n=popc c n:=by
  induction n with
  | zero=>rfl
  | succ n ih=>rw [popc_succ,popc_succ,ih (fun k hk=>h k (by omega)),h n (by omega)]
theorem popc_set_on {b:Blk} {n k:Nat} (hk:k<n) (hl:k/8<b.length) (h:bitAt b k=false):popc (setBit b k true) n=popc b n+1:=by
  induction n with
  | zero=>omega
  | succ n ih=>
    rw [popc_succ,popc_succ,bitAt_setBit b k true hl]
    by_cases e:n=k
    · subst e
      rw [if_pos rfl,h,popc_congr (c:=b) (fun j hj=>by rw [bitAt_setBit b n true hl,if_neg (by omega)])]
      simp
    · rw [if_neg e,ih (by omega)]
      omega
theorem popc_set_off {b:Blk} {n k:Nat} (hk:k<n) (hl:k/8<b.length) (h:bitAt b k=true):popc (setBit b k false) n+1=popc b n:=by
  induction n with
  | zero=>omega
  | succ n ih=>
    rw [popc_succ,popc_succ,bitAt_setBit b k false hl]
    by_cases e:n=k
    · subst e
      rw [if_pos rfl,h,popc_congr (c:=b) (fun j hj=>by rw [bitAt_setBit b n false hl,if_neg (by omega)])]
      simp
    · rw [if_neg e]
      have:=ih (by omega)
      omega
theorem firstZ_room {b:Blk} {n:Nat} (h:popc b n<n): ∃k,firstZ b n=some k:=by
  cases hf:firstZ b n with
  | some k=>exact ⟨k,rfl⟩
  | none=>
    exfalso
    have: ∀m,m≤n→popc b m=m:=fun m=>by
      induction m with
      | zero=>intro _;rfl
      | succ m ih=>intro hm;rw [popc_succ,ih (by omega),firstZ_none hf m (by omega)];rfl
    have:=this n (Nat.le_refl _)
    omega
end
section
open Go.ChangeMaps Go.MapKept Go.RowKit
def bun (l:List Res):Res where
  M:=fun x=> ∃r∈l,r.M x
  inv:=fun Z w=>(∀r∈l,r.inv Z w)∧l.Pairwise (fun a b=> ∀x,a.M x→¬b.M x)
  lt:=fun Z w H x ⟨r,hr,hx⟩=>r.lt Z w (H.1 r hr) x hx
  dry:=fun Z w H x ⟨r,hr,hx⟩ c=>r.dry Z w (H.1 r hr) x hx c
  keep:=fun Z w w' N H hf hd ha=>⟨fun r hr=>r.keep Z w w' N (H.1 r hr) hf hd (fun x hx=>ha x ⟨r,hr,hx⟩),H.2⟩
  zone:=fun Z Z' w H hz hs=>⟨fun r hr=>r.zone Z Z' w (H.1 r hr) hz hs,H.2⟩
theorem St.shut {w0:Gnd} {w:World} {rs:List Res} (l:List Res) (h:St w0 w (l++rs)):St w0 w (bun l::rs):=by
  have hp:=List.pairwise_append.1 h.apart
  refine ⟨h.base,h.zin,fun r hr=>?_,fun r hr x hx=>?_,List.pairwise_cons.2 ⟨fun b hb x ⟨r,hr,hx⟩=>hp.2.2 r hr b hb x hx,hp.2.1⟩⟩
  · rcases List.mem_cons.1 hr with rfl | hr
    · exact ⟨fun r hr=>h.inv r (List.mem_append_left _ hr),hp.1⟩
    · exact h.inv r (List.mem_append_right _ hr)
  · rcases List.mem_cons.1 hr with rfl | hr
    · obtain ⟨q,hq,hx⟩:=hx
      exact h.new q (List.mem_append_left _ hq) x hx
    · exact h.new r (List.mem_append_right _ hr) x hx
theorem St.unshut {w0:Gnd} {w:World} {rs:List Res} {l:List Res} (h:St w0 w (bun l::rs)):St w0 w (l++rs):=by
  have hp:=List.pairwise_cons.1 h.apart
  have hi:=h.inv (bun l) (List.mem_cons_self ..)
  refine ⟨h.base,h.zin,fun r hr=>?_,fun r hr x hx=>?_,List.pairwise_append.2 ⟨hi.2,hp.2,fun a ha b hb x hx=>hp.1 b hb x ⟨a,ha,hx⟩⟩⟩
  · rcases List.mem_append.1 hr with hr | hr
    · exact hi.1 r hr
    · exact h.inv r (List.mem_cons_of_mem _ hr)
  · rcases List.mem_append.1 hr with hr | hr
    · exact h.new (bun l) (List.mem_cons_self ..) x ⟨r,hr,hx⟩
    · exact h.new r (List.mem_cons_of_mem _ hr) x hx
structure Pl where
  n:Nat
  ni:Nat
  im:Nat
  bm:Nat
  tb:Nat
  da:Nat
  dc:Nat
def Pl.cells (P:Pl):List Value:= [.int .i64 P.n,.int .i64 P.ni,.int .i64 P.im,.int .i64 P.bm,.int .i64 P.tb,.int .i64 P.da,.int .i64 P.dc]
structure PlOk (P:Pl):Prop where
  n:P.n≤65536
  ni:1≤P.ni∧P.ni≤4096
  dc:1≤P.dc∧P.dc≤4096
  im:P.im=246
  bm:P.bm=247
  tb:P.tb=248
  da:P.da=P.tb+(P.ni+7)/8
  all:P.da+P.dc=P.n
structure Sys where
  H:Hdl
  jh:JHdl
  J:JSt
  D:DSt
  cb:Nat
  wb:Nat
  op:Bool
  ov:Bool
  l:WrL
  s:Nat→Blk
  n:Nat
  g:Nat
  m:Nat
  ab:Nat
  sb:Nat
  P:Pl
theorem neAl: ¬U8T (266:TypeId):=by decide
theorem neSto: ¬U8T (291:TypeId):=by decide
def Sys.lo (X:Sys):List Res:= [cst X.cb X.jh.jb X.op X.ov X.wb,wrt X.wb X.l,jrn X.H X.jh X.J,dev X.H X.D]
def Sys.al (X:Sys):Res:=arr X.ab (Value.pointer (some ⟨X.cb,0,none⟩)::X.P.cells).toArray 266 neAl
def Sys.st (X:Sys):Res:=arr X.sb (Value.pointer (some ⟨X.cb,0,none⟩)::Value.pointer (some ⟨X.ab,0,none⟩)::X.P.cells).toArray 291 neSto
def Sys.all (X:Sys):List Res:=X.lo++ [X.al,X.st]
def Sys.v (X:Sys):Nat→Blk:=cvw X.l X.s
def Sys.put (X:Sys) (k:Nat) (b:Blk):Sys:= { X with l:=putW X.l k b }
def Sys.wr (X:Sys) (l:WrL):Sys:= { X with l:=l }
structure SysOk (X:Sys):Prop where
  live:Live X.n X.g X.m X.J X.D X.s
  cok:COk X.n X.l
  pl:PlOk X.P
  pn:X.P.n=X.n
  g:X.g≤1000000
  m:X.m≤1000000
  ops:X.D.ops≤1000+123*X.m
def At (w0:Gnd) (w:World) (X:Sys) (rs:List Res):Prop:=St w0 w (bun X.all::rs)∧SysOk X
end
section
open Go.ChangeMaps Go.MapKept Go.RowKit
variable {w0:Gnd} {w:World} {rs:List Res} {X:Sys}
theorem At.ok (h:At w0 w X rs):SysOk X:=h.2
theorem At.open (h:At w0 w X rs):St w0 w (cst X.cb X.jh.jb X.op X.ov X.wb::wrt X.wb X.l::jrn X.H X.jh X.J::dev X.H X.D::X.al::X.st::rs):=h.1.unshut
theorem At.frm (h:At w0 w X rs) {w':World} (hf:Frm NoB w w'):At w0 w' X rs:=⟨h.1.frm0 hf,h.2⟩
theorem At.mkByt (h:At w0 w X rs) {w':World} (hf:Frm NoB w w') {v:Value} {bs:List UInt8} {R:Nat→Prop} (hb:BytesAt w' v bs R):At w0 w' X (byt v bs::rs):=⟨(h.1.mkByt hf hb).swap,h.2⟩
theorem At.name (h:At w0 w X rs): ∃y,w=y∧At w0 y X rs:=⟨w,rfl,h⟩
theorem At.drop (h:At w0 w X rs) (n:Nat):At w0 w X (rs.drop n):=⟨h.1.sub ((List.drop_sublist n rs).cons_cons _),h.2⟩
theorem At.arrCell (h:At w0 w X rs) {i b:Nat} {c:Array Value} {t:TypeId} {ht: ¬U8T t} (hr:rs[i]?=some (arr b c t ht)) (j:Nat):w.cell? ⟨b,j,none⟩=c[j]?:=h.1.arrCell (i:=i+1) hr j
theorem At.arrFree (h:At w0 w X rs) {i b:Nat} {c:Array Value} {t:TypeId} {ht: ¬U8T t} (hr:rs[i]?=some (arr b c t ht)) (j:Nat):w.frozen? ⟨b,j,none⟩=false:=h.1.arrFree (i:=i+1) hr j
theorem At.setArr (h:At w0 w X rs) (i:Nat) {b:Nat} {c:Array Value} {t:TypeId} {ht: ¬U8T t} (hr:rs[i]?=some (arr b c t ht)) (j:Nat) (v:Value):At w0 (w.setCell ⟨b,j,none⟩ v) X (rs.set i (arr b (c.setIfInBounds j v) t ht)):=⟨h.1.setArr (i+1) hr j v,h.2⟩
theorem At.newArr (h:At w0 w X rs) (c:Array Value) (t:TypeId) (ht: ¬U8T t):At w0 (w.alloc (.cells c t (0,0))) X (arr w.heap.size c t ht::rs):=⟨(h.1.newArr c t ht).swap,h.2⟩
theorem At.byt (h:At w0 w X rs) {i:Nat} {v:Value} {bs:List UInt8} (hr:rs[i]?=some (byt v bs)):BytesAt w v bs AnyB:=h.1.get (i:=i+1) hr
theorem At.sub (h:At w0 w X rs) {rs':List Res} (hs:rs'.Sublist rs):At w0 w X rs':=⟨h.1.sub (hs.cons_cons _),h.2⟩
theorem At.alCells (h:At w0 w X rs):w.cell? ⟨X.ab,0,none⟩=some (.pointer (some ⟨X.cb,0,none⟩))∧w.cell? ⟨X.ab,1,none⟩=some (.int .i64 X.P.n)∧w.cell? ⟨X.ab,2,none⟩=some (.int .i64 X.P.ni)∧w.cell? ⟨X.ab,3,none⟩=some (.int .i64 X.P.im)∧w.cell? ⟨X.ab,4,none⟩=some (.int .i64 X.P.bm)∧
    w.cell? ⟨X.ab,5,none⟩=some (.int .i64 X.P.tb)∧w.cell? ⟨X.ab,6,none⟩=some (.int .i64 X.P.da)∧w.cell? ⟨X.ab,7,none⟩=some (.int .i64 X.P.dc):=
  have h:=h.open
  ⟨(h.arrCell (i:=4) rfl 0).trans rfl,(h.arrCell (i:=4) rfl 1).trans rfl,(h.arrCell (i:=4) rfl 2).trans rfl,(h.arrCell (i:=4) rfl 3).trans rfl,(h.arrCell (i:=4) rfl 4).trans rfl,(h.arrCell (i:=4) rfl 5).trans rfl,(h.arrCell (i:=4) rfl 6).trans rfl,(h.arrCell (i:=4) rfl 7).trans rfl⟩
theorem At.stCells (h:At w0 w X rs):w.cell? ⟨X.sb,0,none⟩=some (.pointer (some ⟨X.cb,0,none⟩))∧w.cell? ⟨X.sb,1,none⟩=some (.pointer (some ⟨X.ab,0,none⟩))∧w.cell? ⟨X.sb,6,none⟩=some (.int .i64 X.P.tb):=
  have h:=h.open
  ⟨(h.arrCell (i:=5) rfl 0).trans rfl,(h.arrCell (i:=5) rfl 1).trans rfl,(h.arrCell (i:=5) rfl 6).trans rfl⟩
theorem SysOk.len (h:SysOk X) (k:Nat) (hk:245≤k) (hn:k<X.n):(X.v k).length=512:=by
  unfold Sys.v cvw
  cases hl:look X.l (k:Int) with
  | none=>
    show (X.s k).length=512
    rw [←h.live.view k hk hn]
    exact over_length _ _ _ _ (h.live.ok (by have:=h.g;omega) (by have:=h.m;omega)).b512 (fun k=>DSt.last_length h.live.wf k)
  | some b=>exact h.cok.b512 _ (look_in hl)
theorem x_Open (h:At w0 w X rs):Calls Tryz.prog 177 #[.pointer (some ⟨X.cb,0,none⟩)] w fun e w'=>w=w'∧e= .returned (.bool X.op):=S_cOpen h.open
theorem x_Read (h:At w0 w X rs) (k:Nat) (hk:245≤k) (hn:k<X.n):
    Calls Tryz.prog 202 #[.pointer (some ⟨X.cb,0,none⟩),.int .i64 k] w fun e w'=> ∃v,e= .returned (.tuple #[v,.int .i64 0])∧At w0 w' X (byt v (X.v k)::rs):=by
  have ho:=h.ok
  refine (S_cRead h.open 0 rfl (ho.live.ok (by have:=ho.g;omega) (by have:=ho.m;omega)) (by have:=ho.ops;have:=ho.m;omega) (k:Int) (by omega) (by rw [ho.live.dn];omega) (by rw [ho.live.dn];have:=ho.pl.n;have:=ho.pn;omega) ho.cok.b512).mono ?_
  rintro e w' ⟨v,he,hs⟩
  refine ⟨v,he,?_,ho⟩
  have e1:cview X.l (jview X.J X.D) (k:Int)=X.v k:=by
    unfold cview Sys.v cvw
    rw [Int.toNat_natCast,ho.live.view k hk hn]
  rw [e1] at hs
  exact (hs.shut (byt v (X.v k)::X.all)).unshut.perm (by
    show List.Perm (byt v (X.v k)::(X.all++rs)) _
    exact (List.perm_middle (l₁:=X.all)).symm) |>.shut X.all
theorem Sys.put_v (X:Sys) (k:Nat) (b:Blk) (j:Nat):(X.put k b).v j=if j=k then b else X.v j:=by
  unfold Sys.v cvw Sys.put
  by_cases e:j=k
  · subst e;rw [if_pos rfl,look_put_same];rfl
  · rw [if_neg e,look_put_other _ _ (by omega)]
def Sys.keys (X:Sys):List Int:=X.l.map (·.1)
theorem Sys.put_keys (X:Sys) (k:Nat) (b:Blk) (j:Int):j∈(X.put k b).keys↔j∈X.keys∨j=k:=by
  unfold Sys.keys Sys.put
  rw [_root_.Go.Proofs.YtlemndledcmhiaaGreatDoor.put_keys]
  split
  · rename_i h
    have:=(look_mem X.l k).1 h
    constructor
    · exact .inl
    · rintro (h | rfl)
      · exact h
      · exact this
  · simp
theorem SysOk.put (h:SysOk X) (k:Nat) (b:Blk) (hk:245≤k) (hn:k<X.n) (hb:b.length=512) (hr:(look X.l k).isSome=true∨X.l.length<60):SysOk (X.put k b):=
  ⟨h.live,h.cok.put k b ⟨by omega,by omega⟩ hb hr,h.pl,h.pn,h.g,h.m,h.ops⟩
theorem At.back {Y:Sys} (hs:St w0 w (cst Y.cb Y.jh.jb Y.op Y.ov Y.wb::wrt Y.wb Y.l::jrn Y.H Y.jh Y.J::dev Y.H Y.D::Y.al::Y.st::rs)) (ho:SysOk Y):At w0 w Y rs:=⟨St.shut Y.all hs,ho⟩
theorem x_Write (h:At w0 w X rs) (hop:X.op=true) (k j:Nat) (hk:245≤k) (hn:k<X.n) {v:Value} {d:Blk} (hv:rs[j]?=some (byt v d)) (hd:d.length=512) (hr:(k:Int)∈X.keys∨X.l.length<60):
    Calls Tryz.prog 92 #[.pointer (some ⟨X.cb,0,none⟩),.int .i64 k,v] w fun e w'=>e= .returned (.int .i64 0)∧At w0 w' (X.put k d) rs:=by
  have ho:=h.ok
  have hs:=h.open
  rw [hop] at hs
  have hr':(look X.l (k:Int)).isSome=true∨X.l.length<60:=hr.imp (look_mem X.l k).2 id
  refine (S_cWriteIn hs 0 (j+3) rfl hv hd (ho.live.ok (by have:=ho.g;omega) (by have:=ho.m;omega)) (by have:=ho.ops;have:=ho.m;omega) (k:Int) (by omega) (by rw [ho.live.dn];omega) (by rw [ho.live.dn];have:=ho.pl.n;have:=ho.pn;omega) (by have:=ho.cok.few;omega) ho.cok.b512).mono ?_
  rintro e w' (⟨_,he,hs'⟩ | ⟨hnone,h60,_⟩)
  · refine ⟨he,At.back (Y:=X.put k d) ?_ (ho.put k d hk hn hd hr')⟩
    show St w0 w' (cst X.cb X.jh.jb X.op X.ov X.wb::_)
    rw [hop]
    exact hs'
  · rcases hr' with hr' | hr'
    · rw [hnone] at hr';cases hr'
    · omega
theorem x_Begin (h:At w0 w X rs) (hop:X.op=false):
    Calls Tryz.prog 90 #[.pointer (some ⟨X.cb,0,none⟩)] w fun e w'=>e= .returned (.int .i64 0)∧At w0 w' { X with op:=true,ov:=false } rs:=by
  refine (S_cBegin h.open).mono ?_
  rintro e w' ⟨he,hs⟩
  rw [hop] at he hs
  exact ⟨he,At.back (Y:= { X with op:=true,ov:=false }) hs ⟨h.ok.live,h.ok.cok,h.ok.pl,h.ok.pn,h.ok.g,h.ok.m,h.ok.ops⟩⟩
structure Same (X Y:Sys):Prop where
  cb:Y.cb=X.cb
  wb:Y.wb=X.wb
  ab:Y.ab=X.ab
  sb:Y.sb=X.sb
  P:Y.P=X.P
  n:Y.n=X.n
  lim:Y.D.lim=X.D.lim
theorem Same.trans {X Y Z:Sys} (h:Same X Y) (g:Same Y Z):Same X Z:=⟨g.cb.trans h.cb,g.wb.trans h.wb,g.ab.trans h.ab,g.sb.trans h.sb,g.P.trans h.P,g.n.trans h.n,g.lim.trans h.lim⟩
theorem x_Commit (h:At w0 w X rs) (hop:X.op=true) (hlim:X.D.lim=none) (hm:X.m<1000000):
    Calls Tryz.prog 96 #[.pointer (some ⟨X.cb,0,none⟩)] w fun e w'=>e= .returned (.int .i64 0)∧∃Y,Same X Y∧At w0 w' Y rs∧Y.op=false∧Y.l= []∧Y.v=X.v∧Y.m=X.m+1:=by
  have ho:=h.ok
  have hs:=h.open
  rw [hop] at hs
  refine (S_cCommitL hs 0 rfl ho.live ho.cok (by have:=ho.pl.im;have:=ho.pl.bm;have:=ho.pl.tb;have:=ho.pl.da;have:=ho.pl.all;have:=ho.pn;omega) (by have:=ho.pl.n;have:=ho.pn;omega) (by omega) (by have:=ho.g;omega) (by have:=ho.ops;omega) hlim).mono ?_
  rintro e w' ⟨jh',J',D',hjb,he,hs',hl',hlim',hops'⟩
  rw [←hjb] at hs'
  refine ⟨he,{ X with jh:=jh',J:=J',D:=D',op:=false,l:= [],s:=cvw X.l X.s,m:=X.m+1 },⟨rfl,rfl,rfl,rfl,rfl,rfl,hlim'.trans hlim.symm⟩,At.back (Y:= { X with jh:=jh',J:=J',D:=D',op:=false,l:= [],s:=cvw X.l X.s,m:=X.m+1 }) hs' ⟨hl',COk.nil _,ho.pl,ho.pn,ho.g,by show X.m+1≤_;omega,by show D'.ops≤1000+123*(X.m+1);have:=ho.ops;omega⟩,rfl,rfl,rfl,rfl⟩
end
section
open Go.ChangeMaps Go.MapKept Go.RowKit
theorem SliceOf.at {w:World} {v:Value} {bs:List UInt8} (h:SliceOf w v bs) {q:Nat} {x:UInt8} (hx:bs[q]?=some x): ∃blk off cap,v= .slice (some ⟨blk,off,none⟩) bs.length cap∧w.cell? ⟨blk,off+q,none⟩=some (.int .u8 (x.toNat:Int)):=by
  obtain ⟨a,cap,rfl,hc⟩:=h
  obtain ⟨blk,off,rfl,_,h2⟩:=hc q x hx
  exact ⟨blk,off,cap,rfl,h2⟩
theorem u8_of (x:Nat) (h:x<256):(BitVec.ofInt IntKind.u8.bits (x:Int)).toNat=x:=by
  rw [BitVec.toNat_ofInt]
  show ((x:Int)%256).toNat=x
  omega
theorem u8_in {x:Int} (h0:0≤x) (h1:x<256):IntKind.u8.wrap x=x:=by
  show x%256=x
  omega
theorem and_u8 (x:Nat) (h:x<256):Go.bits .and .u8 (x:Int) 1=((x%2:Nat):Int):=by
  have h3:(BitVec.ofInt IntKind.u8.bits (x:Int) &&& BitVec.ofInt IntKind.u8.bits ((1:Nat):Int)).toNat=x%2:=by
    rw [BitVec.toNat_and,u8_of x h,u8_of 1 (by omega)]
    exact Nat.and_two_pow_sub_one_eq_mod x 1
  show IntKind.u8.wrap ((BitVec.ofInt IntKind.u8.bits (x:Int) &&& BitVec.ofInt IntKind.u8.bits ((1:Nat):Int)).toNat:Int)=_
  rw [h3]
  exact u8_in (by omega) (by omega)
theorem or_u8 (x y:Nat) (h:x<256) (h2:y<256):Go.bits .or .u8 (x:Int) (y:Int)=((x ||| y:Nat):Int):=by
  have hb:x ||| y<256:=Nat.or_lt_two_pow (n:=8) h h2
  show IntKind.u8.wrap ((BitVec.ofInt IntKind.u8.bits (x:Int) ||| BitVec.ofInt IntKind.u8.bits (y:Int)).toNat:Int)=_
  rw [BitVec.toNat_or,u8_of x h,u8_of y h2]
  exact u8_in (by omega) (by omega)
theorem bit_and7 (k:Nat) (hk:k<4611686018427387904):Go.bits .and .i64 (k:Int) 7=((k%8:Nat):Int):=by
  have h1: ∀k:Nat,k<4611686018427387904→(BitVec.ofInt IntKind.i64.bits (k:Int)).toNat=k:=fun k hk=>by
    rw [BitVec.toNat_ofInt]
    show ((k:Int)%18446744073709551616).toNat=k
    omega
  show IntKind.i64.wrap ((BitVec.ofInt IntKind.i64.bits (k:Int) &&& BitVec.ofInt IntKind.i64.bits ((7:Nat):Int)).toNat:Int)=_
  rw [BitVec.toNat_and,h1 k hk,h1 7 (by omega),show k &&& 7=k%8 from Nat.and_two_pow_sub_one_eq_mod k 3]
  exact IntWalk.i64_in _ (by omega)
theorem bit_div (x:UInt8) (i:Nat):((x.toNat:Int)/2 ^ i)=((x.toNat/2 ^ i:Nat):Int):=by norm_cast
theorem bit_small (x:UInt8) (i:Nat):x.toNat/2 ^ i<256:=Nat.lt_of_le_of_lt (Nat.div_le_self _ _) x.toNat_lt
theorem bit_eq (x:UInt8) (i:Nat):(((x.toNat/2 ^ i%2:Nat):Int)==1)=x.toNat.testBit i:=by
  rw [Nat.testBit_eq_decide_div_mod_eq]
  rcases Nat.mod_two_eq_zero_or_one (x.toNat/2 ^ i) with e | e<;>rw [e]<;>rfl
theorem bitsTest_any (w:World) (v:Value) (bs:List UInt8) (k:Nat) (hv:SliceOf w v bs) (hk:k<4611686018427387904) (hl:bs.length<4611686018427387904):
    Calls Tryz.prog 317 #[v,.int .i64 k] w fun e w'=>w=w'∧e= .returned (.bool (bitAt bs k)):=by
  obtain ⟨q,hq⟩: ∃q:Nat,(k:Int)/8=(q:Int):=⟨k/8,by omega⟩
  have hk0:(0:Int)≤(k:Int):=Int.natCast_nonneg _
  have hq0:(0:Int)≤(q:Int):=Int.natCast_nonneg _
  by_cases hin:q<bs.length
  · obtain ⟨x,hx⟩: ∃x,bs[q]?=some x:=⟨_,List.getElem?_eq_getElem hin⟩
    obtain ⟨blk,off,cap,rfl,hc⟩:=hv.at hx
    have hin1:(q:Int)<(bs.length:Int):=by omega
    go_enter Tryz.func317,Tryz.ntmps317
    have h7:=bit_and7 k hk
    obtain ⟨i,hi⟩: ∃i,k%8=i:=⟨_,rfl⟩
    rw [hi] at h7
    have hi0:(0:Int)≤(i:Int):=Int.natCast_nonneg _
    have hi8:(i:Int)<8:=by omega
    have hsh:=bit_div x i
    have hy:=bit_small x i
    have h1:=and_u8 _ hy
    have HE:=Lib.hid (bit_eq x i)
    have HB:Hid (bitAt bs k=x.toNat.testBit i):=Lib.hid (by
      unfold bitAt
      rw [hi,show k/8=q from by omega,List.getD_eq_getElem?_getD,hx];rfl)
    generalize x.toNat/2 ^ i=y at*
    obtain ⟨z,hz⟩: ∃z,y%2=z:=⟨_,rfl⟩
    rw [hz] at h1 HE
    clear hz hx hv hi
    have hz2:=HE.out
    rw [←HB.out] at hz2
    clear HE HB
    go_wp2
    go_ret
    exact ⟨rfl,rfl⟩
  · obtain ⟨a,cap,rfl,-⟩:=hv
    have hin1: ¬(q:Int)<(bs.length:Int):=by omega
    have HB:Hid (bitAt bs k=false):=Lib.hid (by
      unfold bitAt
      rw [show k/8=q from by omega,List.getD_eq_getElem?_getD,List.getElem?_eq_none (by omega)];simp)
    go_enter Tryz.func317,Tryz.ntmps317
    go_wp2
    go_ret
    exact ⟨rfl,by rw [HB.out];rfl⟩
theorem shl_u8 (i:Nat) (h:i<8):(2:Int) ^ i%256=((2 ^ i:Nat):Int):=by
  have:=two_pow_le i h
  rw [show ((2:Int) ^ i)=((2 ^ i:Nat):Int) from by norm_cast]
  generalize 2 ^ i=z at*
  omega
theorem or_bit (x:UInt8) (i:Nat) (h:i<8):Go.bits .or .u8 (x.toNat:Int) ((2 ^ i:Nat):Int)=((byteSet x i true).toNat:Int):=by
  rw [or_u8 x.toNat (2 ^ i) x.toNat_lt (Nat.lt_of_le_of_lt (two_pow_le i h) (by omega)),byteSet_nat x i h];rfl
theorem off_bit (x:UInt8) (i:Nat) (h:i<8):Go.bits .andNot .u8 (x.toNat:Int) ((2 ^ i:Nat):Int)=((byteSet x i false).toNat:Int):=by
  have h2:=two_pow_le i h
  rw [byteSet_nat x i h]
  show IntKind.u8.wrap ((BitVec.ofInt IntKind.u8.bits (x.toNat:Int) &&& ~~~ BitVec.ofInt IntKind.u8.bits ((2 ^ i:Nat):Int)).toNat:Int)=((x.toNat &&& (255-2 ^ i):Nat):Int)
  rw [BitVec.toNat_and,BitVec.toNat_not,u8_of _ x.toNat_lt,u8_of _ (by omega)]
  show IntKind.u8.wrap (((x.toNat &&& (255-2 ^ i)):Nat):Int)=_
  have hx:x.toNat<256:=x.toNat_lt
  have hle:x.toNat &&& (255-2 ^ i)≤x.toNat:=Nat.and_le_left
  exact u8_in (Int.natCast_nonneg _) (by omega)
set_option maxRecDepth 100000 in
theorem bitsSet_on (w:World) (v:Value) (bs:List UInt8) (k:Nat) (R:Nat→Prop) (hv:BytesAt w v bs R) (hk:k/8<bs.length) (hl:bs.length≤1000000):
    Calls Tryz.prog 316 #[v,.int .i64 k,.bool true] w fun e w'=> ∃v',e= .returned v'∧BytesAt w' v' (setBit bs k true) (Fresh w)∧Frm NoB w w':=by
  obtain ⟨q,hq⟩: ∃q:Nat,(k:Int)/8=(q:Int):=⟨k/8,by omega⟩
  have hk0: ¬(k:Int)<0:=by omega
  have hq0:(0:Int)≤(q:Int):=Int.natCast_nonneg _
  have hin1:(q:Int)<(bs.length:Int):=by omega
  have HC:=Lib.hid (Clone_any w v bs R hv (by omega))
  obtain ⟨vb,vo,vc,rfl,-⟩:=hv.cells
  obtain ⟨x,hx⟩: ∃x,bs[q]?=some x:=⟨_,List.getElem?_eq_getElem (by omega)⟩
  have HX:=Lib.hid hx
  have h7:=bit_and7 k (by omega)
  obtain ⟨i,hi⟩: ∃i,k%8=i:=⟨_,rfl⟩
  rw [hi] at h7
  have hi0:(0:Int)≤(i:Int):=Int.natCast_nonneg _
  have hi8:(i:Int)<8:=by omega
  have hsh:=shl_u8 i (by omega)
  have hor:=or_bit x i (by omega)
  have HE:Hid (setBit bs k true=bs.set q (byteSet x i true)):=Lib.hid (by
    unfold setBit
    rw [hi,show k/8=q from by omega,List.getD_eq_getElem?_getD,hx];rfl)
  have HQ:Hid (q<bs.length):=Lib.hid (by omega)
  generalize 2 ^ i=z at*
  generalize byteSet x i true=y at*
  clear hi hx hk
  go_enter Tryz.func316,Tryz.ntmps316
  go_wp2_with fail
  refine HC.out.mono ?_
  clear HC hv
  rintro e w2 ⟨hf,v2,rfl,hb⟩
  obtain ⟨cb,co,cc,rfl,-,-,hfr⟩:=hb.cells
  have hb':=hb.sliceOf
  have HBB:=Lib.hid hb
  have hcell:w2.cell? ⟨cb,co+q,none⟩=some (.int .u8 (x.toNat:Int)):=by
    obtain ⟨_,_,_,e,hc⟩:=hb'.at HX.out
    cases e
    exact hc
  have hfree:w2.frozen? ⟨cb,co+q,none⟩=false:=by
    obtain ⟨b',o',c',cc,e,_,h3,_⟩:=hb
    cases e
    exact h3.frozen
  have HF:=Lib.hid ((show Frm NoB w (w2.setCell ⟨cb,co+q,none⟩ (.int .u8 (y.toNat:Int))) from hf.setCell (.inr (show w.heap.size≤cb from hfr)) _).drew)
  have HP:=Lib.hid (BytesAt.frm0 (hb.put q HQ.out y) (Frm.refl NoB _).drew)
  clear hb hb' hfr hf HBB
  go_upto_region 5 with (fail)
  go_region
  go_wp2
  go_ret
  exact ⟨_,rfl,by rw [HE.out];exact HP.out,HF.out⟩
set_option maxRecDepth 100000 in
theorem bitsSet_off (w:World) (v:Value) (bs:List UInt8) (k:Nat) (R:Nat→Prop) (hv:BytesAt w v bs R) (hk:k/8<bs.length) (hl:bs.length≤1000000):
    Calls Tryz.prog 316 #[v,.int .i64 k,.bool false] w fun e w'=> ∃v',e= .returned v'∧BytesAt w' v' (setBit bs k false) (Fresh w)∧Frm NoB w w':=by
  obtain ⟨q,hq⟩: ∃q:Nat,(k:Int)/8=(q:Int):=⟨k/8,by omega⟩
  have hk0: ¬(k:Int)<0:=by omega
  have hq0:(0:Int)≤(q:Int):=Int.natCast_nonneg _
  have hin1:(q:Int)<(bs.length:Int):=by omega
  have HC:=Lib.hid (Clone_any w v bs R hv (by omega))
  obtain ⟨vb,vo,vc,rfl,-⟩:=hv.cells
  obtain ⟨x,hx⟩: ∃x,bs[q]?=some x:=⟨_,List.getElem?_eq_getElem (by omega)⟩
  have HX:=Lib.hid hx
  have h7:=bit_and7 k (by omega)
  obtain ⟨i,hi⟩: ∃i,k%8=i:=⟨_,rfl⟩
  rw [hi] at h7
  have hi0:(0:Int)≤(i:Int):=Int.natCast_nonneg _
  have hi8:(i:Int)<8:=by omega
  have hsh:=shl_u8 i (by omega)
  have hor:=off_bit x i (by omega)
  have HE:Hid (setBit bs k false=bs.set q (byteSet x i false)):=Lib.hid (by
    unfold setBit
    rw [hi,show k/8=q from by omega,List.getD_eq_getElem?_getD,hx];rfl)
  have HQ:Hid (q<bs.length):=Lib.hid (by omega)
  generalize 2 ^ i=z at*
  generalize byteSet x i false=y at*
  clear hi hx hk
  go_enter Tryz.func316,Tryz.ntmps316
  go_wp2_with fail
  refine HC.out.mono ?_
  clear HC hv
  rintro e w2 ⟨hf,v2,rfl,hb⟩
  obtain ⟨cb,co,cc,rfl,-,-,hfr⟩:=hb.cells
  have hb':=hb.sliceOf
  have HBB:=Lib.hid hb
  have hcell:w2.cell? ⟨cb,co+q,none⟩=some (.int .u8 (x.toNat:Int)):=by
    obtain ⟨_,_,_,e,hc⟩:=hb'.at HX.out
    cases e
    exact hc
  have hfree:w2.frozen? ⟨cb,co+q,none⟩=false:=by
    obtain ⟨b',o',c',cc,e,_,h3,_⟩:=hb
    cases e
    exact h3.frozen
  have HF:=Lib.hid ((show Frm NoB w (w2.setCell ⟨cb,co+q,none⟩ (.int .u8 (y.toNat:Int))) from hf.setCell (.inr (show w.heap.size≤cb from hfr)) _).drew)
  have HP:=Lib.hid (BytesAt.frm0 (hb.put q HQ.out y) (Frm.refl NoB _).drew)
  clear hb hb' hfr hf HBB
  go_upto_region 6 with (fail)
  go_region
  go_wp2
  go_ret
  exact ⟨_,rfl,by rw [HE.out];exact HP.out,HF.out⟩
theorem bit_full (bs:List UInt8) (i k:Nat) (h:bs[i]?=some 255) (hk:k/8=i):bitAt bs k=true:=by
  unfold bitAt
  rw [hk,List.getD_eq_getElem?_getD,h]
  have:k%8<8:=Nat.mod_lt _ (by omega)
  generalize k%8=j at*
  show (255:Nat).testBit j=true
  rcases (by omega:j=0∨j=1∨j=2∨j=3∨j=4∨j=5∨j=6∨j=7) with rfl | rfl | rfl | rfl | rfl | rfl | rfl | rfl<;>rfl
def FirstE (bs:List UInt8) (n:Nat) (e:Ending):Prop:=e= .returned (.int .i64 (match firstZ bs n with | some k=>(k:Int) | none=> -1))
theorem FirstE.some {bs:List UInt8} {n k:Nat} (h:firstZ bs n=some k):FirstE bs n (.returned (.int .i64 (k:Int))):=by unfold FirstE;rw [h]
theorem FirstE.none {bs:List UInt8} {n:Nat} (h:firstZ bs n=none):FirstE bs n (.returned (.int .i64 (-1))):=by unfold FirstE;rw [h]
set_option maxRecDepth 100000 in
theorem bitsFirst_any (w:World) (v:Value) (bs:List UInt8) (n:Nat) (hv:SliceOf w v bs) (hn:n≤8*bs.length) (hl:bs.length≤1000000):
    Calls Tryz.prog 315 #[v,.int .i64 n] w fun e w'=>w=w'∧FirstE bs n e:=by
  have HT:=Lib.hid (fun k hk=>bitsTest_any w v bs k hv hk (by omega))
  have HV:=Lib.hid hv
  obtain ⟨a,cap,rfl,-⟩:=hv
  go_enter Tryz.func315,Tryz.ntmps315
  go_wp2_with fail
  go_loop [5,6,7,10] (fun _ _ _ t=> ∃i:Nat,i≤bs.length∧t= .int .i64 i∧Hid (∀k,k<8*i→k<n→bitAt bs k=true)) (fun _ _ _ t=>bs.length-(intOf t).toNat)
  case atStart=>exact ⟨0,Nat.zero_le _,rfl,Lib.hid fun k hk=>by omega⟩
  case round=>
    obtain ⟨i,hi,rfl,HA⟩:=hrel
    have hi0:(0:Int)≤(i:Int):=Int.natCast_nonneg _
    by_cases hlt:i<bs.length
    · have hi1:(i:Int)<(bs.length:Int):=by omega
      obtain ⟨x,hx⟩: ∃x,bs[i]?=some x:=⟨_,List.getElem?_eq_getElem hlt⟩
      obtain ⟨blk,off,cap',e,hc⟩:=HV.out.at hx
      cases e
      have HX:=Lib.hid hx
      clear hx
      by_cases h255:x=255
      · subst h255
        have HA2:Hid (∀k,k<8*(i+1)→k<n→bitAt bs k=true):=Lib.hid fun k hk hkn=>by
          by_cases e:k<8*i
          · exact HA.out k e hkn
          · exact bit_full bs i k HX.out (by omega)
        have hc2:w.cell? ⟨blk,off+i,none⟩=some (.int .u8 255):=hc
        clear hc
        go_wp2
        first | exact ⟨⟨i+1,hlt,by go_num,HA2⟩,by simp [intOf];omega⟩ | (go_round;case rel=>exact ⟨i+1,hlt,by go_num,HA2⟩;case measure=>simp [intOf];omega)
      · have hb255:((x.toNat:Int)==255)=false:=by
          rw [beq_eq_false_iff_ne]
          intro e
          exact h255 (UInt8.toNat_inj.1 (by show x.toNat=255;omega))
        clear h255
        go_wp2_with fail
        go_loop [7] (fun t=> ∃k:Nat,8*i≤k∧k≤8*i+8∧t= .int .i64 k∧Hid (∀j,j<k→j<n→bitAt bs j=true)) (fun t=>8*i+8-(intOf t).toNat)
        case atStart=>exact ⟨8*i,Nat.le_refl _,by omega,by go_num,HA⟩
        case round=>
          obtain ⟨k,hk0,hk1,rfl,HK⟩:=hrel
          have hkk:(0:Int)≤(k:Int):=Int.natCast_nonneg _
          by_cases h1:k<8*i+8
          · have h1':(k:Int)<8*(i:Int)+8:=by omega
            by_cases h2:k<n
            · have h2':(k:Int)<(n:Int):=by omega
              obtain ⟨b,hb⟩: ∃b,bitAt bs k=b:=⟨_,rfl⟩
              have HT2:=Lib.hid (HT.out k (by omega))
              rw [hb] at HT2
              have HB:=Lib.hid hb
              clear hb
              go_wp2_with fail
              refine HT2.out.mono ?_
              rintro e w2 ⟨rfl,rfl⟩
              cases b with
              | true=>
                have HK2:Hid (∀j,j<k+1→j<n→bitAt bs j=true):=Lib.hid fun j hj hjn=>by
                  by_cases e:j<k
                  · exact HK.out j e hjn
                  · obtain rfl:j=k:=by omega
                    exact HB.out
                go_wp2
                first | exact ⟨⟨k+1,by omega,by omega,by go_num,HK2⟩,by simp [intOf];omega⟩ | (go_round;case rel=>exact ⟨k+1,by omega,by omega,by go_num,HK2⟩;case measure=>simp [intOf];omega)
              | false=>
                have HF:=Lib.hid (firstZ_at h2 HB.out fun j hj=>HK.out j hj (by omega))
                go_wp2
                go_ret
                exact ⟨rfl,FirstE.some HF.out⟩
            · have h2': ¬(k:Int)<(n:Int):=by omega
              have HA2:Hid (∀k,k<8*(i+1)→k<n→bitAt bs k=true):=Lib.hid fun j hj hjn=>HK.out j (by omega) hjn
              go_wp2
              first | exact ⟨⟨i+1,hlt,by go_num,HA2⟩,by simp [intOf];omega⟩ | (go_round;case rel=>exact ⟨i+1,hlt,by go_num,HA2⟩;case measure=>simp [intOf];omega)
          · have h1': ¬(k:Int)<8*(i:Int)+8:=by omega
            have HA2:Hid (∀k,k<8*(i+1)→k<n→bitAt bs k=true):=Lib.hid fun j hj hjn=>HK.out j (by omega) hjn
            go_wp2
            first | exact ⟨⟨i+1,hlt,by go_num,HA2⟩,by simp [intOf];omega⟩ | (go_round;case rel=>exact ⟨i+1,hlt,by go_num,HA2⟩;case measure=>simp [intOf];omega)
    · have hi1: ¬(i:Int)<(bs.length:Int):=by omega
      have HF:Hid (firstZ bs n=none):=Lib.hid (by
        unfold firstZ
        rw [List.find?_eq_none]
        intro k hk
        rw [HA.out k (by have:=List.mem_range.1 hk;omega) (List.mem_range.1 hk)]
        simp)
      go_wp2
      go_ret
      exact ⟨rfl,FirstE.none HF.out⟩
set_option maxRecDepth 100000 in
theorem bitsCount_any (w:World) (v:Value) (bs:List UInt8) (n:Nat) (hv:SliceOf w v bs) (hn:n≤8*bs.length) (hl:bs.length≤1000000):
    Calls Tryz.prog 203 #[v,.int .i64 n] w fun e w'=>w=w'∧e= .returned (.int .i64 (popc bs n)):=by
  have HV:=Lib.hid hv
  obtain ⟨a,cap,rfl,-⟩:=hv
  go_enter Tryz.func203,Tryz.ntmps203
  go_wp2_with fail
  go_loop [4,5,6,7,10] (fun t4 _ _ _ t=> ∃i:Nat,i≤bs.length∧t= .int .i64 i∧t4= .int .i64 (popc bs (min n (8*i)))) (fun _ _ _ _ t=>bs.length-(intOf t).toNat)
  case atStart=>exact ⟨0,Nat.zero_le _,rfl,by rw [Nat.mul_zero,Nat.min_zero];rfl⟩
  case round=>
    obtain ⟨i,hi,rfl,rfl⟩:=hrel
    have hi0:(0:Int)≤(i:Int):=Int.natCast_nonneg _
    by_cases hlt:i<bs.length
    · have hi1:(i:Int)<(bs.length:Int):=by omega
      obtain ⟨x,hx⟩: ∃x,bs[i]?=some x:=⟨_,List.getElem?_eq_getElem hlt⟩
      obtain ⟨blk,off,cap',e,hc⟩:=HV.out.at hx
      cases e
      have HX:=Lib.hid hx
      clear hx
      go_wp2_with fail
      go_loop [4,7,15] (fun t4 _ t=> ∃k:Nat,k≤8∧t= .int .i64 k∧t4= .int .i64 (popc bs (min n (8*i+k)))) (fun _ _ t=>8-(intOf t).toNat)
      case atStart=>exact ⟨0,Nat.zero_le _,rfl,rfl⟩
      case round=>
        obtain ⟨k,hk,rfl,rfl⟩:=hrel
        have hk0:(0:Int)≤(k:Int):=Int.natCast_nonneg _
        by_cases hk8:k<8
        · have hk8':(k:Int)<8:=by omega
          by_cases hkn:8*i+k<n
          · have hkn':8*(i:Int)+(k:Int)<(n:Int):=by omega
            have hsh:=bit_div x k
            have hy:=bit_small x k
            have h1:=and_u8 _ hy
            have hp:=popc_succ bs (8*i+k)
            have hpl:=popc_le bs (8*i+k)
            have HP:Hid (popc bs (min n (8*i+(k+1)))=popc bs (min n (8*i+k))+x.toNat/2 ^ k%2∧popc bs (min n (8*i+k))≤8*i+k):=Lib.hid (by
              rw [show min n (8*i+(k+1))=8*i+k+1 from by omega,show min n (8*i+k)=8*i+k from by omega,hp]
              have hb:bitAt bs (8*i+k)=x.toNat.testBit k:=by
                unfold bitAt
                rw [show (8*i+k)/8=i from by omega,show (8*i+k)%8=k from by omega,List.getD_eq_getElem?_getD,HX.out];rfl
              rw [hb,Nat.testBit_eq_decide_div_mod_eq]
              refine ⟨?_,hpl⟩
              rcases Nat.mod_two_eq_zero_or_one (x.toNat/2 ^ k) with e | e<;>rw [e]<;>rfl)
            clear hp hpl
            obtain ⟨P,hP⟩: ∃P,popc bs (min n (8*i+k))=P:=⟨_,rfl⟩
            rw [hP] at HP ⊢
            have hP0:(0:Int)≤(P:Int):=Int.natCast_nonneg _
            have hP1:(P:Int)≤8000000:=by have:=HP.out.2;omega
            generalize x.toNat/2 ^ k=y at*
            obtain ⟨z,hz⟩: ∃z,y%2=z:=⟨_,rfl⟩
            rw [hz] at h1 HP
            have hz0:(0:Int)≤(z:Int):=Int.natCast_nonneg _
            have hz1:(z:Int)≤1:=by omega
            have HP2:Hid ((P:Int)+(z:Int)=((popc bs (min n (8*i+(k+1))):Nat):Int)):=Lib.hid (by have:=HP.out.1;omega)
            clear hP hz HP
            go_wp2
            first | exact ⟨⟨k+1,hk8,by go_num,by rw [HP2.out]⟩,by simp [intOf];omega⟩ | (go_round;case rel=>exact ⟨k+1,hk8,by go_num,by rw [HP2.out]⟩;case measure=>simp [intOf];omega)
          · have hkn': ¬8*(i:Int)+(k:Int)<(n:Int):=by omega
            have HM:Hid (min n (8*i+k)=min n (8*i+(k+1))):=Lib.hid (by omega)
            go_wp2
            first | exact ⟨⟨k+1,hk8,by go_num,by rw [HM.out]⟩,by simp [intOf];omega⟩ | (go_round;case rel=>exact ⟨k+1,hk8,by go_num,by rw [HM.out]⟩;case measure=>simp [intOf];omega)
        · have hk8': ¬(k:Int)<8:=by omega
          obtain rfl:k=8:=by omega
          have HM:Hid (min n (8*i+8)=min n (8*(i+1))):=Lib.hid (by omega)
          go_wp2
          first | exact ⟨⟨i+1,hlt,by go_num,by rw [HM.out]⟩,by simp [intOf];omega⟩ | (go_round;case rel=>exact ⟨i+1,hlt,by go_num,by rw [HM.out]⟩;case measure=>simp [intOf];omega)
    · have hi1: ¬(i:Int)<(bs.length:Int):=by omega
      have HM:Hid (min n (8*i)=n):=Lib.hid (by omega)
      go_wp2
      go_ret
      exact ⟨rfl,by rw [HM.out];rfl⟩
theorem neAr: ¬U8T (186:TypeId):=by decide
end
section
open Go.ChangeMaps Go.MapKept Go.RowKit
variable {w0:Gnd} {w:World} {rs:List Res} {X:Sys}
theorem a_ready (h:At w0 w X rs):Calls Tryz.prog 180 #[.pointer (some ⟨X.ab,0,none⟩)] w fun e w'=>w=w'∧e= .returned (.bool X.op):=by
  have c0:=h.alCells.1
  have HO:=Lib.hid (x_Open h)
  clear h
  go_enter Tryz.func180,Tryz.ntmps180
  go_wp2_with fail
  refine HO.out.mono ?_
  rintro e w2 ⟨rfl,rfl⟩
  go_wp2
  go_ret
  exact ⟨rfl,rfl⟩
theorem a_blocks (h:At w0 w X rs):Calls Tryz.prog 113 #[.pointer (some ⟨X.ab,0,none⟩)] w fun e w'=>e= .returned (.agg #[.int .i64 X.P.bm,.int .i64 X.P.dc])∧Frm NoB w w':=by
  obtain ⟨-,-,-,-,c4,-,-,c7⟩:=(h.frm ((Frm.refl NoB w).alloc (.cells #[.int .i64 0,.int .i64 0] 186 (0,0)))).alCells
  have HF:=Lib.hid (((Frm.refl NoB w).alloc (.cells #[.int .i64 X.P.bm,.int .i64 X.P.dc] 186 (0,0))).drew)
  clear h
  go_enter Tryz.func113,Tryz.ntmps113
  go_upto_region 1 with (fail)
  go_region
  go_wp2
  exact bodyPost_ret (v:= .agg #[.int .i64 X.P.bm,.int .i64 X.P.dc]) (by simp [results,Tryz.results113,go_sem]) rfl ⟨rfl,HF.out⟩
theorem a_inodes (h:At w0 w X rs):Calls Tryz.prog 114 #[.pointer (some ⟨X.ab,0,none⟩)] w fun e w'=>e= .returned (.agg #[.int .i64 X.P.im,.int .i64 X.P.ni])∧Frm NoB w w':=by
  obtain ⟨-,-,c2,c3,-,-,-,-⟩:=(h.frm ((Frm.refl NoB w).alloc (.cells #[.int .i64 0,.int .i64 0] 186 (0,0)))).alCells
  have HF:=Lib.hid (((Frm.refl NoB w).alloc (.cells #[.int .i64 X.P.im,.int .i64 X.P.ni] 186 (0,0))).drew)
  clear h
  go_enter Tryz.func114,Tryz.ntmps114
  go_upto_region 1 with (fail)
  go_region
  go_wp2
  exact bodyPost_ret (v:= .agg #[.int .i64 X.P.im,.int .i64 X.P.ni]) (by simp [results,Tryz.results114,go_sem]) rfl ⟨rfl,HF.out⟩
set_option maxRecDepth 100000 in
theorem a_each (w:World) (fi many:Nat) (h1:1≤many) (h2:many≤4096) (hfi:fi≤65536) (fn:FuncId) (caps:Array Value) (hE:EntersF Tryz.prog fn) {Post:World→Prop}
    (hdoes:Calls Tryz.prog fn (#[.int .i64 fi,.int .i64 0,.int .i64 many]++caps) (w.alloc (.cells #[.int .i64 fi,.int .i64 many] 186 (0,0))) fun e w'=> ∃b,e= .returned (.bool b)∧w'.cell? ⟨w.heap.size,1,none⟩=some (.int .i64 many)∧Post w'):
    Calls Tryz.prog 181 #[.agg #[.int .i64 fi,.int .i64 many],.func (.func fn) #[] caps] w fun e w'=>e= .returned (.tuple #[])∧Post w':=by
  have HD:=Lib.hid hdoes
  have HE:=Lib.hid hE
  clear hdoes hE
  have hm0:(0:Int)<(many:Int):=by omega
  have hm1:(many:Int)≤4096:=by omega
  have hf0:(0:Int)≤(fi:Int):=Int.natCast_nonneg _
  have hf1:(fi:Int)≤65536:=by omega
  have hmn:min (many:Int) 4096=(many:Int):=by omega
  clear h1 h2 hfi
  go_enter Tryz.func181,Tryz.ntmps181
  go_wp2_with fail
  obtain ⟨y1,hy1⟩: ∃y,y=w.alloc (.cells #[.int .i64 fi,.int .i64 many] 186 (0,0)):=⟨_,rfl⟩
  have hc0:y1.cell? ⟨w.heap.size,0,none⟩=some (.int .i64 fi):=by rw [hy1];exact cell_of_block (block_alloc_new _ _)
  have hc1:y1.cell? ⟨w.heap.size,1,none⟩=some (.int .i64 many):=by rw [hy1];exact cell_of_block (block_alloc_new _ _)
  rw [←hy1] at HD ⊢
  clear hy1
  generalize w.heap.size=bx at*
  go_loopw [4] (fun t wr=>(t= .int .i64 0∧wr=y1)∨(t= .int .i64 4096∧wr.cell? ⟨bx,1,none⟩=some (.int .i64 many)∧Post wr)) (fun t _=>5000-(intOf t).toNat)
  case atStart=>exact .inl ⟨rfl,rfl⟩
  case round=>
    rcases hrel with ⟨rfl,rfl⟩ | ⟨rfl,hc,hp⟩
    · go_wp2_with fail
      refine upon_callF HE.out HD.out ?_
      rintro e w2 ⟨b,rfl,hc2,hp⟩
      refine ⟨_,rfl,?_⟩
      have HP:=Lib.hid hp
      clear hp hc0 hc1 HD
      cases b with
      | true=>
        go_wp2
        first | exact ⟨.inr ⟨rfl,hc2,HP.out⟩,by decide⟩ | (go_roundw;case rel=>first | exact .inr ⟨rfl,hc2,HP.out⟩ | ((repeat apply Exists.intro);exact ⟨.inr ⟨rfl,hc2,HP.out⟩,rfl⟩);case measure=>decide)
      | false=>
        go_wp2
        exact bodyPost_ret (v:= .tuple #[]) (by simp [results,Tryz.results181,go_sem]) rfl ⟨rfl,HP.out⟩
    · have HP:=Lib.hid hp
      have hlt: ¬(4096:Int)<(many:Int):=by omega
      clear hp
      go_wp2
      go_end0
      exact ⟨rfl,HP.out⟩
end
section
open Go.ChangeMaps Go.MapKept Go.RowKit
theorem neApt: ¬U8T (104:TypeId):=by decide
theorem neErn: ¬U8T (32:TypeId):=by decide
theorem entTake1:EntersF Tryz.prog 314:=entersF_of Tryz.func314 (by kernel_rfl) rfl
end
section
open Go.ChangeMaps Go.MapKept Go.RowKit
variable {w0:Gnd} {w:World} {rs:List Res} {X:Sys}
set_option maxRecDepth 100000 in
theorem a_take1 {ba be bk:Nat} (h:At w0 w X rs) (hop:X.op=true) (fi many:Nat) (hf:245≤fi) (hfn:fi<X.n) (hm:many≤4096) {k:Nat} (hk:firstZ (X.v fi) many=some k) (hr:(fi:Int)∈X.keys∨X.l.length<60)
    (ia ie ik:Nat) (ha:rs[ia]?=some (arr ba #[.pointer (some ⟨X.ab,0,none⟩)] 104 neApt)) {e0 k0:Value} (he:rs[ie]?=some (arr be #[e0] 32 neErn)) (hkk:rs[ik]?=some (arr bk #[k0] 3 neI8)) (hne:ie≠ik∧ia≠ik∧ia≠ie):
    Calls Tryz.prog 314 #[.int .i64 fi,.int .i64 0,.int .i64 many,.pointer (some ⟨ba,0,none⟩),.pointer (some ⟨be,0,none⟩),.pointer (some ⟨bk,0,none⟩)] w fun e w'=>
      e= .returned (.bool false)∧At w0 w' (X.put fi (setBit (X.v fi) k true)) ((rs.set ik (arr bk #[.int .i64 k] 3 neI8)).set ie (arr be #[.int .i64 0] 32 neErn)):=by
  have hv512:=h.ok.len fi hf hfn
  obtain ⟨hkm,hkb⟩:=firstZ_some hk
  have ca:w.cell? ⟨ba,0,none⟩=some (.pointer (some ⟨X.ab,0,none⟩)):=(h.arrCell ha 0).trans rfl
  have c0:=h.alCells.1
  have HR:=Lib.hid (x_Read h fi hf hfn)
  have HV:=Lib.hid hv512
  have HK:=Lib.hid hk
  have HRM:=Lib.hid hr
  have HIA:=Lib.hid ha
  have HIE:=Lib.hid he
  have HIK:=Lib.hid hkk
  have HFI:=Lib.hid (And.intro hf hfn)
  have HKM:Hid (k<many∧many≤4096):=Lib.hid ⟨hkm,hm⟩
  have KS:Hid (∀y Y rs' i,At w0 y Y rs'→rs'[i]?=some (arr ba #[.pointer (some ⟨X.ab,0,none⟩)] 104 neApt)→Y.ab=X.ab→Y.cb=X.cb→y.cell? ⟨ba,0,none⟩=some (.pointer (some ⟨X.ab,0,none⟩))∧y.cell? ⟨X.ab,0,none⟩=some (.pointer (some ⟨X.cb,0,none⟩))):=Lib.hid fun y Y rs' i hy hi e1 e2=>
    ⟨(hy.arrCell hi 0).trans rfl,by have:=hy.alCells.1;rw [e1,e2] at this;exact this⟩
  clear h hv512 hk hr ha he hkk hf hfn hkb hkm hm
  go_enter Tryz.func314,Tryz.ntmps314
  go_wp2_with fail
  refine HR.out.mono ?_
  clear HR ca c0
  rintro e w2 ⟨v,rfl,h2⟩
  have H2:=Lib.hid h2
  have HF:=Lib.hid (bitsFirst_any w2 v (X.v fi) many (h2.byt (i:=0) rfl).sliceOf (by rw [HV.out];have:=HKM.out;omega) (by rw [HV.out];omega))
  clear h2
  go_wp2_with fail
  refine HF.out.mono ?_
  clear HF
  rintro e w3 ⟨rfl,hE⟩
  unfold FirstE at hE
  rw [HK.out] at hE
  subst hE
  have hk0:(0:Int)≤(k:Int):=Int.natCast_nonneg _
  have hk1:(k:Int)<4096:=by have:=HKM.out;omega
  have hk2: ¬(k:Int)<0:=by omega
  have hwr:IntKind.i64.wrap (k:Int)=(k:Int):=IntWalk.i64_in _ (by omega)
  obtain ⟨hne1,hne2,hne3⟩:=hne
  obtain ⟨c1,c2⟩:=KS.out _ _ _ (ia+1) H2.out HIA.out rfl rfl
  go_upto_region 8 with (fail)
  go_region_held3 (fun y=>y.cell? ⟨ba,0,none⟩=some (.pointer (some ⟨X.ab,0,none⟩))∧y.cell? ⟨X.ab,0,none⟩=some (.pointer (some ⟨X.cb,0,none⟩)))
    (first | exact KS.out _ _ _ (ia+2) h8 HIA.out rfl rfl | exact KS.out _ _ _ (ia+2) h7 HIA.out rfl rfl | exact KS.out _ _ _ (ia+1) (H2.out.frm (Frm.refl NoB w2).drew) HIA.out rfl rfl | exact KS.out _ _ _ (ia+2) h9 (by rw [List.getElem?_set_ne (by omega)];exact HIA.out) rfl rfl | exact KS.out _ _ _ (ia+2) h10 (by rw [List.getElem?_set_ne (by omega),List.getElem?_set_ne (by omega)];exact HIA.out) rfl rfl)
    (first
      | (go_at_call 92;(with_reducible refine (x_Write h7 hop fi 0 HFI.out.1 HFI.out.2 rfl (by rw [setBit_length];exact HV.out) HRM.out).mono ?_);rintro e w6 ⟨rfl,h8⟩;have ck:w6.cell? ⟨bk,0,none⟩=some k0:=(h8.arrCell (i:=ik+2) HIK.out 0).trans rfl;have fk:w6.frozen? ⟨bk,0,none⟩=false:=h8.arrFree (i:=ik+2) HIK.out 0;have h9:=h8.setArr (ik+2) HIK.out 0 (.int .i64 k);have ce:(w6.setCell ⟨bk,0,none⟩ (.int .i64 k)).cell? ⟨be,0,none⟩=some e0:=(h9.arrCell (i:=ie+2) (by rw [List.getElem?_set_ne (by omega)];exact HIE.out) 0).trans rfl;have fe:(w6.setCell ⟨bk,0,none⟩ (.int .i64 k)).frozen? ⟨be,0,none⟩=false:=h9.arrFree (i:=ie+2) (by rw [List.getElem?_set_ne (by omega)];exact HIE.out) 0;have h10:=h9.setArr (ie+2) (by rw [List.getElem?_set_ne (by omega)];exact HIE.out) 0 (.int .i64 0))
      | (go_at_call 316;(with_reducible refine (bitsSet_on _ v (X.v fi) k _ ((H2.out.frm (Frm.refl NoB w2).drew).byt (i:=0) rfl) (by rw [HV.out];omega) (by rw [HV.out];omega)).mono ?_);rintro e w5 ⟨v5,rfl,hb5,hf5⟩;have h7:=(H2.out.frm (Frm.refl NoB w2).drew).mkByt hf5 hb5))
  have H10:=Lib.hid (h10.drop 2)
  clear h7 h8 h9 h10 ck fk ce fe c1 c2 hb5 hf5 hwr KS
  go_wp2
  go_ret
  exact ⟨rfl,H10.out⟩
set_option maxRecDepth 100000 in
theorem a_take (h:At w0 w X rs) (hop:X.op=true) (fi many:Nat) (hf:245≤fi) (hfn:fi<X.n) (hm1:1≤many) (hm:many≤4096) {k:Nat} (hk:firstZ (X.v fi) many=some k) (hr:(fi:Int)∈X.keys∨X.l.length<60):
    Calls Tryz.prog 270 #[.pointer (some ⟨X.ab,0,none⟩),.agg #[.int .i64 fi,.int .i64 many]] w fun e w'=>e= .returned (.tuple #[.int .i64 k,.int .i64 0])∧At w0 w' (X.put fi (setBit (X.v fi) k true)) rs:=by
  have H4:=Lib.hid ((((h.newArr #[.pointer (some ⟨X.ab,0,none⟩)] 104 neApt).newArr #[.int .i64 fi,.int .i64 many] 186 neAr).newArr #[.int .i64 0] 3 neI8).newArr #[.int .i64 0] 32 neErn)
  simp only [size_alloc] at H4
  have HN:=Lib.hid h.ok.pl.n
  have HPN:=Lib.hid h.ok.pn
  clear h
  go_enter Tryz.func270,Tryz.ntmps270
  go_upto_region 1 with (fail)
  obtain ⟨y1,hy1,h1⟩:=H4.out.name
  rw [hy1]
  clear hy1 H4
  have H1:=Lib.hid h1
  generalize w.heap.size=b0 at*
  have c1:y1.cell? ⟨b0,0,none⟩=some (.pointer (some ⟨X.ab,0,none⟩)):=(h1.arrCell (i:=3) rfl 0).trans rfl
  have HRD:=Lib.hid (a_ready h1)
  rw [hop] at HRD
  clear h1
  go_wp2_with fail
  refine HRD.out.mono ?_
  clear HRD c1
  rintro e w2 ⟨rfl,rfl⟩
  have h2:=H1.out
  have h3:=(h2.setArr 1 rfl 0 (.int .i64 (-1))).setArr 0 rfl 0 (.int .i64 3)
  have ck:y1.cell? ⟨b0+1+1,0,none⟩=some (.int .i64 0):=(h2.arrCell (i:=1) rfl 0).trans rfl
  have fk:y1.frozen? ⟨b0+1+1,0,none⟩=false:=h2.arrFree (i:=1) rfl 0
  have ce:(y1.setCell ⟨b0+1+1,0,none⟩ (.int .i64 (-1))).cell? ⟨b0+1+1+1,0,none⟩=some (.int .i64 0):=((h2.setArr 1 rfl 0 (.int .i64 (-1))).arrCell (i:=0) rfl 0).trans rfl
  have fe:(y1.setCell ⟨b0+1+1,0,none⟩ (.int .i64 (-1))).frozen? ⟨b0+1+1+1,0,none⟩=false:=(h2.setArr 1 rfl 0 (.int .i64 (-1))).arrFree (i:=0) rfl 0
  go_upto_region 4 with (fail)
  obtain ⟨y3,hy3,h3'⟩:=h3.name
  rw [hy3]
  have H3:Hid (At w0 y3 X (arr (b0+1+1+1) #[.int .i64 3] 32 neErn::arr (b0+1+1) #[.int .i64 (-1)] 3 neI8::arr (b0+1) #[.int .i64 fi,.int .i64 many] 186 neAr::arr b0 #[.pointer (some ⟨X.ab,0,none⟩)] 104 neApt::rs)):=Lib.hid h3'
  clear hy3 h3 h3' h2 ck fk ce fe H1 y1
  have c0:y3.cell? ⟨b0+1,0,none⟩=some (.int .i64 fi):=(H3.out.arrCell (i:=2) rfl 0).trans rfl
  have c1:y3.cell? ⟨b0+1,1,none⟩=some (.int .i64 many):=(H3.out.arrCell (i:=2) rfl 1).trans rfl
  have HEA:=Lib.hid (a_each y3 fi many hm1 hm (by have:=HN.out;have:=HPN.out;omega) 314 #[.pointer (some ⟨b0,0,none⟩),.pointer (some ⟨b0+1+1+1,0,none⟩),.pointer (some ⟨b0+1+1,0,none⟩)] entTake1
    (Post:=fun w'=>At w0 w' (X.put fi (setBit (X.v fi) k true)) (arr (b0+1+1+1) #[.int .i64 0] 32 neErn::arr (b0+1+1) #[.int .i64 k] 3 neI8::rs))
    ((a_take1 (H3.out.newArr #[.int .i64 fi,.int .i64 many] 186 neAr) hop fi many hf hfn hm hk hr 4 1 2 rfl rfl rfl ⟨by decide,by decide,by decide⟩).mono fun e w' ⟨he,h4⟩=>⟨false,he,(h4.arrCell (i:=0) rfl 1).trans rfl,h4.sub (List.Sublist.cons _ (List.Sublist.cons_cons _ (List.Sublist.cons_cons _ (List.Sublist.cons _ (List.Sublist.cons _ (List.Sublist.refl _))))))⟩))
  go_wp2_with fail
  refine HEA.out.mono ?_
  clear HEA c0 c1 H3
  rintro e w5 ⟨rfl,h5⟩
  have ce:w5.cell? ⟨b0+1+1+1,0,none⟩=some (.int .i64 0):=(h5.arrCell (i:=0) rfl 0).trans rfl
  have ck:w5.cell? ⟨b0+1+1,0,none⟩=some (.int .i64 k):=(h5.arrCell (i:=1) rfl 0).trans rfl
  have fe:w5.frozen? ⟨b0+1+1+1,0,none⟩=false:=h5.arrFree (i:=0) rfl 0
  have fk:w5.frozen? ⟨b0+1+1,0,none⟩=false:=h5.arrFree (i:=1) rfl 0
  have h6:=(h5.setArr 1 rfl 0 (.int .i64 k)).setArr 0 rfl 0 (.int .i64 0)
  have ce2:(w5.setCell ⟨b0+1+1,0,none⟩ (.int .i64 k)).cell? ⟨b0+1+1+1,0,none⟩=some (.int .i64 0):=((h5.setArr 1 rfl 0 (.int .i64 k)).arrCell (i:=0) rfl 0).trans rfl
  have fe2:(w5.setCell ⟨b0+1+1,0,none⟩ (.int .i64 k)).frozen? ⟨b0+1+1+1,0,none⟩=false:=(h5.setArr 1 rfl 0 (.int .i64 k)).arrFree (i:=0) rfl 0
  have d1:((w5.setCell ⟨b0+1+1,0,none⟩ (.int .i64 k)).setCell ⟨b0+1+1+1,0,none⟩ (.int .i64 0)).cell? ⟨b0+1+1,0,none⟩=some (.int .i64 k):=(h6.arrCell (i:=1) rfl 0).trans rfl
  have d2:((w5.setCell ⟨b0+1+1,0,none⟩ (.int .i64 k)).setCell ⟨b0+1+1+1,0,none⟩ (.int .i64 0)).cell? ⟨b0+1+1+1,0,none⟩=some (.int .i64 0):=(h6.arrCell (i:=0) rfl 0).trans rfl
  have H6:=Lib.hid (h6.drop 2)
  clear h5 h6
  go_wp2
  exact bodyPost_ret (v:= .tuple #[.int .i64 k,.int .i64 0]) (by simp [results,Tryz.results270,go_sem,d1,d2]) rfl ⟨rfl,H6.out⟩
end
section
open Go.ChangeMaps Go.MapKept Go.RowKit
theorem SysOk.maps {X:Sys} (h:SysOk X):245≤X.P.im∧X.P.im<X.n∧245≤X.P.bm∧X.P.bm<X.n∧X.n≤65536:=by
  have:=h.pl.im;have:=h.pl.bm;have:=h.pl.tb;have:=h.pl.da;have:=h.pl.all;have:=h.pn;have:=h.pl.n
  omega
end
section
open Go.ChangeMaps Go.MapKept Go.RowKit
variable {w0:Gnd} {w:World} {rs:List Res} {X:Sys}
theorem a_TakeBlock (h:At w0 w X rs) (hop:X.op=true) {k:Nat} (hk:firstZ (X.v X.P.bm) X.P.dc=some k) (hr:(X.P.bm:Int)∈X.keys∨X.l.length<60):
    Calls Tryz.prog 363 #[.pointer (some ⟨X.ab,0,none⟩)] w fun e w'=>e= .returned (.tuple #[.int .i64 (X.P.da+k:Nat),.int .i64 0])∧At w0 w' (X.put X.P.bm (setBit (X.v X.P.bm) k true)) rs:=by
  have ho:=h.ok
  have hm:=ho.maps
  have hd:=ho.pl.dc
  have hda:X.P.da≤65536:=by have:=ho.pl.all;have:=ho.pl.n;omega
  have hkd:=(firstZ_some hk).1
  have HB:=Lib.hid (a_blocks h)
  have HT:=Lib.hid (fun y (hy:Frm NoB w y)=>a_take (h.frm hy) hop X.P.bm X.P.dc hm.2.2.1 hm.2.2.2.1 hd.1 hd.2 hk hr)
  clear h ho hr
  have h1:(0:Int)≤(X.P.da:Int):=Int.natCast_nonneg _
  have h2:(X.P.da:Int)≤65536:=by omega
  have h3:(0:Int)≤(k:Int):=Int.natCast_nonneg _
  have h4:(k:Int)≤65536:=by omega
  clear hm hd hda hkd hk
  go_enter Tryz.func363,Tryz.ntmps363
  go_wp2_with fail
  refine HB.out.mono ?_
  rintro e w2 ⟨rfl,hf⟩
  have HT2:=Lib.hid (HT.out w2 hf)
  clear HT HB hf
  go_wp2_with fail
  refine HT2.out.mono ?_
  rintro e w3 ⟨rfl,h3'⟩
  have H3:=Lib.hid h3'
  have c6:w3.cell? ⟨X.ab,6,none⟩=some (.int .i64 X.P.da):=h3'.alCells.2.2.2.2.2.2.1
  clear h3' HT2
  go_wp2
  go_ret2
  exact ⟨rfl,H3.out⟩
theorem a_TakeInode (h:At w0 w X rs) (hop:X.op=true) {k:Nat} (hk:firstZ (X.v X.P.im) X.P.ni=some k) (hr:(X.P.im:Int)∈X.keys∨X.l.length<60):
    Calls Tryz.prog 208 #[.pointer (some ⟨X.ab,0,none⟩)] w fun e w'=>e= .returned (.tuple #[.int .i64 k,.int .i64 0])∧At w0 w' (X.put X.P.im (setBit (X.v X.P.im) k true)) rs:=by
  have ho:=h.ok
  have hm:=ho.maps
  have hd:=ho.pl.ni
  have HB:=Lib.hid (a_inodes h)
  have HT:=Lib.hid (fun y (hy:Frm NoB w y)=>a_take (h.frm hy) hop X.P.im X.P.ni hm.1 hm.2.1 hd.1 hd.2 hk hr)
  clear h ho hr hm hd hk
  go_enter Tryz.func208,Tryz.ntmps208
  go_wp2_with fail
  refine HB.out.mono ?_
  rintro e w2 ⟨rfl,hf⟩
  have HT2:=Lib.hid (HT.out w2 hf)
  clear HT HB hf
  go_wp2_with fail
  refine HT2.out.mono ?_
  rintro e w3 ⟨rfl,h3'⟩
  have H3:=Lib.hid h3'
  clear h3' HT2
  go_wp2
  go_ret2
  exact ⟨rfl,H3.out⟩
set_option maxRecDepth 100000 in
theorem a_Inode (h:At w0 w X rs) (i:Nat) (hi:i<X.P.ni) (hb:bitAt (X.v X.P.im) i=true):
    Calls Tryz.prog 271 #[.pointer (some ⟨X.ab,0,none⟩),.int .i64 i] w fun e w'=>e= .returned (.bool true)∧At w0 w' X rs:=by
  have ho:=h.ok
  have hm:=ho.maps
  have hd:=ho.pl.ni
  have hl:=ho.len _ hm.1 hm.2.1
  obtain ⟨c0,-,c2,c3,-⟩:=h.alCells
  have KS:Hid (∀y rs',At w0 y X rs'→y.cell? ⟨X.ab,0,none⟩=some (.pointer (some ⟨X.cb,0,none⟩))∧y.cell? ⟨X.ab,3,none⟩=some (.int .i64 X.P.im)):=Lib.hid fun y rs' hy=>⟨hy.alCells.1,hy.alCells.2.2.2.1⟩
  have HR:=Lib.hid (x_Read (h.frm (Frm.refl NoB w).drew) X.P.im hm.1 hm.2.1)
  have H0:=Lib.hid h
  have i0:(0:Int)≤(i:Int):=Int.natCast_nonneg _
  have i1:(i:Int)<(X.P.ni:Int):=by omega
  have i2:(i:Int)<4096:=by omega
  have i3:(i:Int)/4096=0:=by omega
  have i4:(i:Int)%4096=(i:Int):=by omega
  have m0:(0:Int)≤(X.P.im:Int):=Int.natCast_nonneg _
  have m1:(X.P.im:Int)≤65536:=by omega
  have hwr:IntKind.i64.wrap (X.P.im:Int)=(X.P.im:Int):=IntWalk.i64_in _ (by omega)
  have hw0:IntKind.i64.wrap 0=0:=rfl
  have HI:=Lib.hid (And.intro hb hl)
  have HI2:Hid (i<4096):=Lib.hid (by omega)
  clear h ho hm hd hl hi hb
  go_enter Tryz.func271,Tryz.ntmps271
  go_upto_region 3 with (fail)
  go_region_held3 (fun y=>y.cell? ⟨X.ab,0,none⟩=some (.pointer (some ⟨X.cb,0,none⟩))∧y.cell? ⟨X.ab,3,none⟩=some (.int .i64 X.P.im))
    (first | exact KS.out _ _ h2 | exact KS.out _ _ (H0.out.frm (Frm.refl NoB w).drew))
    (first
      | (go_at_call 202;(with_reducible refine HR.out.mono ?_);rintro e w2 ⟨v,rfl,h2⟩))
  have HT:=Lib.hid (bitsTest_any w2 v _ i (h2.byt (i:=0) rfl).sliceOf (by have:=HI2.out;omega) (by rw [HI.out.2];omega))
  rw [HI.out.1] at HT
  have H2:=Lib.hid (h2.drop 1)
  clear h2 HR KS c0 c2 c3 hwr
  by_cases hz:i=0
  · subst hz
    go_wp2
    go_ret
    exact ⟨rfl,H2.out⟩
  · have hz':((i:Int)==0)=false:=by rw [beq_eq_false_iff_ne];omega
    clear hz
    go_wp2_with fail
    refine HT.out.mono ?_
    rintro e w3 ⟨rfl,rfl⟩
    go_wp2
    go_ret
    exact ⟨rfl,H2.out⟩
end
end Go.Proofs.YtlemndledcmhiaaGreatDoor
