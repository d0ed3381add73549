/-
  The catalog, from the device up, part 11.
-/
import Derived.Test.YtlemndledcmhiaaGreatDoorU10
import Derived.Lib.SplitLaws
import Derived.Lib.IndexBytes
import Derived.Test.YtlemndledcmhiaaGreatDoorShelf2
import Derived.WalkMore
namespace Go.Proofs.YtlemndledcmhiaaGreatDoor
set_option linter.unusedVariables false
set_option linter.unusedSimpArgs false
section
open Go.ChangeMaps Go.MapKept Go.RowKit
variable {w0:Gnd} {w:World} {rs:List Res} {X:Sys}
set_option maxHeartbeats 1000000 in
set_option maxRecDepth 100000 in
theorem d_names (h:At w0 w X rs) (ho:FsOk X) (d:Nat) (hd:X.live d) (hk:X.nd d 0=2) (b:Blk) (hb:X.bytes d=b) (hok:b.length%64=0) (fr:Nat) (hfr:fr=((slF b (b.length/64)).map (64* ·)).getD b.length):
    Calls Tryz.prog 214 #[.pointer (some ⟨X.sb,0,none⟩),.int .i64 d] w fun e w'=> ∃mb n,e= .returned (.tuple #[.map (some mb),.int .i64 fr,.int .i64 0])∧At w0 w' X rs∧MapAt KeyK okK w' mb n (slM b (b.length/64)):=by
  have HS:=Lib.hid (i_Stat h d hd)
  have hmk: ∀W,(Instr.makeMap 293 none).run Tryz.prog W= .ok (.map (some W.heap.size)) (W.alloc (.map #[] 0)):=fun W=>rfl
  have hl:=bytes_len X d
  rw [hb] at hl
  have h5:=ho.size d hd
  rw [hk,←hl] at HS
  obtain ⟨n,hn⟩: ∃n,b.length=n:=⟨_,rfl⟩
  have HRD:Hid (∀y rs',At w0 y X rs'→Calls Tryz.prog 122 #[.pointer (some ⟨X.sb,0,none⟩),.int .i64 d,.int .i64 0,.int .i64 n] y fun e w'=> ∃v,e= .returned (.tuple #[v,.int .i64 0])∧((v= .slice none 0 0∧b= []∧At w0 w' X rs')∨At w0 w' X (byt v b::rs'))):=Lib.hid fun y rs' hy=>by
    have:=i_Read hy ho d hd 0 n n (by omega) (by omega) (by rw [←hl,hn];split<;>omega)
    rw [hb,List.drop_zero,Nat.sub_zero,List.take_of_length_le (by omega)] at this
    exact this
  rw [hn] at HS hok hfr
  have HN:=Lib.hid hn
  have HFR:=Lib.hid hfr
  have HB:=Lib.hid (And.intro hok (show n≤5120 by omega))
  have n0:(0:Int)≤(n:Int):=Int.natCast_nonneg _
  have n1:(n:Int)≤5120:=by omega
  clear h ho hd hk hb hok hfr hl h5 hn
  go_enter Tryz.func214,Tryz.ntmps214
  go_wp2_with fail
  refine HS.out.mono ?_
  clear HS
  rintro e w2 ⟨rfl,h2⟩
  have H2:=Lib.hid (h2.newArr #[.int .i64 2,.int .i64 n] 82 neStt)
  clear h2
  go_upto_region 2 with (refine allocRow rfl _ _ zeroStt rfl ?_)
  obtain ⟨y1,hy1,h1⟩:=H2.out.name
  rw [hy1]
  have H1:=Lib.hid h1
  clear hy1 H2
  generalize w2.heap.size=g at*
  have d0:y1.cell? ⟨g,0,none⟩=some (.int .i64 2):=(h1.arrCell (i:=0) rfl 0).trans rfl
  have d1:y1.cell? ⟨g,1,none⟩=some (.int .i64 n):=(h1.arrCell (i:=0) rfl 1).trans rfl
  clear h1
  go_wp2_with fail
  refine (HRD.out _ _ H1.out).mono ?_
  rintro e w3 ⟨v,rfl,hv⟩
  clear d0 d1 H1 HRD
  rcases hv with ⟨rfl,hb,h3⟩ | h3
  · have hn0:n=0:=by have:=HN.out;rw [hb] at this;exact this.symm
    have HE:Hid (fr=0∧slM b (b.length/64)=fun _=>none):=Lib.hid ⟨by rw [HFR.out,hn0,hb];rfl,by rw [hb];rfl⟩
    have H3:=Lib.hid h3
    have HMP:=Lib.hid (MapAt.made (mk:=KeyK) (ok:=okK) w3)
    have HMF:Hid (Frm NoB w3 (w3.alloc (.map #[] 0))):=Lib.hid ((Frm.refl NoB w3).alloc _)
    clear h3 hb hn0
    go_upto_region 10 with (fail)
    obtain ⟨y3,hy3⟩: ∃y3,w3.alloc (.map #[] 0)=y3:=⟨_,rfl⟩
    rw [hy3] at HMP HMF ⊢
    obtain ⟨mb,hmb⟩: ∃mb,w3.heap.size=mb:=⟨_,rfl⟩
    rw [hmb] at HMP ⊢
    clear hy3 hmb hmk
    go_wp2_with fail
    go_loopw [5,9,10,11,12] (fun t5 t9 _ _ _ wr=>t9= .int .i64 0∧t5= .int .i64 (-1)∧Hid (Frm NoB w3 wr)∧Hid (MapAt KeyK okK wr mb 0 (fun _=>none))) (fun _ t9 _ _ _ _=>(intOf t9).toNat)
    case atStart=>exact ⟨rfl,rfl,HMF,HMP⟩
    case round=>
      clear HMF HMP
      obtain ⟨rfl,rfl,HF,HM⟩:=hrel
      go_wp2_with fail
      go_ret3
      exact ⟨mb,0,by rw [HE.out.1];rfl,(H3.out.frm HF.out).drop 1,by rw [HE.out.2];exact HM.out⟩
  · obtain ⟨vb,vo,vc,rfl,hvc,-,-⟩:=(h3.byt (i:=0) rfl).cells
    rw [HN.out] at h3 ⊢
    have H3:=Lib.hid h3
    have HMP:=Lib.hid (MapAt.made (mk:=KeyK) (ok:=okK) w3)
    have HMF:Hid (Frm NoB w3 (w3.alloc (.map #[] 0))):=Lib.hid ((Frm.refl NoB w3).alloc _)
    clear h3
    go_upto_region 10 with (fail)
    obtain ⟨y3,hy3⟩: ∃y3,w3.alloc (.map #[] 0)=y3:=⟨_,rfl⟩
    rw [hy3] at HMP HMF ⊢
    obtain ⟨mb,hmb⟩: ∃mb,w3.heap.size=mb:=⟨_,rfl⟩
    have HMB:=Lib.hid hmb
    rw [hmb] at HMP ⊢
    clear hy3 hmb hmk
    go_wp2_with fail
    go_loopw [5,9,10,11,12] (fun t5 t9 _ _ _ wr=> ∃(k c:Nat) (z:Int),k≤n/64∧t9= .int .i64 ((64*k:Nat):Int)∧t5= .int .i64 z∧Hid (z=((slF b k).map fun q=>((64*q:Nat):Int)).getD (-1))∧Hid (Frm NoB w3 wr)∧Hid (MapAt KeyK okK wr mb c (slM b k))) (fun _ t9 _ _ _ _=>n-(intOf t9).toNat)
    case atStart=>exact ⟨0,0,-1,Nat.zero_le _,rfl,rfl,Lib.hid rfl,HMF,HMP⟩
    case round=>
      clear HMF HMP
      obtain ⟨k,c,z,hk,rfl,rfl,HZ,HF,HM⟩:=hrel
      have k0:(0:Int)≤(k:Int):=Int.natCast_nonneg _
      by_cases hlt:64*k<n
      · have l1:64*(k:Int)<(n:Int):=by omega
        have l2:64*(k:Int)+4+51≤(n:Int):=by have:=HB.out.1;omega
        have l3:(n:Int)≤(vc:Int):=by rw [HN.out] at hvc;omega
        have hst:=H3.out.frm HF.out
        have hrg:=(hst.byt (i:=0) rfl).slot k
        have hkl:(slK b k).length=51:=slK_len (by rw [HN.out];omega)
        have hap:=fun W=>arrayAtK (vb:=vb) (vo:=vo+(64*k+4)) (vc:=vc-(64*k+4)) rfl W
        have HRG:=Lib.hid hrg
        have HKL:=Lib.hid hkl
        have HI:Hid ((Tryz.prog.info? 299).map (·.size)=some ((slK b k).map B8).length):=Lib.hid (by rw [List.length_map,hkl];kernel_rfl)
        have HK0:=Lib.hid (block_alloc_new wr (.cells kc0 299 (0,0)))
        clear hst hrg hkl
        go_upto_region 13 with (fail)
        go_upto_region 14 with (first | (refine wpList_load_mid rfl _ _ rfl vb (vo+(64*k+4)) rfl ((slK b k).map B8) _ HRG.out Tryz.underlying299 rfl HI.out ?_) | (refine allocRow rfl _ _ zeroKey rfl ?_) | (refine storeKey rfl _ _ rfl wr.heap.size (slK b k) HKL.out rfl rfl _ rfl HK0.out ?_))
        have hk1:=setRow_heap _ _ _ ((slK b k).map B8).toArray _ _ HK0.out
        have hf4:Frm NoB wr ((wr.alloc (.cells kc0 299 (0,0))).setRow wr.heap.size ((slK b k).map B8).toArray):=((Frm.refl NoB wr).alloc _).setRowNew (Nat.le_refl _) _
        obtain ⟨kb,hkb⟩: ∃kb,wr.heap.size=kb:=⟨_,rfl⟩
        rw [hkb] at hk1 hf4 ⊢
        show Code.wp Tryz.prog _ _ _ ((wr.alloc (.cells kc0 299 (0,0))).setRow kb ((slK b k).map B8).toArray)
        obtain ⟨y4,hy4⟩: ∃y4,(wr.alloc (.cells kc0 299 (0,0))).setRow kb ((slK b k).map B8).toArray=y4:=⟨_,rfl⟩
        rw [hy4] at hk1 hf4 ⊢
        have HK1:=Lib.hid hk1
        have HF4:=Lib.hid (HF.out.trans hf4 fun _ _ e=>e)
        have HM4:=Lib.hid (HM.out.frm hf4 (fun e=>e))
        have c0:y4.cell? ⟨kb,0,none⟩=some (B8 (b.getD (64*k+4) 0)):=by
          refine (cell_of_block hk1).trans ?_
          rw [List.getElem?_toArray,List.getElem?_map]
          unfold slK
          rw [List.getElem?_take,if_pos (by omega),List.getElem?_drop,Nat.add_zero,List.getD_eq_getElem?_getD,List.getElem?_eq_getElem (by rw [HN.out];omega)]
          rfl
        have hst4:=H3.out.frm HF4.out
        have hsl:=(hst4.byt (i:=0) rfl).sliceOf
        have HG:=Lib.hid (bitsGet_any y4 _ b (64*k) 4 hsl (by omega) (by omega) (by rw [HN.out];omega) (by rw [HN.out];omega))
        have hgl:=getLE_lt b (64*k) 4 (by rw [HN.out];omega)
        obtain ⟨o,hup,hup2⟩:=HM4.out.update kindKey Tryz.underlying293 (a:=slK b k) HKL.out (slV b k)
        have HU:=Lib.hid (hup y4 rfl)
        have HU2:=Lib.hid (hup2 y4 HM4.out.lt)
        have HUF:=Lib.hid (HF4.out.trans ((Frm.refl (Only mb) y4).setBlock (.inl (Only.self mb)) o) fun x hx e=>by have:x=mb:=e;have:=HMB.out;omega)
        clear hk1 hf4 hy4 hst4 hsl hap hup hup2 HRG HI HK0 HM HF hkb
        have hv: ∀x:UInt8,B8 x= .int .u8 (x.toNat:Int):=fun _=>rfl
        rw [hv] at c0
        by_cases hu:slU b k=true
        · have hx: ¬((b.getD (64*k+4) 0).toNat:Int)=0:=fun e=>by
            have e0:(b.getD (64*k+4) 0)=0:=UInt8.toNat_inj.1 (by have:(0:UInt8).toNat=0:=rfl;omega)
            unfold slU at hu
            rw [e0] at hu
            cases hu
          have HX:=Lib.hid hu
          clear hu
          generalize (b.getD (64*k+4) 0).toNat=q at c0 hx
          have hx2: ¬q=0:=fun e=>hx (by rw [e];rfl)
          obtain ⟨iv,hiv⟩: ∃iv,slI b k=iv:=⟨_,rfl⟩
          have hiv2:getLE b (64*k) 4=iv:=hiv
          have i0:(0:Int)≤(iv:Int):=Int.natCast_nonneg _
          have i1:(iv:Int)<4294967296:=by rw [hiv2] at hgl;omega
          have hup:(Instr.mapUpdate 293 (.map (some mb)) (.agg ((slK b k).map B8).toArray) (.agg #[.int .i64 (64*(k:Int)),.int .i64 iv])).run Tryz.prog y4= .ok () (setBlock y4 mb o):=by
            have:=HU.out
            unfold slV KeyK at this
            rw [hiv,show ((64*k:Nat):Int)=64*(k:Int) by omega] at this
            exact this
          rw [hiv2,show ((64*k:Nat):Int)=64*(k:Int) by omega] at HG
          have HEND:Hid (MapAt KeyK okK (setBlock y4 mb o) mb (if (slM b k (slK b k)).isSome then c else c+1) (slM b (k+1))):=Lib.hid (HU2.out.congr fun a _=>by
            show (if slU b k=true∧a=slK b k then some (slV b k) else slM b k a)=if a=slK b k then some (slV b k) else slM b k a
            by_cases e:a=slK b k
            · rw [if_pos ⟨HX.out,e⟩,if_pos e]
            · rw [if_neg fun x=>e x.2,if_neg e])
          have HZ2:Hid (z=((slF b (k+1)).map fun q=>((64*q:Nat):Int)).getD (-1)):=Lib.hid (by
            rw [slF_succ,if_pos HX.out,Option.or_none]
            exact HZ.out)
          have HSZ:=Lib.hid (show (((slK b k).map B8).toArray).size=51 by simp [HKL.out])
          have HUP:=Lib.hid hup
          have HI01:=Lib.hid (And.intro i0 i1)
          clear hiv hiv2 hgl HZ hup i0 i1
          go_wp2_with fail
          refine HG.out.mono ?_
          clear HG c0
          rintro e w5 ⟨rfl,rfl⟩
          have hup:=HUP.out
          have i0:=HI01.out.1
          have i1:=HI01.out.2
          clear HUP HI01
          go_wp2_with (refine loadKey rfl _ rfl kb rfl _ HSZ.out HK1.out ?_)
          clear hup HU HU2 HM4 HF4
          exact ⟨⟨k+1,_,z,by have:=HB.out.1;omega,by go_num,rfl,HZ2,HUF,HEND⟩,by simp [intOf];omega⟩
        · have hx:((b.getD (64*k+4) 0).toNat:Int)=0:=by
            have e0:(b.getD (64*k+4) 0)=0:=by
              unfold slU at hu
              simpa using hu
            rw [e0];rfl
          have HX:Hid (slU b k=false):=Lib.hid (by simpa using hu)
          have HEND:Hid (MapAt KeyK okK y4 mb c (slM b (k+1))):=Lib.hid (HM4.out.congr fun a _=>by
            show (if slU b k=true∧a=slK b k then some (slV b k) else slM b k a)=slM b k a
            rw [if_neg fun x=>by rw [HX.out] at x;cases x.1])
          clear hu hgl HG HU HU2 HUF
          generalize (b.getD (64*k+4) 0).toNat=q at c0 hx
          obtain rfl:q=0:=by omega
          cases hF:slF b k with
          | none=>
            rw [hF] at HZ
            obtain rfl:z= -1:=HZ.out
            have HZ2:Hid (64*(k:Int)=((slF b (k+1)).map fun q=>((64*q:Nat):Int)).getD (-1)):=Lib.hid (by
              rw [slF_succ,hF,HX.out]
              show 64*(k:Int)=((64*k:Nat):Int)
              omega)
            clear hF HZ
            go_wp2_with fail
            exact ⟨⟨k+1,_,64*(k:Int),by have:=HB.out.1;omega,by go_num,by go_num,HZ2,HF4,HEND⟩,by simp [intOf];omega⟩
          | some j=>
            rw [hF] at HZ
            have hz:z=((64*j:Nat):Int):=HZ.out
            have z0: ¬z<0:=by omega
            have HZ2:Hid (z=((slF b (k+1)).map fun q=>((64*q:Nat):Int)).getD (-1)):=Lib.hid (by
              rw [slF_succ,hF]
              exact hz)
            clear hF HZ hz
            go_wp2_with fail
            exact ⟨⟨k+1,_,z,by have:=HB.out.1;omega,by go_num,rfl,HZ2,HF4,HEND⟩,by simp [intOf];omega⟩
      · have hkn:k=n/64:=by have:=HB.out.1;omega
        have HK:=Lib.hid hkn
        have HA:=Lib.hid ((H3.out.frm HF.out).drop 2)
        have HME:Hid (MapAt KeyK okK wr mb c (slM b (b.length/64))):=Lib.hid (by rw [HN.out,←hkn];exact HM.out)
        have l1: ¬64*(k:Int)<(n:Int):=by omega
        clear HF HM hkn
        cases hF:slF b k with
        | none=>
          rw [hF] at HZ
          obtain rfl:z= -1:=HZ.out
          have HFR2:Hid (fr=n):=Lib.hid (by rw [HFR.out,←HK.out,hF];rfl)
          clear hF HZ HK HFR
          go_wp2_with fail
          go_ret3
          exact ⟨mb,by rw [HFR2.out];rfl,HA.out,c,HME.out⟩
        | some j=>
          rw [hF] at HZ
          have hz:z=((64*j:Nat):Int):=HZ.out
          have z0: ¬z<0:=by omega
          have HFR2:Hid (((fr:Nat):Int)=z):=Lib.hid (by rw [hz,HFR.out,←HK.out,hF];rfl)
          clear hF HZ HK HFR hz
          go_wp2_with fail
          go_ret3
          exact ⟨mb,by rw [HFR2.out];rfl,HA.out,c,HME.out⟩
end
section
def pathL (ns:List (List UInt8)):List UInt8:=ns.flatMap fun a=>47::a
def pathB (ns:List ByteArray):ByteArray:=⟨(pathL (ns.map (·.data.toList))).toArray⟩
theorem index_slash: ∀(a r:List UInt8),(47:UInt8)∉a→Go.Lib.index (a++47::r) [47]=(a.length:Int)
  | [],r,_=>by rw [Go.Lib.index_one];rfl
  | x::a,r,h=>by
    have hx:x≠47:=fun e=>h (by rw [e];exact List.mem_cons_self ..)
    have ih:=index_slash a r (fun e=>h (List.mem_cons_of_mem _ e))
    rw [Go.Lib.index_one] at ih ⊢
    show (if (x==47)=true then (0:Int) else if (Go.Lib.indexByte (a++47::r) 47== -1)=true then-1 else Go.Lib.indexByte (a++47::r) 47+1)=_
    rw [if_neg (by simpa using hx),if_neg (by rw [ih];intro e;have:=beq_iff_eq.1 e;omega),ih]
    simp
theorem split_path: ∀(r:List (List UInt8)) (a:List UInt8),(47:UInt8)∉a→(∀x∈r,(47:UInt8)∉x)→Go.Lib.splitK [47] 0 (Go.Lib.count (a++pathL r) [47]) (a++pathL r)=a::r
  | [],a,ha,_=>by
    have:pathL []= []:=rfl
    rw [this,List.append_nil,Go.Lib.count_one,List.count_eq_zero_of_not_mem ha]
    rfl
  | b::r,a,ha,hr=>by
    have hp:pathL (b::r)=47::(b++pathL r):=rfl
    have ih:=split_path r b (hr b (List.mem_cons_self ..)) (fun x hx=>hr x (List.mem_cons_of_mem _ hx))
    rw [hp,Go.Lib.count_one,List.count_append,List.count_eq_zero_of_not_mem ha,List.count_cons_self,Nat.zero_add]
    rw [Go.Lib.count_one] at ih
    show (if (Go.Lib.index (a++47::(b++pathL r)) [47]== -1)=true then [a++47::(b++pathL r)] else (a++47::(b++pathL r)).take ((Go.Lib.index (a++47::(b++pathL r)) [47]).toNat+0)::Go.Lib.splitK [47] 0 ((b++pathL r).count 47) ((a++47::(b++pathL r)).drop ((Go.Lib.index (a++47::(b++pathL r)) [47]).toNat+ [47].length)))=_
    rw [index_slash a _ ha,if_neg (by intro e;have:=beq_iff_eq.1 e;omega)]
    rw [show ((a.length:Int)).toNat=a.length from rfl,Nat.add_zero,List.take_left,show a.length+([47]:List UInt8).length=(a++ [47]).length by simp,show a++47::(b++pathL r)=(a++ [47])++(b++pathL r) by simp,List.drop_left,ih]
def restB (ns:List ByteArray):ByteArray:=⟨(pathL (ns.map (·.data.toList))).tail.toArray⟩
theorem map_data_inj: ∀(a b:List ByteArray),a.map (·.data.toList)=b.map (·.data.toList)→a=b
  | [],[],_=>rfl
  | [],_::_,h=>by cases h
  | _::_,[],h=>by cases h
  | x::a,y::b,h=>by
    rw [List.map_cons,List.map_cons,List.cons.injEq] at h
    have e:x=y:=by
      cases x;cases y
      exact congrArg ByteArray.mk (Array.toList_inj.1 h.1)
    rw [e,map_data_inj a b h.2]
def noSlash (s:ByteArray):Prop:=(47:UInt8)∉s.data.toList
theorem split_rest (a:ByteArray) (r:List ByteArray) (ha:noSlash a) (hr: ∀x∈r,noSlash x):Go.Lib.splitB ⟨#[47]⟩ 0 (Go.Lib.countB (restB (a::r)) ⟨#[47]⟩) (restB (a::r))=a::r:=by
  apply map_data_inj
  rw [Go.Lib.splitB_data]
  have e:(restB (a::r)).data.toList=a.data.toList++pathL (r.map (·.data.toList)):=rfl
  show Go.Lib.splitK [47] 0 (Go.Lib.count (restB (a::r)).data.toList [47]) (restB (a::r)).data.toList=_
  rw [e,split_path _ _ ha (fun x hx=>by
    obtain ⟨y,hy,rfl⟩:=List.mem_map.1 hx
    exact hr y hy)]
  rfl
theorem count_rest (a:ByteArray) (r:List ByteArray) (ha:noSlash a) (hr: ∀x∈r,noSlash x):Go.Lib.countB (restB (a::r)) ⟨#[47]⟩+1=(a::r).length:=by
  have h:=congrArg List.length (split_rest a r ha hr)
  rw [Go.Lib.splitB_all ⟨#[47]⟩ (by decide) 0 _ _ rfl] at h
  exact h
theorem pathB_snoc (ns:List ByteArray) (s:ByteArray):(pathB (ns++ [s])).data.toList=(pathB ns).data.toList++47::s.data.toList:=by
  simp [pathB,pathL,List.flatMap_append]
end
section
open Go.ChangeMaps Go.MapKept Go.RowKit
structure NameOk (s:ByteArray):Prop where
  size:1≤s.size∧s.size≤50
  ascii: ∀(j:Nat) (b:UInt8),s.data.toList[j]?=some b→b.toNat<128
  free: ∀b∈s.data.toList,b≠47∧b≠0
  dots:s.data.toList≠ [46]∧s.data.toList≠ [46,46]
theorem NameOk.nm {s:ByteArray} (h:NameOk s):NmS s:=h.size
theorem NameOk.slash {s:ByteArray} (h:NameOk s):noSlash s:=fun x=>(h.free _ x).1 rfl
theorem noAny {s:ByteArray} (h:NameOk s):Go.Lib.containsAny s.data.toList [47,0]=false:=by
  unfold Go.Lib.containsAny
  rw [Go.Lib.indexAny_none]
  · rfl
  · intro j b _ hb
    have:=h.free b (List.mem_of_getElem? hb)
    simp [this.1,this.2]
set_option maxRecDepth 100000 in
theorem d_Name (w:World) (s:ByteArray) (h:NameOk s):Calls Tryz.prog 40 #[.string s] w fun e w'=>e= .returned (.bool true)∧Frm NoB w w':=by
  have hc:=Any.strings_ContainsAny_laid Tryz.containsAny (by kernel_rfl) s ⟨#[47,0]⟩ w (by have:=h.size;omega) (by decide) h.ascii (by
    intro j b hb
    match j,hb with
    | 0,hb=>cases hb;decide
    | 1,hb=>cases hb;decide
    | j+2,hb=>cases hb)
  change Calls Tryz.prog 101 _ _ _ at hc
  have e1:Go.Lib.containsAny s.data.toList (ByteArray.mk #[47,0]).data.toList=false:=noAny h
  rw [e1] at hc
  have HC:=Lib.hid hc
  have h1: ¬s.toList= []:=fun e=>by
    have:=h.size.1
    rw [Go.Lib.toList_data] at e
    rw [Go.Lib.size_eq,e] at this
    exact absurd this (by decide)
  have h2: ¬s.toList= [46]:=fun e=>h.dots.1 (by rw [←Go.Lib.toList_data];exact e)
  have h3: ¬s.toList= [46,46]:=fun e=>h.dots.2 (by rw [←Go.Lib.toList_data];exact e)
  have h4:(s.size:Int)≤50:=by have:=h.size;omega
  clear h hc e1
  go_enter Tryz.func40,Tryz.ntmps40
  go_wp2_with fail
  refine HC.out.mono ?_
  rintro e w2 ⟨rfl,hb⟩
  have HB:=Lib.hid (Frm.ofBelow hb rfl NoB)
  clear hb
  go_wp2
  go_ret
  refine ⟨?_,HB.out⟩
  show Ending.returned (Value.bool (!s.toList.isEmpty && !s.toList== [46] && !s.toList== [46,46]))=_
  simp [h1,h2,h3]
end
section
open Go.ChangeMaps Go.MapKept Go.RowKit
variable {w0:Gnd} {w:World} {rs:List Res} {X:Sys}
theorem zeroFound (W:World):(zeroValue 297).run Tryz.prog W= .ok (.agg #[.int .i64 0,.int .i64 0]) W:=by kernel_rfl
theorem neFound: ¬U8T (297:TypeId):=by decide
def foundV (b:Blk) (s:ByteArray):Value:=((slX b (b.length/64) (keyB s)).map (slV b)).getD (.agg #[.int .i64 0,.int .i64 0])
theorem d_look {y:World} {mb n:Nat} {b:Blk} (hm:MapAt KeyK okK y mb n (slM b (b.length/64))) (s:ByteArray) (hs:s.size≤50) (W:World) (hW:W.heap[mb]?=y.heap[mb]?):
    (Instr.lookup 293 (.map (some mb)) (.agg (keyC s)) true).run Tryz.prog W= .ok (.tuple #[foundV b s,.bool (entI b (keyB s)).isSome]) W:=by
  have:=hm.lookup_ok kindKey Tryz.underlying293 (a:=keyB s) (keyB_length s hs) zeroFound W hW
  rw [slM_slX] at this
  have e:(entI b (keyB s)).isSome=(Option.map (slV b) (slX b (b.length/64) (keyB s))).isSome:=by
    unfold entI
    cases slX b (b.length/64) (keyB s)<;>rfl
  rw [e]
  exact this
def findR (o:Option Nat):Value:=match o with
  | some i=> .tuple #[.int .i64 (i:Nat),.int .i64 0]
  | none=> .tuple #[.int .i64 0,.int .i64 4]
set_option maxHeartbeats 1000000 in
set_option maxRecDepth 100000 in
theorem d_Find (h:At w0 w X rs) (ho:FsOk X) (d:Nat) (hd:X.live d) (hk:X.nd d 0=2) (b:Blk) (hb:X.bytes d=b) (hok:b.length%64=0) (s:ByteArray) (hs:NameOk s):
    Calls Tryz.prog 207 #[.pointer (some ⟨X.sb,0,none⟩),.int .i64 d,.string s] w fun e w'=>e= .returned (findR (entI b (keyB s)))∧At w0 w' X rs:=by
  have HNM:=Lib.hid (d_Name w s hs)
  obtain ⟨fr,hfr⟩: ∃fr,((slF b (b.length/64)).map (64* ·)).getD b.length=fr:=⟨_,rfl⟩
  have KN:Hid (∀y,Frm NoB w y→Calls Tryz.prog 214 #[.pointer (some ⟨X.sb,0,none⟩),.int .i64 d] y fun e w'=> ∃mb n,e= .returned (.tuple #[.map (some mb),.int .i64 fr,.int .i64 0])∧At w0 w' X rs∧MapAt KeyK okK w' mb n (slM b (b.length/64))):=Lib.hid fun y hy=>d_names (h.frm hy) ho d hd hk b hb hok fr hfr.symm
  have HSS:=Lib.hid hs.size.2
  clear h ho hd hk hb hok hs hfr
  go_enter Tryz.func207,Tryz.ntmps207
  go_wp2_with fail
  refine HNM.out.mono ?_
  rintro e w2 ⟨rfl,hf2⟩
  have HN:=Lib.hid (KN.out w2 hf2)
  clear hf2 KN HNM
  go_wp2_with fail
  refine HN.out.mono ?_
  rintro e w3 ⟨mb,n,rfl,h3,hm3⟩
  have H3:=Lib.hid h3
  have HM3:=Lib.hid hm3
  clear HN h3 hm3
  go_wp2_with fail
  refine (d_of w3 s HSS.out).mono ?_
  rintro e w4 ⟨rfl,hf4⟩
  have H4:=Lib.hid (H3.out.frm hf4)
  have hlk:=d_look (HM3.out.frm hf4 (fun e=>e)) s HSS.out w4 rfl
  clear hf4 H3 HM3
  cases hx:slX b (b.length/64) (keyB s) with
  | none=>
    have e1:entI b (keyB s)=none:=by unfold entI;rw [hx];rfl
    have e2:foundV b s= .agg #[.int .i64 0,.int .i64 0]:=by unfold foundV;rw [hx];rfl
    rw [e1,e2] at hlk
    have HE1:=Lib.hid e1
    clear e1 e2 hx
    have H5:=Lib.hid (H4.out.newArr #[.int .i64 0,.int .i64 0] 297 neFound)
    go_wp2
    go_ret2
    exact ⟨by rw [HE1.out];rfl,H5.out.drop 1⟩
  | some k=>
    have e1:entI b (keyB s)=some (slI b k):=by unfold entI;rw [hx];rfl
    have e2:foundV b s= .agg #[.int .i64 (64*k:Nat),.int .i64 (slI b k)]:=by unfold foundV;rw [hx];rfl
    rw [e1,e2] at hlk
    have HE1:=Lib.hid e1
    clear e1 e2 hx
    have H5:=Lib.hid (H4.out.newArr #[.int .i64 (64*k:Nat),.int .i64 (slI b k)] 297 neFound)
    go_wp2
    go_ret2
    exact ⟨by rw [HE1.out];rfl,H5.out.drop 1⟩
set_option maxRecDepth 100000 in
theorem d_changing (h:At w0 w X rs) (hop:X.op=true) (ho:FsOk X) (d:Nat) (hd:X.live d) (hk:X.nd d 0=2) (b:Blk) (hb:X.bytes d=b) (hok:b.length%64=0) (s:ByteArray) (hs:NameOk s) (fr:Nat) (hfr:fr=((slF b (b.length/64)).map (64* ·)).getD b.length):
    Calls Tryz.prog 209 #[.pointer (some ⟨X.sb,0,none⟩),.int .i64 d,.string s] w fun e w'=> ∃mb n,e= .returned (.tuple #[.map (some mb),.int .i64 fr,.int .i64 0])∧At w0 w' X rs∧MapAt KeyK okK w' mb n (slM b (b.length/64)):=by
  have HRD:=Lib.hid (i_Ready h)
  rw [hop] at HRD
  have HNM:=Lib.hid (d_Name w s hs)
  have KN:Hid (∀y,Frm NoB w y→Calls Tryz.prog 214 #[.pointer (some ⟨X.sb,0,none⟩),.int .i64 d] y fun e w'=> ∃mb n,e= .returned (.tuple #[.map (some mb),.int .i64 fr,.int .i64 0])∧At w0 w' X rs∧MapAt KeyK okK w' mb n (slM b (b.length/64))):=Lib.hid fun y hy=>d_names (h.frm hy) ho d hd hk b hb hok fr hfr
  clear h ho hd hk hb hok hs hfr hop
  go_enter Tryz.func209,Tryz.ntmps209
  go_wp2_with fail
  refine HRD.out.mono ?_
  rintro e w1 ⟨rfl,rfl⟩
  go_wp2_with fail
  refine HNM.out.mono ?_
  rintro e w2 ⟨rfl,hf2⟩
  have HN:=Lib.hid (KN.out w2 hf2)
  clear hf2 KN HNM HRD
  go_wp2_with fail
  refine HN.out.mono ?_
  rintro e w3 ⟨mb,n,rfl,h3,hm3⟩
  have H3:=Lib.hid h3
  have HM3:=Lib.hid hm3
  clear HN h3 hm3
  go_wp2_with fail
  go_ret3
  exact ⟨mb,n,rfl,H3.out,HM3.out⟩
set_option maxHeartbeats 1000000 in
set_option maxRecDepth 100000 in
theorem d_Add (h:At w0 w X rs) (hop:X.op=true) (ho:FsOk X) (d:Nat) (hd:X.live d) (hk:X.nd d 0=2) (b:Blk) (hb:X.bytes d=b) (hok:b.length%64=0) (s:ByteArray) (hs:NameOk s) (he:entI b (keyB s)=none) (i:Nat) (hi:i<4294967296) (fr:Nat) (hfr:fr=((slF b (b.length/64)).map (64* ·)).getD b.length) (ha:fr≤X.nd d 1) (S:Nat) (hS:S=max (X.nd d 1) (fr+64)) (h2:S≤5120) (hfb:dat S-dat (X.nd d 1)≤X.fb) {C:List Nat} (hC:Cov X C) (hbm:X.P.bm∈C) (htb:X.P.tb+d/8∈C) (hin: ∀k,k<dat (X.nd d 1)→X.nd d (2+k)∈C) (h60:C.length+(dat S-dat (X.nd d 1))≤60):
    Calls Tryz.prog 120 #[.pointer (some ⟨X.sb,0,none⟩),.int .i64 d,.string s,.int .i64 i] w fun e w'=>e= .returned (.int .i64 0)∧∃W N,At w0 w' W rs∧Wrote X W d fr (nameB i s)∧N.length=dat S-dat (X.nd d 1)∧Cov W (C++N)∧∀k,k<dat S→W.nd d (2+k)∈C++N:=by
  have HCH:=Lib.hid (d_changing h hop ho d hd hk b hb hok s hs fr hfr)
  have KL:Hid (∀y,At w0 y X rs→Calls Tryz.prog 211 #[.pointer (some ⟨X.sb,0,none⟩),.int .i64 d,.int .i64 fr,.string s,.int .i64 i] y fun e w'=>e= .returned (.int .i64 0)∧∃W N,At w0 w' W rs∧Wrote X W d fr (nameB i s)∧N.length=dat S-dat (X.nd d 1)∧Cov W (C++N)∧∀k,k<dat S→W.nd d (2+k)∈C++N):=Lib.hid fun y hy=>d_lay hy hop ho d hd fr ha s hs.size.2 i hi S hS h2 hfb hC hbm htb hin h60
  have HSS:=Lib.hid hs.size.2
  have HE:=Lib.hid he
  clear h hop ho hd hk hb hok hs he hi hfr ha hS h2 hfb hC hbm htb hin h60
  go_enter Tryz.func120,Tryz.ntmps120
  go_wp2_with fail
  refine HCH.out.mono ?_
  rintro e w3 ⟨mb,n,rfl,h3,hm3⟩
  have H3:=Lib.hid h3
  have HM3:=Lib.hid hm3
  clear HCH h3 hm3
  go_wp2_with fail
  refine (d_of w3 s HSS.out).mono ?_
  rintro e w4 ⟨rfl,hf4⟩
  have H4:=Lib.hid (H3.out.frm hf4)
  have hlk:=d_look (HM3.out.frm hf4 (fun e=>e)) s HSS.out w4 rfl
  rw [HE.out] at hlk
  have hfv: ∃a c,foundV b s= .agg #[.int .i64 a,.int .i64 c]:=by
    unfold foundV
    cases slX b (b.length/64) (keyB s) with
    | none=>exact ⟨0,0,rfl⟩
    | some k=>exact ⟨_,_,rfl⟩
  obtain ⟨fa,fc,hfv⟩:=hfv
  rw [hfv] at hlk
  have H5:=Lib.hid (H4.out.newArr #[.int .i64 fa,.int .i64 fc] 297 neFound)
  clear hf4 H3 HM3 hfv
  go_upto_region 6 with (fail)
  obtain ⟨y5,hy5,h5⟩:=H5.out.name
  rw [hy5]
  have HL:=Lib.hid (KL.out y5 (h5.drop 1))
  clear hy5 h5 H4 H5 hlk KL
  go_wp2_with fail
  refine HL.out.mono ?_
  clear HL
  rintro e w6 ⟨rfl,hp⟩
  have HP:=Lib.hid hp
  clear hp
  go_wp2
  go_ret
  exact ⟨rfl,HP.out⟩
end
section
open Go.ChangeMaps Go.MapKept Go.RowKit
def mapR {α:Type} (mk:α→Value) (ok:α→Prop) (b n:Nat) (f:α→Option Value):Res where
  M:=Only b
  inv:=fun _ w=>MapAt mk ok w b n f
  lt:=fun _ w H x hx=>by obtain rfl:x=b:=hx;exact H.lt
  dry:=fun _ w H x hx c e=>by
    obtain rfl:x=b:=hx
    obtain ⟨es,clock,h,_⟩:=H
    exact notC_map h c e
  keep:=fun _ w w' N H hf hd ha=>H.of_block (hf.block b H.lt (ha b rfl))
  zone:=fun _ _ _ H _ _=>H
theorem St.mapNew {w0:Gnd} {w:World} {rs:List Res} (h:St w0 w rs) {α:Type} (mk:α→Value) (ok:α→Prop):St w0 (w.alloc (.map #[] 0)) (mapR mk ok w.heap.size 0 (fun _=>none)::rs):=
  h.make ((Frm.refl _ _).alloc _) (mapR mk ok w.heap.size 0 (fun _=>none)) (MapAt.made w) (fun x hx=>by obtain rfl:x=w.heap.size:=hx;exact Nat.le_refl _)
theorem St.mapPut {w0:Gnd} {w:World} {rs:List Res} (h:St w0 w rs) (i:Nat) {α:Type} [DecidableEq α] {mk:α→Value} {ok:α→Prop} {b n:Nat} {f:α→Option Value} (hr:rs[i]?=some (mapR mk ok b n f)) {k t e:TypeId} (K:KeyKind Tryz.prog k mk ok) (ht:Tryz.prog.underlying t=some (.map k e)) {a:α} (ha:ok a) (v:Value):
    ∃o,(∀W,W.heap[b]?=w.heap[b]?→(Instr.mapUpdate t (.map (some b)) (mk a) v).run Tryz.prog W= .ok () (setBlock W b o))∧St w0 (setBlock w b o) (rs.set i (mapR mk ok b (if (f a).isSome then n else n+1) (upd f a (some v)))):=by
  have hm:MapAt mk ok w b n f:=h.get hr
  obtain ⟨o,q1,q2⟩:=hm.update K ht ha v
  exact ⟨o,q1,h.write i hr ((Frm.refl (Only b) w).setBlock (.inl (Only.self b)) o) (mapR mk ok b _ _) (q2 w hm.lt) fun _ hx=> .inl hx⟩
theorem St.mapClear {w0:Gnd} {w:World} {rs:List Res} (h:St w0 w rs) (i:Nat) {α:Type} {mk:α→Value} {ok:α→Prop} {b n:Nat} {f:α→Option Value} (hr:rs[i]?=some (mapR mk ok b n f)) {k t e:TypeId} (ht:Tryz.prog.underlying t=some (.map k e)) (ty:TypeId):
    ∃o,(Builtin.clear_ #[t] ty #[.map (some b)]).run Tryz.prog w= .ok (.tuple #[]) (setBlock w b o)∧St w0 (setBlock w b o) (rs.set i (mapR mk ok b 0 (fun _=>none))):=by
  have hm:MapAt mk ok w b n f:=h.get hr
  obtain ⟨o,q1,q2⟩:=hm.clear ht ty
  exact ⟨o,q1 w rfl,h.write i hr ((Frm.refl (Only b) w).setBlock (.inl (Only.self b)) o) (mapR mk ok b _ _) (q2 w hm.lt) fun _ hx=> .inl hx⟩
end
section
open Go.ChangeMaps Go.MapKept Go.RowKit
variable {w0:Gnd} {w:World} {rs:List Res} {X:Sys}
theorem At.mkArr (h:At w0 w X rs) {w':World} (hf:Frm NoB w w') {b:Nat} {c:Array Value} {t:TypeId} (ht: ¬U8T t) (hb:w'.heap[b]?=some (.cells c t (0,0))) (hn:w.heap.size≤b):At w0 w' X (arr b c t ht::rs):=
  ⟨(h.1.make hf (arr b c t ht) hb fun x hx=>by obtain rfl:x=b:=hx;exact hn).swap,h.2⟩
theorem At.mapAt (h:At w0 w X rs) {i:Nat} {α:Type} {mk:α→Value} {ok:α→Prop} {b n:Nat} {f:α→Option Value} (hr:rs[i]?=some (mapR mk ok b n f)):MapAt mk ok w b n f:=h.1.get (i:=i+1) hr
theorem At.mapPut (h:At w0 w X rs) (i:Nat) {α:Type} [DecidableEq α] {mk:α→Value} {ok:α→Prop} {b n:Nat} {f:α→Option Value} (hr:rs[i]?=some (mapR mk ok b n f)) {k t e:TypeId} (K:KeyKind Tryz.prog k mk ok) (ht:Tryz.prog.underlying t=some (.map k e)) {a:α} (ha:ok a) (v:Value):
    ∃o,(∀W,W.heap[b]?=w.heap[b]?→(Instr.mapUpdate t (.map (some b)) (mk a) v).run Tryz.prog W= .ok () (setBlock W b o))∧At w0 (setBlock w b o) X (rs.set i (mapR mk ok b (if (f a).isSome then n else n+1) (upd f a (some v)))):=by
  obtain ⟨o,q1,q2⟩:=h.1.mapPut (i+1) hr K ht ha v
  exact ⟨o,q1,q2,h.2⟩
theorem At.mapClear (h:At w0 w X rs) (i:Nat) {α:Type} {mk:α→Value} {ok:α→Prop} {b n:Nat} {f:α→Option Value} (hr:rs[i]?=some (mapR mk ok b n f)) {k t e:TypeId} (ht:Tryz.prog.underlying t=some (.map k e)) (ty:TypeId):
    ∃o,(Builtin.clear_ #[t] ty #[.map (some b)]).run Tryz.prog w= .ok (.tuple #[]) (setBlock w b o)∧At w0 (setBlock w b o) X (rs.set i (mapR mk ok b 0 (fun _=>none))):=by
  obtain ⟨o,q1,q2⟩:=h.1.mapClear (i+1) hr ht ty
  exact ⟨o,q1,q2,h.2⟩
end
section
open Go.ChangeMaps Go.MapKept Go.RowKit
theorem cellsStr:Tryz.prog.cellsOf 9=1:=by kernel_rfl
theorem keyLits_str (d:Nat) (s:ByteArray) (hs:s.size≤maxLen):Tryz.prog.keyLits (d+1) 9 [.string s]=some [.string s.data.toList]:=by
  unfold Program.keyLits
  simp only [Tryz.underlying9,hs,if_true]
def LeadK (p:Nat×ByteArray):Value:= .agg #[.int .i64 p.1,.string p.2]
def okL (p:Nat×ByteArray):Prop:=p.1<1000000∧p.2.size≤50
theorem keyTyLink:Tryz.prog.keyType 288=true:=by kernel_rfl
theorem cellsLink:Tryz.prog.cellsOf 288=2:=by kernel_rfl
theorem keyOf_link (p:Nat×ByteArray) (h:okL p): ∃l,keyOf Tryz.prog 288 (LeadK p)=some l:=by
  obtain ⟨d,hd⟩:=typesSz
  unfold keyOf LeadK
  simp only [Tryz.underlying288]
  rw [if_pos (by simp [keyTyLink,Value.formed,Tryz.underlying288,cellsLink]),hd]
  unfold Program.keyLits
  simp only [Tryz.underlying288,Value.cells]
  rw [if_pos (by rw [cellsLink];exact ⟨rfl,by decide+kernel⟩)]
  have hs:p.2.size≤maxLen:=Nat.le_trans h.2 (by decide)
  simp only [List.mapM_cons,List.mapM_nil,cellsInt,cellsStr,List.drop_zero,List.take_succ_cons,List.take_zero,List.drop_succ_cons,keyLits_int _ _ (okI_small p.1 h.1),keyLits_str _ _ hs]
  exact ⟨_,rfl⟩
theorem kindLink:KeyKind Tryz.prog 288 LeadK okL:=by
  have K:WideMaps.KeyLaw Tryz.prog 288:=deep_law_laid laidOutP (m:=2) (by omega) (by decide+kernel) (by kernel_rfl) (by kernel_rfl)
  refine ⟨Go.Maps.Keyed.of_law K,fun a ha=>keyOf_link a ha,fun a b h=>?_⟩
  simp only [LeadK,Value.agg.injEq] at h
  have h0:=congrArg (fun x=>x[0]?) h
  have h1:=congrArg (fun x=>x[1]?) h
  simp at h0 h1
  exact Prod.ext (by omega) h1
structure FH where
  fb:Nat
  lb:Nat
  begun:Bool
  over:Bool
  dead:Bool
theorem neFS: ¬U8T (108:TypeId):=by decide
def fsC (F:FH) (X:Sys):Array Value:= #[.pointer (some ⟨X.cb,0,none⟩),.pointer (some ⟨X.ab,0,none⟩),.pointer (some ⟨X.sb,0,none⟩),.bool F.begun,.bool F.over,.bool F.dead,.map (some F.lb)]
def fsS (F:FH) (X:Sys):Res:=arr F.fb (fsC F X) 108 neFS
abbrev Lds:=Nat×ByteArray→Option Nat
def ldF (l:Lds):Nat×ByteArray→Option Value:=fun p=>(l p).map fun i=> .int .i64 (i:Nat)
def fsL (F:FH) (n:Nat) (l:Lds):Res:=mapR LeadK okL F.lb n (ldF l)
def LdOk (A:Path→Option Nd) (ι:Path→Nat) (l:Lds):Prop:= ∀d s i,l (d,s)=some i→∃p,A (p++ [s])≠none∧ι p=d∧ι (p++ [s])=i
def Fs (w0:Gnd) (w:World) (F:FH) (X:Sys) (A:Path→Option Nd) (ι:Path→Nat) (rs:List Res):Prop:=
  (∃n l,At w0 w X (fsS F X::fsL F n l::rs)∧LdOk A ι l)∧Rep X A ι
def lookT (A:Path→Option Nd) (ι:Path→Nat) (q:Path):Option Nat:=(A q).map fun _=>ι q
theorem Rep.look {X:Sys} {A:Path→Option Nd} {ι:Path→Nat} (h:Rep X A ι) {p:Path} {n:Nat} (hp:A p=some (.dir n)) {s:ByteArray} (hs:NmS s):entI (X.bytes (ι p)) (keyB s)=lookT A ι (p++ [s]):=by
  rw [h.find hp hs]
  unfold lookT
  cases A (p++ [s]) with
  | none=>rw [if_neg (fun e=>e rfl)];rfl
  | some x=>rw [if_pos (fun e=>by cases e)];rfl
theorem Rep.get {X:Sys} {A:Path→Option Nd} {ι:Path→Nat} (h:Rep X A ι) {p:Path} (hp:A p≠none): ∃x,A p=some x:=by
  cases e:A p with
  | none=>exact absurd e hp
  | some x=>exact ⟨x,rfl⟩
theorem Rep.pre {X:Sys} {A:Path→Option Nd} {ι:Path→Nat} (h:Rep X A ι) {p:Path} (hp:A p≠none): ∀d k,k+d=p.length→0<d→∃m,A (p.take k)=some (.dir m)
  | 0,_,_,h0=>by omega
  | d+1,k,hk,_=>by
    have hlt:k<p.length:=by omega
    have e:p.take (k+1)=p.take k++ [p[k]]:=List.take_succ_eq_append_getElem hlt
    have hne:A (p.take (k+1))≠none:=by
      by_cases hd:d=0
      · rw [List.take_of_length_le (by omega)];exact hp
      · obtain ⟨m,hm⟩:=h.pre hp d (k+1) (by omega) (by omega)
        rw [hm];exact fun x=>by cases x
    rw [e] at hne
    exact (h.up _ _ hne).2
theorem Fs.frm {w0:Gnd} {w w':World} {F:FH} {X:Sys} {A:Path→Option Nd} {ι:Path→Nat} {rs:List Res} (h:Fs w0 w F X A ι rs) (hf:Frm NoB w w'):Fs w0 w' F X A ι rs:=by
  obtain ⟨⟨n,l,h1,h2⟩,h3⟩:=h
  exact ⟨⟨n,l,h1.frm hf,h2⟩,h3⟩
theorem neStr: ¬U8T (9:TypeId):=by decide
def strC (ns:List ByteArray):Array Value:=(ns.map Value.string).toArray
set_option maxRecDepth 100000 in
theorem s_Split (w:World) (a:ByteArray) (r:List ByteArray) (ha:noSlash a) (hr: ∀x∈r,noSlash x) (hs:(restB (a::r)).size<4294967281):
    Calls Tryz.prog 242 #[.string (restB (a::r)),.string ⟨#[47]⟩] w fun e w'=>e= .returned (.slice (some ⟨w.heap.size,0,none⟩) (a::r).length (a::r).length)∧w'=w.alloc (.cells (strC (a::r)) 9 (0,0)):=by
  have hcnt:=count_rest a r ha hr
  have hspl:=split_rest a r ha hr
  have hle:=Go.Lib.countB_le ⟨#[47]⟩ (by decide) (restB (a::r)).size (restB (a::r)) (Nat.le_refl _)
  have hlen:=Go.Lib.splitB_all ⟨#[47]⟩ (by decide) 0 _ (restB (a::r)) rfl
  have c:=Any.strings_genSplit_core Tryz.genSplit (by kernel_rfl) (restB (a::r)) ⟨#[47]⟩ 0 (-1) (Go.Lib.countB (restB (a::r)) ⟨#[47]⟩+1) w hs (by decide) (Nat.zero_le _)
    (fun x cc hx=>(Any.strings_Index_one { Tryz.genSplit with } x 47 _).mono fun e w' ⟨h1,h2⟩=>⟨by rw [h1];show _=Ending.returned (Value.int .i64 (Go.Lib.index x.data.toList [47]));rw [Go.Lib.index_one],h2⟩)
    ((Any.strings_Count_one { Tryz.genSplit with } (restB (a::r)) 47 w).mono fun e w' ⟨h1,h2⟩=>⟨by rw [h1];show _=Ending.returned (Value.int .i64 ((Go.Lib.count (restB (a::r)).data.toList [47]:Nat):Int));rw [Go.Lib.count_one];rfl,h2⟩)
    (by decide) (by decide) (by rw [if_pos (by decide)];omega)
  rw [Nat.add_sub_cancel,hspl,hcnt,Go.Lib.cellsOf_full] at c
  change Calls Tryz.prog 301 _ _ _ at c
  have HC:=Lib.hid c
  clear c hcnt hspl hle hlen ha hr hs
  generalize restB (a::r)=s at*
  go_enter Tryz.func242,Tryz.ntmps242
  go_wp2_with fail
  refine HC.out.mono ?_
  rintro e w2 ⟨rfl,rfl⟩
  go_wp2
  go_ret
  exact ⟨rfl,rfl⟩
theorem path_cons (a:ByteArray) (r:List ByteArray):(pathB (a::r)).data.toList=47::(restB (a::r)).data.toList:=rfl
set_option maxRecDepth 100000 in
theorem f_parts (w:World) (a:ByteArray) (r:List ByteArray) (ha:NameOk a) (hr: ∀x∈r,NameOk x) (hl:r.length≤7):
    Calls Tryz.prog 171 #[.string (pathB (a::r))] w fun e w'=> ∃b,e= .returned (.tuple #[.slice (some ⟨b,0,none⟩) (r.length+1) (r.length+1),.int .i64 0])∧Frm NoB w w'∧w.heap.size≤b∧w'.heap[b]?=some (.cells (strC (a::r)) 9 (0,0)):=by
  have hsz:(restB (a::r)).size<4294967281:=by
    have: ∀l:List ByteArray,(∀x∈l,NameOk x)→(pathL (l.map (·.data.toList))).length≤51*l.length:=fun l=>by
      induction l with
      | nil=>intro _;exact Nat.le_refl _
      | cons y l ih=>
        intro h
        have h1:=(h y (List.mem_cons_self ..)).size.2
        have h2:=ih fun x hx=>h x (List.mem_cons_of_mem _ hx)
        rw [Go.Lib.size_eq] at h1
        show ((47::y.data.toList)++pathL (l.map (·.data.toList))).length≤_
        rw [List.length_append,List.length_cons,List.length_cons]
        omega
    have h1:=this (a::r) fun x hx=>by
      rcases List.mem_cons.1 hx with rfl | hx
      · exact ha
      · exact hr x hx
    have h2:(restB (a::r)).size=(pathL ((a::r).map (·.data.toList))).tail.length:=by rw [Go.Lib.size_eq];rfl
    rw [h2,List.length_tail]
    rw [List.length_cons] at h1
    omega
  have HSP:Hid (∀w,Calls Tryz.prog 242 #[.string (restB (a::r)),.string ⟨#[47]⟩] w fun e w'=>e= .returned (.slice (some ⟨w.heap.size,0,none⟩) (r.length+1) (r.length+1))∧w'=w.alloc (.cells (strC (a::r)) 9 (0,0))):=Lib.hid (fun w=>s_Split w a r ha.slash (fun x hx=>(hr x hx).slash) hsz)
  have hne: ¬(pathB (a::r)).toList= [47]:=fun e=>by
    rw [Go.Lib.toList_data,path_cons] at e
    have h1:=(List.cons.inj e).2
    have h2:(restB (a::r)).data.toList=a.data.toList++pathL (r.map (·.data.toList)):=rfl
    rw [h2] at h1
    have h3:=(List.append_eq_nil_iff.1 h1).1
    have h4:=ha.size.1
    rw [Go.Lib.size_eq,h3] at h4
    exact absurd h4 (by decide)
  have hne:((pathB (a::r)).toList== [47])=false:=by simpa using hne
  have hcp:=Any.strings_CutPrefix Tryz.cutPrefix (pathB (a::r)) ⟨#[47]⟩ w
  change Calls Tryz.prog 127 _ _ _ at hcp
  have e1:Go.Lib.hasPrefix (pathB (a::r)).data.toList (ByteArray.mk #[47]).data.toList=true:=by rw [path_cons];rfl
  have e2:(⟨(Go.Lib.trimPrefix (pathB (a::r)).data.toList (ByteArray.mk #[47]).data.toList).toArray⟩:ByteArray)=restB (a::r):=by rw [path_cons];rfl
  rw [e1,e2] at hcp
  have HCP:=Lib.hid hcp
  have HNM:Hid (∀y (k:Nat) (hk:k<(a::r).length),Calls Tryz.prog 40 #[.string ((a::r)[k])] y fun e w'=>e= .returned (.bool true)∧Frm NoB y w'):=Lib.hid fun y k hk=>d_Name y _ (by
    rcases List.mem_cons.1 (List.getElem_mem hk) with e | e
    · rw [e];exact ha
    · exact hr _ e)
  have HL:Hid ((a::r).length=r.length+1):=Lib.hid rfl
  have n0:((r.length:Nat):Int)+1≤8:=by omega
  have n1:(0:Int)≤((r.length:Nat):Int):=Int.natCast_nonneg _
  clear ha hr hcp e1 e2 hsz
  obtain ⟨n,hn⟩: ∃n,r.length=n:=⟨_,rfl⟩
  rw [hn] at n0 n1 HL hl ⊢
  rw [hn] at HSP
  clear hn
  generalize restB (a::r)=rest at*
  generalize pathB (a::r)=path at*
  generalize a::r=ns at*
  go_enter Tryz.func171,Tryz.ntmps171
  go_wp2_with fail
  go_step3
  go_wp2_with fail
  refine HCP.out.mono ?_
  rintro e w1 ⟨rfl,rfl⟩
  go_wp2_with fail
  refine (HSP.out _).mono ?_
  clear HSP HCP hne
  rintro e w2 ⟨rfl,hw2⟩
  have hb:=block_alloc_new w1 (.cells (strC ns) 9 (0,0))
  have hf:=(Frm.refl NoB w1).alloc (.cells (strC ns) 9 (0,0))
  rw [←hw2] at hb hf
  obtain ⟨g,hg⟩: ∃g,w1.heap.size=g:=⟨_,rfl⟩
  have HG:=Lib.hid hg
  rw [hg] at hb ⊢
  have HB:=Lib.hid hb
  have HF:=Lib.hid hf
  clear hw2 hb hf hg
  go_wp2_with fail
  go_step3
  go_wp2_with fail
  go_loopw [8,25] (fun _ t25 wr=> ∃k:Nat,k≤n+1∧t25= .int .i64 k∧Hid (Frm NoB w2 wr)) (fun _ t25 _=>n+1-(intOf t25).toNat)
  case atStart=>exact ⟨0,Nat.zero_le _,rfl,Lib.hid (Frm.refl _ _)⟩
  case round=>
    obtain ⟨k,hk,rfl,HK⟩:=hrel
    have k0:(0:Int)≤(k:Int):=Int.natCast_nonneg _
    by_cases hlt:k<n+1
    · have l1:(k:Int)<(n:Int)+1:=by omega
      have hkl:k<ns.length:=by rw [HL.out];exact hlt
      have hc:wr.cell? ⟨g,k,none⟩=some (.string ns[k]):=by
        have:=HK.out.block g (lt_of_block HB.out) (fun e=>e)
        refine (cell_of_block (this.trans HB.out)).trans ?_
        unfold strC
        rw [List.getElem?_toArray,List.getElem?_map,List.getElem?_eq_getElem hkl]
        rfl
      have HN:=Lib.hid (HNM.out wr k hkl)
      generalize ns[k]=s at*
      go_wp2_with fail
      refine HN.out.mono ?_
      rintro e w3 ⟨rfl,hf3⟩
      have HK3:=Lib.hid (HK.out.trans hf3 fun _ _ e=>e)
      clear hf3 HN hc hkl
      go_wp2_with fail
      exact ⟨⟨k+1,hlt,by go_num,HK3⟩,by simp [intOf];omega⟩
    · have l1: ¬(k:Int)<(n:Int)+1:=by omega
      go_wp2_with fail
      go_ret2
      exact ⟨g,rfl,HF.out.trans HK.out (fun _ _ e=>e),by rw [HG.out];exact Nat.le_refl _,(HK.out.block g (lt_of_block HB.out) (fun e=>e)).trans HB.out⟩
def putL (l:Lds) (k:Nat×ByteArray) (i:Nat):Lds:=fun x=>if x=k then some i else l x
theorem ldF_put (l:Lds) (k:Nat×ByteArray) (i:Nat):upd (ldF l) k (some (.int .i64 (i:Nat)))=ldF (putL l k i):=by
  funext x
  unfold upd ldF putL
  by_cases e:x=k
  · rw [if_pos e,if_pos e];rfl
  · rw [if_neg e,if_neg e]
theorem Rep.small {X:Sys} {A:Path→Option Nd} {ι:Path→Nat} (h:Rep X A ι) (hX:SysOk X) {p:Path} (hp:A p≠none):ι p<4096:=by
  obtain ⟨x,hx⟩:=h.get hp
  have:=(h.live p x hx).1.1
  have:=hX.pl.ni.2
  omega
end
section
open Go.ChangeMaps Go.MapKept Go.RowKit
variable {w0:Gnd} {w:World} {rs:List Res} {X:Sys} {F:FH} {A:Path→Option Nd} {ι:Path→Nat}
set_option maxHeartbeats 1000000 in
set_option maxRecDepth 100000 in
theorem f_find (h:Fs w0 w F X A ι rs) {p:Path} {m:Nat} (hp:A p=some (.dir m)) (s:ByteArray) (hs:NameOk s):
    Calls Tryz.prog 118 #[.pointer (some ⟨F.fb,0,none⟩),.int .i64 (ι p),.string s] w fun e w'=>e= .returned (findR (lookT A ι (p++ [s])))∧Fs w0 w' F X A ι rs:=by
  obtain ⟨⟨n,l,ha,hl⟩,hr⟩:=h
  have hpn:A p≠none:=by rw [hp];exact fun x=>by cases x
  have hlive:=hr.live p _ hp
  have hdir:=hr.dir p m hp
  have hlook:=hr.look hp hs.nm
  have hsm:=hr.small ha.ok hpn
  have HR:=Lib.hid hr
  have HLD:=Lib.hid hl
  obtain ⟨r,hrr⟩: ∃r,lookT A ι (p++ [s])=r:=⟨_,rfl⟩
  have KF:Hid (Calls Tryz.prog 207 #[.pointer (some ⟨X.sb,0,none⟩),.int .i64 (ι p),.string s] w fun e w'=>e= .returned (findR r)∧At w0 w' X (fsS F X::fsL F n l::rs)):=Lib.hid (by
    have:=d_Find ha hr.ok (ι p) hlive.1 hlive.2.1 _ rfl hdir.whole s hs
    rw [hlook,hrr] at this
    exact this)
  have hI: ∀i,l (ι p,s)=some i→r=some i:=fun i hi=>by
    obtain ⟨q,q1,q2,q3⟩:=hl _ _ i hi
    have hqn:A q≠none:=by
      obtain ⟨_,mm,hm⟩:=hr.up q s q1
      rw [hm];exact fun x=>by cases x
    have:q=p:=hr.inj q p hqn hpn q2
    subst this
    obtain ⟨x,hx⟩:=hr.get q1
    rw [←hrr]
    unfold lookT
    rw [hx,←q3];rfl
  have HI:=Lib.hid hI
  have hok:okL (ι p,s):=⟨by show ι p<1000000;omega,hs.size.2⟩
  have hlk:=(ha.mapAt (i:=1) rfl).lookup_ok kindLink Tryz.underlying106 hok zeroInt w rfl
  have c2:w.cell? ⟨F.fb,2,none⟩=some (.pointer (some ⟨X.sb,0,none⟩)):=(ha.arrCell (i:=0) rfl 2).trans rfl
  have c6:w.cell? ⟨F.fb,6,none⟩=some (.map (some F.lb)):=(ha.arrCell (i:=0) rfl 6).trans rfl
  have HOK:=Lib.hid hok
  have HP:=Lib.hid hp
  have HRR:=Lib.hid hrr
  rw [hrr]
  have HA:=Lib.hid ha
  clear hl hr hlive hdir hlook hpn hI hok ha hp hs hrr
  obtain ⟨d,hd⟩: ∃d,ι p=d:=⟨_,rfl⟩
  rw [hd] at KF HI hsm hlk HOK ⊢
  have hlk:(Instr.lookup 106 (.map (some F.lb)) (.agg #[.int .i64 d,.string s]) true).run Tryz.prog w= .ok (.tuple #[((l (d,s)).map fun i=>Value.int .i64 (i:Nat)).getD (.int .i64 0),.bool ((l (d,s)).map fun i=>Value.int .i64 (i:Nat)).isSome]) w:=hlk
  cases hx:l (d,s) with
  | some i=>
    rw [hx] at hlk
    have hlk:(Instr.lookup 106 (.map (some F.lb)) (.agg #[.int .i64 d,.string s]) true).run Tryz.prog w= .ok (.tuple #[.int .i64 (i:Nat),.bool true]) w:=hlk
    have HE:=Lib.hid (HI.out i hx)
    clear hx HI KF
    go_enter Tryz.func118,Tryz.ntmps118
    go_wp2_with fail
    go_ret2
    exact ⟨by rw [HE.out];rfl,⟨n,l,HA.out,HLD.out⟩,HR.out⟩
  | none=>
    rw [hx] at hlk
    have hlk:(Instr.lookup 106 (.map (some F.lb)) (.agg #[.int .i64 d,.string s]) true).run Tryz.prog w= .ok (.tuple #[.int .i64 0,.bool false]) w:=hlk
    clear HI
    cases hrv:r with
    | none=>
      rw [hrv] at KF
      have KF:Hid (Calls Tryz.prog 207 #[.pointer (some ⟨X.sb,0,none⟩),.int .i64 d,.string s] w fun e w'=>e= .returned (.tuple #[.int .i64 0,.int .i64 4])∧At w0 w' X (fsS F X::fsL F n l::rs)):=KF
      clear hx hrv
      go_enter Tryz.func118,Tryz.ntmps118
      go_wp2_with fail
      refine KF.out.mono ?_
      rintro e w2 ⟨rfl,h2⟩
      have H2:=Lib.hid h2
      clear h2
      go_wp2_with fail
      go_ret2
      exact ⟨rfl,⟨n,l,H2.out,HLD.out⟩,HR.out⟩
    | some i=>
      rw [hrv] at KF HRR
      have KF:Hid (Calls Tryz.prog 207 #[.pointer (some ⟨X.sb,0,none⟩),.int .i64 d,.string s] w fun e w'=>e= .returned (.tuple #[.int .i64 (i:Nat),.int .i64 0])∧At w0 w' X (fsS F X::fsL F n l::rs)):=KF
      have HNL:Hid (LdOk A ι (putL l (d,s) i)):=Lib.hid fun d' s' i' hi=>by
        unfold putL at hi
        by_cases e:(d',s')=(d,s)
        · rw [if_pos e] at hi
          cases hi
          cases e
          have:=HRR.out
          unfold lookT at this
          cases hq:A (p++ [s]) with
          | none=>rw [hq] at this;cases this
          | some x=>
            rw [hq] at this
            exact ⟨p,by rw [hq];exact fun x=>(by cases x),hd,Option.some.inj this⟩
        · rw [if_neg e] at hi
          exact HLD.out d' s' i' hi
      clear hx hrv
      go_enter Tryz.func118,Tryz.ntmps118
      go_wp2_with fail
      refine KF.out.mono ?_
      rintro e w2 ⟨rfl,h2⟩
      obtain ⟨o,hup,h3⟩:=h2.mapPut 1 rfl kindLink Tryz.underlying106 HOK.out (.int .i64 (i:Nat))
      have hup:(Instr.mapUpdate 106 (.map (some F.lb)) (.agg #[.int .i64 d,.string s]) (.int .i64 (i:Nat))).run Tryz.prog w2= .ok () (setBlock w2 F.lb o):=hup w2 rfl
      rw [ldF_put] at h3
      have H3:Hid (At w0 (setBlock w2 F.lb o) X (fsS F X::fsL F _ (putL l (d,s) i)::rs)):=Lib.hid h3
      have c6:w2.cell? ⟨F.fb,6,none⟩=some (.map (some F.lb)):=(h2.arrCell (i:=0) rfl 6).trans rfl
      clear h2 h3 KF hlk
      go_wp2_with fail
      go_ret2
      exact ⟨rfl,⟨_,_,H3.out,HNL.out⟩,HR.out⟩
theorem Fs.strCell (h:Fs w0 w F X A ι rs) {j sb:Nat} {ns:Path} (hr:rs[j]?=some (arr sb (strC ns) 9 neStr)) {k:Nat} (hk:k<ns.length):w.cell? ⟨sb,k,none⟩=some (.string ns[k]):=by
  obtain ⟨⟨n,l,ha,_⟩,_⟩:=h
  refine (ha.arrCell (i:=j+2) hr k).trans ?_
  unfold strC
  rw [List.getElem?_toArray,List.getElem?_map,List.getElem?_eq_getElem hk]
  rfl
set_option maxHeartbeats 1000000 in
set_option maxRecDepth 100000 in
theorem f_walk (h:Fs w0 w F X A ι rs) (ns:Path) (hns: ∀x∈ns,NameOk x) {j sb:Nat} (hr:rs[j]?=some (arr sb (strC ns) 9 neStr)) (n:Nat) (hn:n≤ns.length) (h8:ns.length≤8) (hd: ∀k,k<n→A (ns.take k)≠none→∃m,A (ns.take k)=some (.dir m)) (cap:Nat):
    Calls Tryz.prog 172 #[.pointer (some ⟨F.fb,0,none⟩),.slice (some ⟨sb,0,none⟩) n cap] w fun e w'=>e= .returned (findR (lookT A ι (ns.take n)))∧Fs w0 w' F X A ι rs:=by
  have HD:Hid (∀k,k<n→A (ns.take k)≠none→∃m,A (ns.take k)=some (.dir m)):=Lib.hid hd
  have HNS:Hid (∀k (hk:k<ns.length),NameOk ns[k]):=Lib.hid fun k hk=>hns _ (List.getElem_mem hk)
  have HRS:=Lib.hid hr
  have HREP:=Lib.hid h.2
  have HH:=Lib.hid h
  have HR0:Hid (A (ns.take 0)≠none):=Lib.hid (by
    obtain ⟨m,hm⟩:=h.2.root
    rw [List.take_zero,hm]
    exact fun x=>by cases x)
  have HZ:Hid (ι (ns.take 0)=0):=Lib.hid h.2.zero
  have n0:(0:Int)≤(n:Int):=Int.natCast_nonneg _
  have n1:(n:Int)≤8:=by omega
  have HN:=Lib.hid hn
  clear h hns hr hd hn h8
  go_enter Tryz.func172,Tryz.ntmps172
  go_wp2_with fail
  go_loopw [4,5,7,10] (fun t4 t5 _ t10 wr=> ∃k i:Nat,k≤n∧t4= .int .i64 i∧t5= .int .i64 0∧t10= .int .i64 k∧Hid (i=ι (ns.take k))∧Hid (A (ns.take k)≠none)∧Hid (Fs w0 wr F X A ι rs)) (fun _ _ _ t10 _=>n-(intOf t10).toNat)
  case atStart=>exact ⟨0,0,Nat.zero_le _,rfl,rfl,rfl,Lib.hid HZ.out.symm,HR0,HH⟩
  case round=>
    clear HH HR0 HZ
    obtain ⟨k,i,hk,rfl,rfl,rfl,HI,HA,HF⟩:=hrel
    have k0:(0:Int)≤(k:Int):=Int.natCast_nonneg _
    by_cases hlt:k<n
    · have l1:(k:Int)<(n:Int):=by omega
      have hkl:k<ns.length:=by have:=HN.out;omega
      have hc:=HF.out.strCell HRS.out hkl
      obtain ⟨m,hm⟩:=HD.out k hlt HA.out
      have e1:ns.take (k+1)=ns.take k++ [ns[k]]:=List.take_succ_eq_append_getElem hkl
      have HFN:=f_find HF.out hm ns[k] (HNS.out k hkl)
      rw [←e1,←HI.out] at HFN
      have HFN:=Lib.hid HFN
      have HPRE:Hid (A (ns.take (k+1))=none→lookT A ι (ns.take n)=none):=Lib.hid fun hno=>by
        unfold lookT
        cases hq:A (ns.take n) with
        | none=>rfl
        | some x=>
          exfalso
          by_cases e:k+1=n
          · rw [←e,hno] at hq;cases hq
          · obtain ⟨m2,hm2⟩:=HREP.out.pre (p:=ns.take n) (by rw [hq];exact fun x=>by cases x) (n-(k+1)) (k+1) (by rw [List.length_take];have:=HN.out;omega) (by omega)
            rw [List.take_take,Nat.min_eq_left (by omega),hno] at hm2
            cases hm2
      clear e1 hm HF HI
      generalize ns[k]=s at*
      cases hx:A (ns.take (k+1)) with
      | none=>
        have HE:=Lib.hid (HPRE.out hx)
        have e2:lookT A ι (ns.take (k+1))=none:=by unfold lookT;rw [hx];rfl
        rw [e2] at HFN
        have HFN:Hid (Calls Tryz.prog 118 #[.pointer (some ⟨F.fb,0,none⟩),.int .i64 i,.string s] wr fun e w'=>e= .returned (.tuple #[.int .i64 0,.int .i64 4])∧Fs w0 w' F X A ι rs):=HFN
        clear e2 hx HPRE
        go_wp2_with fail
        refine HFN.out.mono ?_
        rintro e w3 ⟨rfl,h3⟩
        have H3:=Lib.hid h3
        clear h3 HFN
        go_wp2_with fail
        go_ret2
        exact ⟨by rw [HE.out];rfl,H3.out⟩
      | some x=>
        have e2:lookT A ι (ns.take (k+1))=some (ι (ns.take (k+1))):=by unfold lookT;rw [hx];rfl
        rw [e2] at HFN
        obtain ⟨i2,hi2⟩: ∃i2,ι (ns.take (k+1))=i2:=⟨_,rfl⟩
        rw [hi2] at HFN
        have HI2:=Lib.hid hi2.symm
        have HFN:Hid (Calls Tryz.prog 118 #[.pointer (some ⟨F.fb,0,none⟩),.int .i64 i,.string s] wr fun e w'=>e= .returned (.tuple #[.int .i64 (i2:Nat),.int .i64 0])∧Fs w0 w' F X A ι rs):=HFN
        have HA2:Hid (A (ns.take (k+1))≠none):=Lib.hid (by rw [hx];exact fun x=>by cases x)
        clear e2 hx HPRE hi2
        go_wp2_with fail
        refine HFN.out.mono ?_
        rintro e w3 ⟨rfl,h3⟩
        have H3:=Lib.hid h3
        clear h3 HFN hc
        go_wp2_with fail
        exact ⟨⟨k+1,i2,hlt,rfl,rfl,by go_num,HI2,HA2,H3⟩,by simp [intOf];omega⟩
    · obtain rfl:k=n:=by omega
      have HE:Hid (lookT A ι (ns.take k)=some i):=Lib.hid (by
        obtain ⟨x,hx⟩:=HREP.out.get HA.out
        unfold lookT
        rw [hx,HI.out];rfl)
      go_wp2_with fail
      go_ret2
      exact ⟨by rw [HE.out];rfl,HF.out⟩
end
section
open Go.ChangeMaps Go.MapKept Go.RowKit
theorem At.perm {w0:Gnd} {w:World} {X:Sys} {rs rs':List Res} (h:At w0 w X rs) (hp:rs.Perm rs'):At w0 w X rs':=⟨h.1.perm (hp.cons _),h.2⟩
end
section
open Go.ChangeMaps Go.MapKept Go.RowKit
variable {w0:Gnd} {w:World} {rs:List Res} {X:Sys} {F:FH} {A:Path→Option Nd} {ι:Path→Nat}
theorem Fs.mkArr (h:Fs w0 w F X A ι rs) {w':World} (hf:Frm NoB w w') {b:Nat} {c:Array Value} {t:TypeId} (ht: ¬U8T t) (hb:w'.heap[b]?=some (.cells c t (0,0))) (hn:w.heap.size≤b):Fs w0 w' F X A ι (arr b c t ht::rs):=by
  obtain ⟨⟨n,l,ha,hl⟩,hr⟩:=h
  exact ⟨⟨n,l,(ha.mkArr hf ht hb hn).perm ((List.Perm.swap _ _ _).trans ((List.Perm.swap _ _ _).cons _)),hl⟩,hr⟩
theorem Fs.newArr (h:Fs w0 w F X A ι rs) (c:Array Value) (t:TypeId) (ht: ¬U8T t):Fs w0 (w.alloc (.cells c t (0,0))) F X A ι (arr w.heap.size c t ht::rs):=
  h.mkArr ((Frm.refl _ _).alloc _) ht (block_alloc_new _ _) (Nat.le_refl _)
theorem Fs.sub (h:Fs w0 w F X A ι rs) {rs':List Res} (hs:rs'.Sublist rs):Fs w0 w F X A ι rs':=by
  obtain ⟨⟨n,l,ha,hl⟩,hr⟩:=h
  exact ⟨⟨n,l,ha.sub ((hs.cons_cons _).cons_cons _),hl⟩,hr⟩
theorem Fs.drop (h:Fs w0 w F X A ι rs) (n:Nat):Fs w0 w F X A ι (rs.drop n):=h.sub (List.drop_sublist n rs)
theorem Fs.arrCell (h:Fs w0 w F X A ι rs) {i b:Nat} {c:Array Value} {t:TypeId} {ht: ¬U8T t} (hr:rs[i]?=some (arr b c t ht)) (j:Nat):w.cell? ⟨b,j,none⟩=c[j]?:=by
  obtain ⟨⟨n,l,ha,_⟩,_⟩:=h
  exact ha.arrCell (i:=i+2) hr j
theorem Fs.cells (h:Fs w0 w F X A ι rs) (j:Nat):w.cell? ⟨F.fb,j,none⟩=(fsC F X)[j]?:=by
  obtain ⟨⟨n,l,ha,_⟩,_⟩:=h
  exact ha.arrCell (i:=0) rfl j
theorem Fs.name (h:Fs w0 w F X A ι rs): ∃y,w=y∧Fs w0 y F X A ι rs:=⟨w,rfl,h⟩
theorem f_parts2 (w:World) (ns:Path) (h0:ns≠ []) (hns: ∀x∈ns,NameOk x) (hl:ns.length≤8):
    Calls Tryz.prog 171 #[.string (pathB ns)] w fun e w'=> ∃b,e= .returned (.tuple #[.slice (some ⟨b,0,none⟩) ns.length ns.length,.int .i64 0])∧Frm NoB w w'∧w.heap.size≤b∧w'.heap[b]?=some (.cells (strC ns) 9 (0,0)):=by
  cases ns with
  | nil=>exact absurd rfl h0
  | cons a r=>exact f_parts w a r (hns a (List.mem_cons_self ..)) (fun x hx=>hns x (List.mem_cons_of_mem _ hx)) (by rw [List.length_cons] at hl;omega)
theorem f_Stat (h:Fs w0 w F X A ι rs) {p:Path} {x:Nd} (hp:A p=some x):
    Calls Tryz.prog 173 #[.pointer (some ⟨X.sb,0,none⟩),.int .i64 (ι p)] w fun e w'=>e= .returned (.tuple #[.agg #[.int .i64 x.kind,.int .i64 x.size],.int .i64 0])∧Fs w0 w' F X A ι rs:=by
  obtain ⟨⟨n,l,ha,hl⟩,hr⟩:=h
  obtain ⟨h1,h2,h3⟩:=hr.live p x hp
  have:=i_Stat ha (ι p) h1
  rw [h2,h3] at this
  exact this.mono fun e w' ⟨q1,q2⟩=>⟨q1,⟨n,l,q2,hl⟩,hr⟩
set_option maxHeartbeats 1000000 in
set_option maxRecDepth 100000 in
theorem f_parent (h:Fs w0 w F X A ι rs) {p:Path} {m:Nat} (hp:A p=some (.dir m)) (s:ByteArray) (hns: ∀x∈p++ [s],NameOk x) (h8:p.length≤7):
    Calls Tryz.prog 117 #[.pointer (some ⟨F.fb,0,none⟩),.string (pathB (p++ [s]))] w fun e w'=>e= .returned (.tuple #[.int .i64 (ι p),.string s,.int .i64 0])∧Fs w0 w' F X A ι rs:=by
  obtain ⟨n,hn⟩: ∃n,p.length=n:=⟨_,rfl⟩
  have hlen:(p++ [s]).length=n+1:=by simp [hn]
  have HPT:=Lib.hid (f_parts2 w (p++ [s]) (by simp) hns (by omega))
  rw [hlen] at HPT
  have htk:(p++ [s]).take n=p:=by rw [←hn];exact List.take_left
  have hlk:lookT A ι p=some (ι p):=by unfold lookT;rw [hp];rfl
  have hpre:=h.2.pre (p:=p) (by rw [hp];exact fun x=>by cases x)
  have KW:Hid (∀y sb cap,Fs w0 y F X A ι (arr sb (strC (p++ [s])) 9 neStr::rs)→Calls Tryz.prog 172 #[.pointer (some ⟨F.fb,0,none⟩),.slice (some ⟨sb,0,none⟩) n cap] y fun e w'=>e= .returned (.tuple #[.int .i64 (ι p),.int .i64 0])∧Fs w0 w' F X A ι (arr sb (strC (p++ [s])) 9 neStr::rs)):=Lib.hid fun y sb cap hy=>by
    have:=f_walk hy (p++ [s]) hns (j:=0) rfl n (by omega) (by omega) (fun k hk _=>by
      obtain ⟨m,hm⟩:=hpre (n-k) k (by omega) (by omega)
      exact ⟨m,by rw [List.take_append_of_le_length (by omega)];exact hm⟩) cap
    rw [htk,hlk] at this
    exact this
  have KS:Hid (∀y rs',Fs w0 y F X A ι rs'→Calls Tryz.prog 173 #[.pointer (some ⟨X.sb,0,none⟩),.int .i64 (ι p)] y fun e w'=>e= .returned (.tuple #[.agg #[.int .i64 2,.int .i64 m],.int .i64 0])∧Fs w0 w' F X A ι rs'):=Lib.hid fun y rs' hy=>f_Stat hy hp
  have KC:Hid (∀y sb rs' i,Fs w0 y F X A ι rs'→rs'[i]?=some (arr sb (strC (p++ [s])) 9 neStr)→y.cell? ⟨sb,n,none⟩=some (.string s)):=Lib.hid fun y sb rs' i hy hi=>by
    refine (hy.strCell hi (k:=n) (by omega)).trans ?_
    congr 2
    rw [List.getElem_append_right (by omega)]
    simp [hn]
  have HH:=Lib.hid h
  have n0:(0:Int)≤(n:Int):=Int.natCast_nonneg _
  have n1:(n:Int)≤7:=by omega
  clear h hp hns h8 hlen htk hlk hpre
  generalize pathB (p++ [s])=path at*
  generalize strC (p++ [s])=sc at*
  generalize ι p=d at*
  clear hn
  go_enter Tryz.func117,Tryz.ntmps117
  go_wp2_with fail
  refine HPT.out.mono ?_
  clear HPT
  rintro e w1 ⟨g,rfl,hf,hgn,hb⟩
  have H1:=Lib.hid (HH.out.mkArr hf neStr hb hgn)
  clear hf hgn hb HH
  go_wp2_with fail
  refine (KW.out _ _ _ H1.out).mono ?_
  clear KW H1
  rintro e w2 ⟨rfl,h2⟩
  have c2:w2.cell? ⟨F.fb,2,none⟩=some (.pointer (some ⟨X.sb,0,none⟩)):=(h2.cells 2).trans rfl
  have HS:=Lib.hid (KS.out _ _ h2)
  clear h2 KS
  go_wp2_with fail
  refine HS.out.mono ?_
  clear HS c2
  rintro e w3 ⟨rfl,h3⟩
  have H3:=Lib.hid (h3.newArr #[.int .i64 2,.int .i64 m] 82 neStt)
  clear h3
  go_upto_region 11 with (refine allocRow rfl _ _ zeroStt rfl ?_)
  obtain ⟨y1,hy1,h1⟩:=H3.out.name
  rw [hy1]
  have H4:=Lib.hid h1
  clear hy1 H3
  generalize w3.heap.size=g3 at*
  have d0:y1.cell? ⟨g3,0,none⟩=some (.int .i64 2):=(h1.arrCell (i:=0) rfl 0).trans rfl
  have dn:=KC.out y1 g _ 1 h1 rfl
  clear h1
  go_wp2_with fail
  have H5:=Lib.hid ((H4.out.drop 2).frm (Frm.refl NoB _).drew)
  clear H4 d0
  go_region
  go_wp2
  go_ret3
  exact ⟨rfl,H5.out⟩
end
section
open Go.ChangeMaps Go.MapKept Go.RowKit
theorem results_tct {P:Program} {fn:Func} {t u v:Tmp} {ty:TypeId} (h:fn.results= #[.tmp t,.cell u ty,.tmp v]) (tmps:Array Value) (w:World) (a:Addr) (ht:tmps.getD u undef= .pointer (some a)) (x:Value) (hl:(loadVar ty a).run P w= .ok x w):
    (results fn tmps).run P w= .ok (.tuple #[tmps.getD t undef,x,tmps.getD v undef]) w:=by
  have ht':tmps[u]?.getD undef= .pointer (some a):=by simpa using ht
  simp [results,h,ht',hl,asAddr]
theorem sttOne (a b:Int):((#[.int .i64 a,.int .i64 b]:Array Value).all fun x=>x.oneCell')=true:=by simp [Value.oneCell']
theorem storeStt {ops:Array Oper} {rest:List Oper} {o:Oper} {a:Act} {w:World} {Q:Exit→Act→World→Prop} (hgd:o.guard=none) (x y:Operand) (ho:o.op= .store 82 x y) (g:Nat) (k s:Int) (hx:a.eval x= .pointer (some ⟨g,0,none⟩)) (hy:a.eval y= .agg #[.int .i64 k,.int .i64 s]) (old:Array Value) (hold:old.size=2)
    (hg:w.heap[g]?=some (.cells old 82 (0,0))) (h:wpList Tryz.prog ops Q rest (a.put o.dst undef) (w.setRow g #[.int .i64 k,.int .i64 s])):wpList Tryz.prog ops Q (o::rest) a w:=
  wpList_store_row hgd _ x y ho g #[.int .i64 k,.int .i64 s] hx hy _ old hg (infoStt _ _) (by rw [hold];rfl) (sttOne k s) h
theorem loadStt {ops:Array Oper} {rest:List Oper} {o:Oper} {a:Act} {w:World} {Q:Exit→Act→World→Prop} (hw:Region.wanted o (yielded ops a.tmps)=true) (x:Operand) (ho:o.op= .load 82 x) (g:Nat) (hx:a.eval x= .pointer (some ⟨g,0,none⟩)) (k s:Int)
    (hg:w.heap[g]?=some (.cells #[.int .i64 k,.int .i64 s] 82 (0,0))) (h:wpList Tryz.prog ops Q rest (a.put o.dst (.agg #[.int .i64 k,.int .i64 s])) w):wpList Tryz.prog ops Q (o::rest) a w:=
  BigFrame.wpList_want hw fun K hK=>wp_load_row _ x ho g hx _ _ _ _ hg Tryz.underlying82 rfl (infoStt _ _) (hK _ _ h)
def leadR (A:Path→Option Nd) (ι:Path→Nat) (ns:Path):Value:=match A ns with
  | some x=> .tuple #[.int .i64 (ι ns),.agg #[.int .i64 x.kind,.int .i64 x.size],.int .i64 0]
  | none=> .tuple #[.int .i64 0,.agg #[.int .i64 0,.int .i64 0],.int .i64 4]
end
section
open Go.ChangeMaps Go.MapKept Go.RowKit
variable {w0:Gnd} {w:World} {rs:List Res} {X:Sys} {F:FH} {A:Path→Option Nd} {ι:Path→Nat}
theorem Fs.setArr (h:Fs w0 w F X A ι rs) (i:Nat) {b:Nat} {c:Array Value} {t:TypeId} {ht: ¬U8T t} (hr:rs[i]?=some (arr b c t ht)) (j:Nat) (v:Value):Fs w0 (w.setCell ⟨b,j,none⟩ v) F X A ι (rs.set i (arr b (c.setIfInBounds j v) t ht)):=by
  obtain ⟨⟨n,l,ha,hl⟩,hp⟩:=h
  exact ⟨⟨n,l,ha.setArr (i+2) hr j v,hl⟩,hp⟩
theorem Fs.setRow (h:Fs w0 w F X A ι rs) (i:Nat) {b:Nat} {c c':Array Value} {t:TypeId} {ht: ¬U8T t} (hr:rs[i]?=some (arr b c t ht)):Fs w0 (w.setRow b c') F X A ι (rs.set i (arr b c' t ht)):=by
  obtain ⟨⟨n,l,ha,hl⟩,hp⟩:=h
  exact ⟨⟨n,l,ha.setRow (i+2) hr,hl⟩,hp⟩
theorem Fs.block (h:Fs w0 w F X A ι rs) {i b:Nat} {c:Array Value} {t:TypeId} {ht: ¬U8T t} (hr:rs[i]?=some (arr b c t ht)):w.heap[b]?=some (.cells c t (0,0)):=by
  obtain ⟨⟨n,l,ha,hl⟩,hp⟩:=h
  exact ha.1.get (i:=i+3) hr
set_option maxHeartbeats 1000000 in
set_option maxRecDepth 100000 in
theorem f_leadsTo (h:Fs w0 w F X A ι rs) (ns:Path) (h0:ns≠ []) (hns: ∀x∈ns,NameOk x) (h8:ns.length≤8) (hd: ∀k,k<ns.length→A (ns.take k)≠none→∃m,A (ns.take k)=some (.dir m)):
    Calls Tryz.prog 87 #[.pointer (some ⟨F.fb,0,none⟩),.string (pathB ns)] w fun e w'=>e= .returned (leadR A ι ns)∧Fs w0 w' F X A ι rs:=by
  obtain ⟨n,hn⟩: ∃n,ns.length=n:=⟨_,rfl⟩
  have HPT:=Lib.hid (fun w=>f_parts2 w ns h0 hns h8)
  rw [hn] at HPT
  have KW:Hid (∀y sb cap rs',Fs w0 y F X A ι (arr sb (strC ns) 9 neStr::rs')→Calls Tryz.prog 172 #[.pointer (some ⟨F.fb,0,none⟩),.slice (some ⟨sb,0,none⟩) n cap] y fun e w'=>e= .returned (findR (lookT A ι ns))∧Fs w0 w' F X A ι (arr sb (strC ns) 9 neStr::rs')):=Lib.hid fun y sb cap rs' hy=>by
    have:=f_walk hy ns hns (j:=0) rfl n (by omega) h8 (fun k hk=>hd k (by omega)) cap
    rw [List.take_of_length_le (by omega)] at this
    exact this
  have KS:Hid (∀y rs' x,A ns=some x→Fs w0 y F X A ι rs'→Calls Tryz.prog 173 #[.pointer (some ⟨X.sb,0,none⟩),.int .i64 (ι ns)] y fun e w'=>e= .returned (.tuple #[.agg #[.int .i64 x.kind,.int .i64 x.size],.int .i64 0])∧Fs w0 w' F X A ι rs'):=Lib.hid fun y rs' x hp hy=>f_Stat hy hp
  have HH:=Lib.hid (h.newArr #[.int .i64 0,.int .i64 0] 82 neStt)
  have n0:(0:Int)≤(n:Int):=Int.natCast_nonneg _
  have n1:(n:Int)≤8:=by omega
  have c0:((w.alloc (.cells #[.int .i64 0,.int .i64 0] 82 (0,0))).cell? ⟨F.fb,0,none⟩)=some (.pointer (some ⟨X.cb,0,none⟩)):=(HH.out.cells 0).trans rfl
  clear h h0 hns h8 hd hn
  have e1: ∀x,A ns=some x→leadR A ι ns= .tuple #[.int .i64 (ι ns),.agg #[.int .i64 x.kind,.int .i64 x.size],.int .i64 0]∧lookT A ι ns=some (ι ns):=fun x hx=>⟨by unfold leadR;rw [hx],by unfold lookT;rw [hx];rfl⟩
  have e2:A ns=none→leadR A ι ns= .tuple #[.int .i64 0,.agg #[.int .i64 0,.int .i64 0],.int .i64 4]∧lookT A ι ns=none:=fun hx=>⟨by unfold leadR;rw [hx],by unfold lookT;rw [hx];rfl⟩
  generalize leadR A ι ns=lr at*
  generalize lookT A ι ns=lk at*
  generalize pathB ns=path at*
  generalize strC ns=sc at*
  generalize ι ns=d at*
  cases hx:A ns with
  | none=>
    obtain ⟨rfl,rfl⟩:=e2 hx
    have KW:Hid (∀y sb cap rs',Fs w0 y F X A ι (arr sb sc 9 neStr::rs')→Calls Tryz.prog 172 #[.pointer (some ⟨F.fb,0,none⟩),.slice (some ⟨sb,0,none⟩) n cap] y fun e w'=>e= .returned (.tuple #[.int .i64 0,.int .i64 4])∧Fs w0 w' F X A ι (arr sb sc 9 neStr::rs')):=KW
    clear KS e1 e2 hx
    go_enter Tryz.func87,Tryz.ntmps87
    go_upto_region 1 with (refine allocRow rfl _ _ zeroStt rfl ?_)
    obtain ⟨y0,hy0,h1⟩:=HH.out.name
    rw [hy0] at c0 ⊢
    have H1:=Lib.hid h1
    clear hy0 HH h1
    generalize w.heap.size=b5 at*
    go_wp2_with fail
    refine (HPT.out _).mono ?_
    clear HPT c0
    rintro e w1 ⟨g,rfl,hf,hgn,hb⟩
    have H2:=Lib.hid (H1.out.mkArr hf neStr hb hgn)
    clear hf hgn hb H1
    go_wp2_with fail
    refine (KW.out _ _ _ _ H2.out).mono ?_
    clear KW H2
    rintro e w2 ⟨rfl,h2⟩
    have H3:=Lib.hid h2
    clear h2
    have HB:=Lib.hid (H3.out.block (i:=1) rfl)
    have H4:=Lib.hid (H3.out.setRow 1 (c':= #[.int .i64 0,.int .i64 0]) rfl)
    go_wp2_with (refine storeStt rfl _ _ rfl b5 0 0 rfl rfl _ rfl HB.out ?_)
    obtain ⟨y1,hy1,h1⟩:=H4.out.name
    rw [hy1]
    have H5:=Lib.hid h1
    have hld:=run_loadVar_row (P:=Tryz.prog) y1 b5 82 82 #[.int .i64 0,.int .i64 0] (0,0) _ (h1.block (i:=1) rfl) Tryz.underlying82 rfl (infoStt _ _)
    exact bodyPost_ret (v:= .tuple #[.int .i64 0,.agg #[.int .i64 0,.int .i64 0],.int .i64 4]) (results_tct Tryz.results87 _ _ ⟨b5,0,none⟩ rfl _ hld) rfl ⟨rfl,H5.out.drop 2⟩
  | some x=>
    obtain ⟨rfl,rfl⟩:=e1 x hx
    have KW:Hid (∀y sb cap rs',Fs w0 y F X A ι (arr sb sc 9 neStr::rs')→Calls Tryz.prog 172 #[.pointer (some ⟨F.fb,0,none⟩),.slice (some ⟨sb,0,none⟩) n cap] y fun e w'=>e= .returned (.tuple #[.int .i64 d,.int .i64 0])∧Fs w0 w' F X A ι (arr sb sc 9 neStr::rs')):=KW
    have KS2:Hid (∀y rs',Fs w0 y F X A ι rs'→Calls Tryz.prog 173 #[.pointer (some ⟨X.sb,0,none⟩),.int .i64 d] y fun e w'=>e= .returned (.tuple #[.agg #[.int .i64 x.kind,.int .i64 x.size],.int .i64 0])∧Fs w0 w' F X A ι rs'):=Lib.hid fun y rs' hy=>KS.out y rs' x hx hy
    clear KS e1 e2 hx
    generalize x.kind=xk at*
    generalize x.size=xs at*
    go_enter Tryz.func87,Tryz.ntmps87
    go_upto_region 1 with (refine allocRow rfl _ _ zeroStt rfl ?_)
    obtain ⟨y0,hy0,h1⟩:=HH.out.name
    rw [hy0] at c0 ⊢
    have H1:=Lib.hid h1
    clear hy0 HH h1
    generalize w.heap.size=b5 at*
    go_wp2_with fail
    refine (HPT.out _).mono ?_
    clear HPT c0
    rintro e w1 ⟨g,rfl,hf,hgn,hb⟩
    have H2:=Lib.hid (H1.out.mkArr hf neStr hb hgn)
    clear hf hgn hb H1
    go_wp2_with fail
    refine (KW.out _ _ _ _ H2.out).mono ?_
    clear KW H2
    rintro e w2 ⟨rfl,h2⟩
    have c2:w2.cell? ⟨F.fb,2,none⟩=some (.pointer (some ⟨X.sb,0,none⟩)):=(h2.cells 2).trans rfl
    have HS:=Lib.hid (KS2.out _ _ h2)
    clear h2 KS2
    go_wp2_with fail
    refine HS.out.mono ?_
    clear HS c2
    rintro e w3 ⟨rfl,h3⟩
    have H3:=Lib.hid (h3.newArr #[.int .i64 xk,.int .i64 xs] 82 neStt)
    clear h3
    go_upto_region 10 with (refine allocRow rfl _ _ zeroStt rfl ?_)
    obtain ⟨y1,hy1,h1⟩:=H3.out.name
    rw [hy1]
    generalize w3.heap.size=g3 at*
    have d0:y1.cell? ⟨g3,0,none⟩=some (.int .i64 xk):=(h1.arrCell (i:=0) rfl 0).trans rfl
    have d1:y1.cell? ⟨g3,1,none⟩=some (.int .i64 xs):=(h1.arrCell (i:=0) rfl 1).trans rfl
    have e0:y1.cell? ⟨b5,0,none⟩=some (.int .i64 0):=(h1.arrCell (i:=2) rfl 0).trans rfl
    have e1:y1.cell? ⟨b5,1,none⟩=some (.int .i64 0):=(h1.arrCell (i:=2) rfl 1).trans rfl
    have h4:=h1.setArr 2 rfl 0 (.int .i64 xk)
    have f0:y1.frozen? ⟨b5,0,none⟩=false:=frozen_of_block (h1.block (i:=2) rfl)
    have f1:(y1.setCell ⟨b5,0,none⟩ (.int .i64 xk)).frozen? ⟨b5,1,none⟩=false:=frozen_of_block (h4.block (i:=2) rfl)
    have e2:(y1.setCell ⟨b5,0,none⟩ (.int .i64 xk)).cell? ⟨b5,1,none⟩=some (.int .i64 0):=(h4.arrCell (i:=2) rfl 1).trans rfl
    have H5:=Lib.hid (h4.setArr 2 rfl 1 (.int .i64 xs))
    clear hy1 H3 h1 h4
    go_region
    have h6:=H5.out.frm (Frm.refl NoB _).drew
    obtain ⟨y6,hy6,h6⟩:=h6.name
    clear e0 e1 d0 d1 f0 f1 e2 H5
    go_wp2_with fail
    have e6:((y1.setCell ⟨b5,0,none⟩ (.int .i64 xk)).setCell ⟨b5,1,none⟩ (.int .i64 xs)).drew=y6:=hy6
    first | rw [e6] | skip
    have H6:=Lib.hid h6
    have hld:=run_loadVar_row (P:=Tryz.prog) y6 b5 82 82 #[.int .i64 xk,.int .i64 xs] (0,0) _ (h6.block (i:=2) rfl) Tryz.underlying82 rfl (infoStt _ _)
    exact bodyPost_ret (v:= .tuple #[.int .i64 d,.agg #[.int .i64 xk,.int .i64 xs],.int .i64 0]) (results_tct Tryz.results87 _ _ ⟨b5,0,none⟩ rfl _ hld) rfl ⟨rfl,H6.out.drop 3⟩
set_option maxHeartbeats 1000000 in
set_option maxRecDepth 100000 in
theorem f_fileAt (h:Fs w0 w F X A ι rs) (ns:Path) (h0:ns≠ []) (hns: ∀x∈ns,NameOk x) (h8:ns.length≤8) (hd: ∀k,k<ns.length→A (ns.take k)≠none→∃m,A (ns.take k)=some (.dir m)) (hf: ∀m,A ns≠some (.dir m)):
    Calls Tryz.prog 121 #[.pointer (some ⟨F.fb,0,none⟩),.string (pathB ns)] w fun e w'=>e= .returned (leadR A ι ns)∧Fs w0 w' F X A ι rs:=by
  have KL:Hid (∀y rs',Fs w0 y F X A ι rs'→Calls Tryz.prog 87 #[.pointer (some ⟨F.fb,0,none⟩),.string (pathB ns)] y fun e w'=>e= .returned (leadR A ι ns)∧Fs w0 w' F X A ι rs'):=Lib.hid fun y rs' hy=>f_leadsTo hy ns h0 hns h8 hd
  have HH:=Lib.hid (h.newArr #[.int .i64 0,.int .i64 0] 82 neStt)
  have hR: ∃(i:Nat) (k:Int) (s:Nat) (e:Int),leadR A ι ns= .tuple #[.int .i64 i,.agg #[.int .i64 k,.int .i64 s],.int .i64 e]∧((e=0∧k=1)∨e=4):=by
    cases hx:A ns with
    | none=>exact ⟨0,0,0,4,by unfold leadR;rw [hx];rfl,.inr rfl⟩
    | some x=>
      cases x with
      | dir m=>exact absurd hx (hf m)
      | file b=>exact ⟨ι ns,1,b.length,0,by unfold leadR;rw [hx];rfl,.inl ⟨rfl,rfl⟩⟩
  obtain ⟨i,k,s,er,hlr,hcase⟩:=hR
  rw [hlr] at KL ⊢
  have KL:=Lib.hid (KL.out _ _ HH.out)
  clear h h0 hns h8 hd hf hlr
  generalize pathB ns=path at*
  go_enter Tryz.func121,Tryz.ntmps121
  go_upto_region 1 with (refine allocRow rfl _ _ zeroStt rfl ?_)
  obtain ⟨y0,hy0⟩: ∃y0,w.alloc (.cells #[.int .i64 0,.int .i64 0] 82 (0,0))=y0:=⟨_,rfl⟩
  rw [hy0] at KL ⊢
  clear HH hy0
  generalize w.heap.size=b5 at*
  go_wp2_with fail
  refine KL.out.mono ?_
  clear KL
  rintro e w1 ⟨rfl,h1⟩
  have H1:=Lib.hid (h1.newArr #[.int .i64 k,.int .i64 (s:Nat)] 82 neStt)
  clear h1
  go_upto_region 2 with (refine allocRow rfl _ _ zeroStt rfl ?_)
  obtain ⟨y1,hy1,h1⟩:=H1.out.name
  rw [hy1]
  generalize w1.heap.size=g3 at*
  have d0:y1.cell? ⟨g3,0,none⟩=some (.int .i64 k):=(h1.arrCell (i:=0) rfl 0).trans rfl
  have d1:y1.cell? ⟨g3,1,none⟩=some (.int .i64 s):=(h1.arrCell (i:=0) rfl 1).trans rfl
  have e0:y1.cell? ⟨b5,0,none⟩=some (.int .i64 0):=(h1.arrCell (i:=1) rfl 0).trans rfl
  have e1:y1.cell? ⟨b5,1,none⟩=some (.int .i64 0):=(h1.arrCell (i:=1) rfl 1).trans rfl
  have h4:=h1.setArr 1 rfl 0 (.int .i64 k)
  have f0:y1.frozen? ⟨b5,0,none⟩=false:=frozen_of_block (h1.block (i:=1) rfl)
  have f1:(y1.setCell ⟨b5,0,none⟩ (.int .i64 k)).frozen? ⟨b5,1,none⟩=false:=frozen_of_block (h4.block (i:=1) rfl)
  have e2:(y1.setCell ⟨b5,0,none⟩ (.int .i64 k)).cell? ⟨b5,1,none⟩=some (.int .i64 0):=(h4.arrCell (i:=1) rfl 1).trans rfl
  have H5:=Lib.hid (h4.setArr 1 rfl 1 (.int .i64 s))
  clear hy1 H1 h1 h4
  rcases hcase with ⟨rfl,rfl⟩ | rfl
  all_goals
    go_upto_region 4 with fail
    go_region
    have h6:=H5.out.frm (Frm.refl NoB _).drew
    obtain ⟨y6,hy6,h6⟩:=h6.name
    clear e0 e1 d0 d1 f0 f1 e2 H5
    go_wp2_with fail
    first | rw [hy6] | skip
    have H6:=Lib.hid h6
    have hld:=run_loadVar_row (P:=Tryz.prog) y6 b5 82 82 #[.int .i64 _,.int .i64 _] (0,0) _ (h6.block (i:=1) rfl) Tryz.underlying82 rfl (infoStt _ _)
    exact bodyPost_ret (v:= .tuple #[.int .i64 _,.agg #[.int .i64 _,.int .i64 _],.int .i64 _]) (results_tct Tryz.results121 _ _ ⟨b5,0,none⟩ rfl _ hld) rfl ⟨rfl,H6.out.drop 2⟩
end
section
open Go.ChangeMaps Go.MapKept Go.RowKit
def statR (A:Path→Option Nd) (ns:Path):Value:=match A ns with
  | some x=> .tuple #[.agg #[.int .i64 x.kind,.int .i64 x.size],.int .i64 0]
  | none=> .tuple #[.agg #[.int .i64 0,.int .i64 0],.int .i64 4]
end
end Go.Proofs.YtlemndledcmhiaaGreatDoor
