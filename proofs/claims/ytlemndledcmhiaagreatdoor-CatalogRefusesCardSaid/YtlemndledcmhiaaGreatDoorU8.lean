/-
  The catalog, from the device up, part 8.
-/
import Derived.Test.YtlemndledcmhiaaGreatDoorU7
import Derived.RegionTactic
namespace Go.Proofs.YtlemndledcmhiaaGreatDoor
set_option linter.unusedVariables false
set_option linter.unusedSimpArgs false
section
open Go.ChangeMaps Go.MapKept Go.RowKit
variable {w0:Gnd} {w:World} {rs:List Res} {X:Sys}
set_option maxRecDepth 100000 in
theorem a_give (h:At w0 w X rs) (hop:X.op=true) (fi many:Nat) (hf:245≤fi) (hfn:fi<X.n) (hm:many≤4096) (k:Nat) (hk:k<many) (hb:bitAt (X.v fi) k=true) (hr:(fi:Int)∈X.keys∨X.l.length<60):
    Calls Tryz.prog 280 #[.pointer (some ⟨X.ab,0,none⟩),.agg #[.int .i64 fi,.int .i64 many],.int .i64 k] w fun e w'=>e= .returned (.int .i64 0)∧At w0 w' (X.put fi (setBit (X.v fi) k false)) rs:=by
  have ho:=h.ok
  have hl:=ho.len fi hf hfn
  have hn:=ho.maps.2.2.2.2
  have H1:=Lib.hid (h.newArr #[.int .i64 fi,.int .i64 many] 186 neAr)
  have k0:(0:Int)≤(k:Int):=Int.natCast_nonneg _
  have k1:(k:Int)<(many:Int):=by omega
  have k2:(k:Int)<4096:=by omega
  have k3:(k:Int)/4096=0:=by omega
  have k4:(k:Int)%4096=(k:Int):=by omega
  have k5:(k:Int).tmod 4096=(k:Int):=by rw [Int.tmod_eq_emod_of_nonneg (by omega)];omega
  have m0:(0:Int)≤(fi:Int):=Int.natCast_nonneg _
  have m1:(fi:Int)≤65536:=by omega
  have HI:=Lib.hid (And.intro hf hfn)
  have HL:=Lib.hid hl
  have HB:=Lib.hid hb
  have HR:=Lib.hid hr
  have HK:Hid (k<4096):=Lib.hid (by omega)
  have KS:Hid (∀y rs',At w0 y X rs'→y.cell? ⟨X.ab,0,none⟩=some (.pointer (some ⟨X.cb,0,none⟩))):=Lib.hid fun y rs' hy=>hy.alCells.1
  clear h ho hl hn hf hfn hk hb hr hm
  go_enter Tryz.func280,Tryz.ntmps280
  go_upto_region 1 with (fail)
  obtain ⟨y1,hy1,h1⟩:=H1.out.name
  rw [hy1]
  clear hy1 H1
  generalize w.heap.size=bx at*
  have d0:y1.cell? ⟨bx,0,none⟩=some (.int .i64 fi):=(h1.arrCell (i:=0) rfl 0).trans rfl
  have d1:y1.cell? ⟨bx,1,none⟩=some (.int .i64 many):=(h1.arrCell (i:=0) rfl 1).trans rfl
  have c0:=KS.out _ _ h1
  have HRD:=Lib.hid (a_ready h1)
  rw [hop] at HRD
  have HRR:=Lib.hid (x_Read h1 fi HI.out.1 HI.out.2)
  clear h1
  go_wp2_with fail
  refine HRD.out.mono ?_
  rintro e w2 ⟨rfl,rfl⟩
  clear HRD
  go_wp2_with fail
  refine HRR.out.mono ?_
  clear HRR d0 d1 c0
  rintro e w3 ⟨v,rfl,h3⟩
  have HT:=Lib.hid (bitsTest_any w3 v _ k (h3.byt (i:=0) rfl).sliceOf (by have:=HK.out;omega) (by rw [HL.out];omega))
  rw [HB.out] at HT
  have H3:=Lib.hid h3
  clear h3
  go_wp2_with fail
  refine HT.out.mono ?_
  rintro e w4 ⟨rfl,rfl⟩
  clear HT
  have c0:=KS.out _ _ H3.out
  go_upto_region 11 with (fail)
  go_region_held3 (fun y=>y.cell? ⟨X.ab,0,none⟩=some (.pointer (some ⟨X.cb,0,none⟩)))
    (first | exact h8.alCells.1 | exact KS.out _ _ h7 | exact KS.out _ _ (H3.out.frm (Frm.refl NoB w3).drew))
    (first
      | (go_at_call 92;(with_reducible refine (x_Write h7 hop fi 0 HI.out.1 HI.out.2 rfl (by rw [setBit_length];exact HL.out) HR.out).mono ?_);rintro e w6 ⟨rfl,h8⟩)
      | (go_at_call 316;(with_reducible refine (bitsSet_off _ v (X.v fi) k _ ((H3.out.frm (Frm.refl NoB w3).drew).byt (i:=0) rfl) (by rw [HL.out];have:=HK.out;omega) (by rw [HL.out];omega)).mono ?_);rintro e w5 ⟨v5,rfl,hb5,hf5⟩;have h7:=(H3.out.frm (Frm.refl NoB w3).drew).mkByt hf5 hb5))
  have H8:=Lib.hid (h8.drop 3)
  clear h7 h8 hb5 hf5 KS c0
  go_wp2
  go_ret
  exact ⟨rfl,H8.out⟩
set_option maxRecDepth 100000 in
theorem a_GiveBlock (h:At w0 w X rs) (hop:X.op=true) (k:Nat) (hk:k<X.P.dc) (hb:bitAt (X.v X.P.bm) k=true) (hr:(X.P.bm:Int)∈X.keys∨X.l.length<60):
    Calls Tryz.prog 279 #[.pointer (some ⟨X.ab,0,none⟩),.int .i64 (X.P.da+k:Nat)] w fun e w'=>e= .returned (.int .i64 0)∧At w0 w' (X.put X.P.bm (setBit (X.v X.P.bm) k false)) rs:=by
  have ho:=h.ok
  have hm:=ho.maps
  have hd:=ho.pl.dc
  have hda:X.P.da≤65536:=by have:=ho.pl.all;have:=ho.pl.n;omega
  have HB:=Lib.hid (fun y (hy:Frm NoB w y)=>a_blocks (h.frm hy))
  have HT:=Lib.hid (fun y (hy:Frm NoB w y)=>a_give (h.frm hy) hop X.P.bm X.P.dc hm.2.2.1 hm.2.2.2.1 hd.2 k hk hb hr)
  have KS:Hid (∀y,Frm NoB w y→y.cell? ⟨X.ab,6,none⟩=some (.int .i64 X.P.da)):=Lib.hid fun y hy=>(h.frm hy).alCells.2.2.2.2.2.2.1
  have h1:(0:Int)≤(X.P.da:Int):=Int.natCast_nonneg _
  have h2:(X.P.da:Int)≤65536:=by omega
  have h3:(0:Int)≤(k:Int):=Int.natCast_nonneg _
  have h4:(k:Int)≤65536:=by omega
  have hlt: ¬((X.P.da+k:Nat):Int)<(X.P.da:Int):=by omega
  have hsub:IntKind.i64.wrap (((X.P.da+k:Nat):Int)-(X.P.da:Int))=(k:Int):=by
    rw [show ((X.P.da+k:Nat):Int)-(X.P.da:Int)=(k:Int) from by omega]
    exact IntWalk.i64_in _ (by omega)
  have c6:=KS.out w (Frm.refl _ _)
  obtain ⟨q,hq⟩: ∃q,X.P.da+k=q:=⟨_,rfl⟩
  rw [hq] at hlt hsub ⊢
  clear h ho hr hm hd hk hb hda hq
  go_enter Tryz.func279,Tryz.ntmps279
  go_upto_region 5 with (fail)
  go_region_held3 (fun y=>y.cell? ⟨X.ab,6,none⟩=some (.int .i64 X.P.da))
    (first | exact h7.alCells.2.2.2.2.2.2.1 | exact KS.out _ hf2 | exact KS.out _ (Frm.refl NoB w).drew)
    (first
      | (go_at_call 113;(with_reducible refine (HB.out _ (Frm.refl NoB w).drew).mono ?_);rintro e w2 ⟨rfl,hf⟩;have hf2:=(Frm.refl NoB w).drew.trans hf (fun _ _ e=>e))
      | (go_at_call 280;(with_reducible refine (HT.out _ hf2).mono ?_);rintro e w3 ⟨rfl,h7⟩))
  have H8:=Lib.hid h7
  clear h7 hf hf2 KS c6 hsub
  go_wp2
  go_ret
  exact ⟨rfl,H8.out⟩
end
section
open Go.ChangeMaps Go.MapKept Go.RowKit
theorem entFree1:EntersF Tryz.prog 201:=entersF_of Tryz.func201 (by kernel_rfl) rfl
end
section
open Go.ChangeMaps Go.MapKept Go.RowKit
variable {w0:Gnd} {w:World} {rs:List Res} {X:Sys}
set_option maxRecDepth 100000 in
theorem a_free1 {ba bn:Nat} (h:At w0 w X rs) (fi many:Nat) (hf:245≤fi) (hfn:fi<X.n) (hm:many≤4096)
    (ia ib:Nat) (ha:rs[ia]?=some (arr ba #[.pointer (some ⟨X.ab,0,none⟩)] 104 neApt)) (hb:rs[ib]?=some (arr bn #[.int .i64 many] 3 neI8)):
    Calls Tryz.prog 201 #[.int .i64 fi,.int .i64 0,.int .i64 many,.pointer (some ⟨ba,0,none⟩),.pointer (some ⟨bn,0,none⟩)] w fun e w'=>
      e= .returned (.bool true)∧At w0 w' X (rs.set ib (arr bn #[.int .i64 (many-popc (X.v fi) many:Nat)] 3 neI8)):=by
  have hv512:=h.ok.len fi hf hfn
  have hpc:=popc_le (X.v fi) many
  have ca:w.cell? ⟨ba,0,none⟩=some (.pointer (some ⟨X.ab,0,none⟩)):=(h.arrCell ha 0).trans rfl
  have c0:=h.alCells.1
  have HR:=Lib.hid (x_Read h fi hf hfn)
  have HV:=Lib.hid hv512
  have HB:=Lib.hid hb
  have HPE:Hid (((many:Nat):Int)-(popc (X.v fi) many:Int)=((many-popc (X.v fi) many:Nat):Int)):=Lib.hid (by omega)
  have HM:=Lib.hid hm
  have p0:(0:Int)≤(popc (X.v fi) many:Int):=Int.natCast_nonneg _
  have p1:(popc (X.v fi) many:Int)≤(many:Int):=by omega
  have p2:(many:Int)≤4096:=by omega
  have hwr:IntKind.i64.wrap (((many:Nat):Int)-(popc (X.v fi) many:Int))=((many-popc (X.v fi) many:Nat):Int):=by rw [HPE.out];exact IntWalk.i64_in _ (by omega)
  clear h hv512 ha hb hf hfn hm hpc
  go_enter Tryz.func201,Tryz.ntmps201
  go_wp2_with fail
  refine HR.out.mono ?_
  clear HR ca c0
  rintro e w2 ⟨v,rfl,h2⟩
  have H2:=Lib.hid h2
  have HF:=Lib.hid (fun y (hy:Frm NoB w2 y)=>bitsCount_any y v (X.v fi) many ((h2.frm hy).byt (i:=0) rfl).sliceOf (by rw [HV.out];have:=HM.out;omega) (by rw [HV.out];omega))
  have cn:w2.cell? ⟨bn,0,none⟩=some (.int .i64 many):=(h2.arrCell (i:=ib+1) HB.out 0).trans rfl
  have fn:w2.frozen? ⟨bn,0,none⟩=false:=h2.arrFree (i:=ib+1) HB.out 0
  have H3:=Lib.hid ((h2.setArr (ib+1) HB.out 0 (.int .i64 (many-popc (X.v fi) many:Nat))).frm (Frm.refl NoB _).drew)
  clear h2
  go_upto_region 2 with (fail)
  go_region_with (go_at_call 203;refine (HF.out _ (Frm.refl NoB w2).drew).mono ?_;rintro e w' ⟨rfl,rfl⟩)
  all_goals
    have H4:=Lib.hid (H3.out.drop 1)
    clear hwr cn fn
    go_wp2
    go_ret
    exact ⟨rfl,H4.out⟩
set_option maxRecDepth 100000 in
theorem a_free (h:At w0 w X rs) (fi many:Nat) (hf:245≤fi) (hfn:fi<X.n) (hm1:1≤many) (hm:many≤4096):
    Calls Tryz.prog 112 #[.pointer (some ⟨X.ab,0,none⟩),.agg #[.int .i64 fi,.int .i64 many]] w fun e w'=>e= .returned (.int .i64 (many-popc (X.v fi) many:Nat))∧At w0 w' X rs:=by
  have H3:=Lib.hid (((h.newArr #[.pointer (some ⟨X.ab,0,none⟩)] 104 neApt).newArr #[.int .i64 fi,.int .i64 many] 186 neAr).newArr #[.int .i64 many] 3 neI8)
  simp only [size_alloc] at H3
  have hn:=h.ok.maps.2.2.2.2
  clear h
  go_enter Tryz.func112,Tryz.ntmps112
  go_upto_region 2 with (fail)
  obtain ⟨y1,hy1,h1⟩:=H3.out.name
  rw [hy1]
  clear hy1 H3
  have H1:=Lib.hid h1
  generalize w.heap.size=b0 at*
  have c0:y1.cell? ⟨b0+1,0,none⟩=some (.int .i64 fi):=(h1.arrCell (i:=1) rfl 0).trans rfl
  have c1:y1.cell? ⟨b0+1,1,none⟩=some (.int .i64 many):=(h1.arrCell (i:=1) rfl 1).trans rfl
  have HEA:=Lib.hid (a_each y1 fi many hm1 hm (by omega) 201 #[.pointer (some ⟨b0,0,none⟩),.pointer (some ⟨b0+1+1,0,none⟩)] entFree1
    (Post:=fun w'=>At w0 w' X (arr (b0+1+1) #[.int .i64 (many-popc (X.v fi) many:Nat)] 3 neI8::rs))
    ((a_free1 (h1.newArr #[.int .i64 fi,.int .i64 many] 186 neAr) fi many hf hfn hm 3 1 rfl rfl).mono fun e w' ⟨he,h4⟩=>⟨true,he,(h4.arrCell (i:=0) rfl 1).trans rfl,h4.sub (List.Sublist.cons _ (List.Sublist.cons_cons _ (List.Sublist.cons _ (List.Sublist.cons _ (List.Sublist.refl _)))))⟩))
  clear h1
  go_wp2_with fail
  refine HEA.out.mono ?_
  clear HEA c0 c1 H1
  rintro e w5 ⟨rfl,h5⟩
  have cn:w5.cell? ⟨b0+1+1,0,none⟩=some (.int .i64 (many-popc (X.v fi) many:Nat)):=(h5.arrCell (i:=0) rfl 0).trans rfl
  have H6:=Lib.hid (h5.drop 1)
  clear h5
  go_wp2
  go_ret
  exact ⟨rfl,H6.out⟩
def Sys.fb (X:Sys):Nat:=X.P.dc-popc (X.v X.P.bm) X.P.dc
def Sys.fi (X:Sys):Nat:=X.P.ni-popc (X.v X.P.im) X.P.ni
theorem a_Free (h:At w0 w X rs):Calls Tryz.prog 49 #[.pointer (some ⟨X.ab,0,none⟩)] w fun e w'=>e= .returned (.tuple #[.int .i64 X.fb,.int .i64 X.fi])∧At w0 w' X rs:=by
  have ho:=h.ok
  have hm:=ho.maps
  have hb:=ho.pl.dc
  have hi:=ho.pl.ni
  have HB:=Lib.hid (a_blocks h)
  have HFB:=Lib.hid (fun y (hy:Frm NoB w y)=>a_free (h.frm hy) X.P.bm X.P.dc hm.2.2.1 hm.2.2.2.1 hb.1 hb.2)
  have HM:=Lib.hid (And.intro hm hi)
  clear h ho hm hb hi
  go_enter Tryz.func49,Tryz.ntmps49
  go_wp2_with fail
  refine HB.out.mono ?_
  rintro e w2 ⟨rfl,hf⟩
  have H2:=Lib.hid (HFB.out w2 hf)
  clear hf HB HFB
  go_wp2_with fail
  refine H2.out.mono ?_
  rintro e w3 ⟨rfl,h3⟩
  have H3:=Lib.hid h3
  clear h3 H2
  go_wp2_with fail
  refine (a_inodes H3.out).mono ?_
  rintro e w4 ⟨rfl,hf⟩
  have H4:=Lib.hid (a_free (H3.out.frm hf) X.P.im X.P.ni HM.out.1.1 HM.out.1.2.1 HM.out.2.1 HM.out.2.2)
  clear hf H3
  go_wp2_with fail
  refine H4.out.mono ?_
  rintro e w5 ⟨rfl,h5⟩
  have H5:=Lib.hid h5
  clear h5 H4
  go_wp2
  go_ret2
  exact ⟨rfl,H5.out⟩
end
section
open Go.ChangeMaps Go.MapKept Go.RowKit
theorem i_get (w:World) (v:Value) (bs:List UInt8) (p:Nat) (hv:SliceOf w v bs) (hp:p+4≤bs.length) (hl:bs.length≤1000000):
    Calls Tryz.prog 272 #[v,.int .i64 p] w fun e w'=>w=w'∧e= .returned (.int .i64 (getLE bs p 4)):=by
  have HG:=Lib.hid (bitsGet_any w v bs p 4 hv (by omega) (by omega) hp (by omega))
  have hlt:=getLE_lt bs p 4 hp
  have h0:(0:Int)≤(getLE bs p 4:Int):=Int.natCast_nonneg _
  have h1:(getLE bs p 4:Int)<4294967296:=by omega
  generalize getLE bs p 4=g at*
  clear hv hp hlt
  go_enter Tryz.func272,Tryz.ntmps272
  go_wp2_with fail
  refine HG.out.mono ?_
  rintro e w2 ⟨rfl,rfl⟩
  go_wp2
  go_ret
  exact ⟨rfl,rfl⟩
theorem i_put (w:World) (v:Value) (bs:List UInt8) (p n:Nat) (R:Nat→Prop) (hv:BytesAt w v bs R) (hp:p+4≤bs.length) (hl:bs.length≤1000000) (hn:n<4294967296):
    Calls Tryz.prog 248 #[v,.int .i64 p,.int .i64 n] w fun e w'=>Frm NoB w w'∧∃v',e= .returned v'∧BytesAt w' v' (putLE bs p 4 n) (Fresh w):=by
  have HG:=Lib.hid (bitsPut_any w v bs p 4 n R hv (by omega) (by omega) hp (by omega) (by omega))
  have h0:(0:Int)≤(n:Int):=Int.natCast_nonneg _
  have h1:(n:Int)<4294967296:=by omega
  clear hv hp hn
  go_enter Tryz.func248,Tryz.ntmps248
  go_wp2_with fail
  refine HG.out.mono ?_
  rintro e w2 ⟨hf,v',rfl,hb⟩
  have HF:=Lib.hid (And.intro hf hb)
  clear hf hb HG
  go_wp2
  go_ret
  exact ⟨HF.out.1,_,rfl,HF.out.2⟩
end
section
open Go.ChangeMaps Go.MapKept Go.RowKit
variable {w0:Gnd} {w:World} {rs:List Res} {X:Sys}
theorem i_place (h:At w0 w X rs) (i:Nat) (hi:i<X.P.ni):
    Calls Tryz.prog 247 #[.pointer (some ⟨X.sb,0,none⟩),.int .i64 i] w fun e w'=>w=w'∧e= .returned (.tuple #[.int .i64 (X.P.tb+i/8:Nat),.int .i64 (i%8*64:Nat)]):=by
  have c6:=h.stCells.2.2
  have hni:=h.ok.pl.ni
  have htb:=h.ok.pl.tb
  have i0:(0:Int)≤(i:Int):=Int.natCast_nonneg _
  have i1:(i:Int)≤4096:=by omega
  have t0:(0:Int)≤(X.P.tb:Int):=Int.natCast_nonneg _
  have t1:(X.P.tb:Int)≤1000:=by omega
  clear h hni htb hi
  go_enter Tryz.func247,Tryz.ntmps247
  go_wp2
  go_ret2
  exact ⟨rfl,rfl⟩
end
section
open Go.ChangeMaps Go.MapKept Go.RowKit
theorem results_ct {P:Program} {fn:Func} {t u:Tmp} {ty:TypeId} (h:fn.results= #[.cell t ty,.tmp u]) (tmps:Array Value) (w:World) (a:Addr) (ht:tmps.getD t undef= .pointer (some a)) (v:Value) (hl:(loadVar ty a).run P w= .ok v w):
    (results fn tmps).run P w= .ok (.tuple #[v,tmps.getD u undef]) w:=by
  have ht':tmps[t]?.getD undef= .pointer (some a):=by simpa using ht
  simp [results,h,ht',hl,asAddr]
theorem neNd: ¬U8T (270:TypeId):=by decide
theorem zeroNd (W:World):(zeroValue 270).run Tryz.prog W= .ok (.agg (stC 13 fun _=>0)) W:=by kernel_rfl
theorem infoNd (f:Nat→Int):(Tryz.prog.info? 270).map (·.size)=some (stC 13 f).size:=by rw [stC_size];kernel_rfl
def ndAt (b:Blk) (p:Nat):Nat→Nat:=fun j=>getLE b (p+4*j) 4
def Sys.nd (X:Sys) (i:Nat):Nat→Nat:=ndAt (X.v (X.P.tb+i/8)) (i%8*64)
def ndI (f:Nat→Nat):Nat→Int:=fun j=>(f j:Int)
def ndTo (f:Nat→Nat) (k:Nat):Nat→Int:=fun j=>if j<k then (f j:Int) else 0
theorem ndTo_zero (f:Nat→Nat):ndTo f 0=fun _=>0:=funext fun j=>if_neg (by omega)
theorem ndTo_set (f:Nat→Nat) (k:Nat):setF (ndTo f k) k (f k:Int)=ndTo f (k+1):=by
  funext j
  unfold setF ndTo
  by_cases e:j=k
  · subst e;rw [if_pos rfl,if_pos (by omega)]
  · rw [if_neg e]
    by_cases e2:j<k
    · rw [if_pos e2,if_pos (by omega)]
    · rw [if_neg e2,if_neg (by omega)]
theorem ndTo_all (f:Nat→Nat):stC 13 (ndTo f 13)=stC 13 (ndI f):=by
  unfold stC
  exact congrArg List.toArray (List.map_congr_left fun j hj=>congrArg (Value.int .i64) (if_pos (List.mem_range.1 hj)))
theorem SysOk.tab {X:Sys} (h:SysOk X) {i:Nat} (hi:i<X.P.ni):245≤X.P.tb+i/8∧X.P.tb+i/8<X.P.da∧X.P.tb+i/8<X.n:=by
  have:=h.pl.tb;have:=h.pl.da;have:=h.pl.all;have:=h.pn;have:=h.pl.dc
  omega
end
section
open Go.ChangeMaps Go.MapKept Go.RowKit
variable {w0:Gnd} {w:World} {rs:List Res} {X:Sys}
theorem loadNd {ops:Array Oper} {rest:List Oper} {o:Oper} {a:Act} {w:World} {Q:Exit→Act→World→Prop} (hw:Region.wanted o (yielded ops a.tmps)=true) (x:Operand) (ho:o.op= .load 270 x) (g:Nat) (hx:a.eval x= .pointer (some ⟨g,0,none⟩)) (f:Nat→Int)
    (hg:w.heap[g]?=some (.cells (stC 13 f) 270 (0,0))) (h:wpList Tryz.prog ops Q rest (a.put o.dst (.agg (stC 13 f))) w):wpList Tryz.prog ops Q (o::rest) a w:=
  BigFrame.wpList_want hw fun K hK=>wp_load_row _ x ho g hx _ (stC 13 f) _ _ hg Tryz.underlying270 rfl (infoNd f) (hK _ _ h)
theorem storeNd {ops:Array Oper} {rest:List Oper} {o:Oper} {a:Act} {w:World} {Q:Exit→Act→World→Prop} (hgd:o.guard=none) (x y:Operand) (ho:o.op= .store 270 x y) (g:Nat) (f:Nat→Int) (hx:a.eval x= .pointer (some ⟨g,0,none⟩)) (hy:a.eval y= .agg (stC 13 f)) (old:Array Value) (hold:old.size=13)
    (hg:w.heap[g]?=some (.cells old 270 (0,0))) (h:wpList Tryz.prog ops Q rest (a.put o.dst undef) (w.setRow g (stC 13 f))):wpList Tryz.prog ops Q (o::rest) a w:=
  wpList_store_row hgd _ x y ho g (stC 13 f) hx hy _ old hg (infoNd f) (by rw [hold,stC_size]) (stC_one _ _) h
theorem At.setRow (h:At w0 w X rs) (i:Nat) {b:Nat} {c c':Array Value} {t:TypeId} {ht: ¬U8T t} (hr:rs[i]?=some (arr b c t ht)):At w0 (w.setRow b c') X (rs.set i (arr b c' t ht)):=
  ⟨h.1.setRow (i+1) hr c',h.2⟩
set_option maxRecDepth 100000 in
theorem i_load (h:At w0 w X rs) (i:Nat) (hi:i<X.P.ni) (hb:bitAt (X.v X.P.im) i=true):
    Calls Tryz.prog 212 #[.pointer (some ⟨X.sb,0,none⟩),.int .i64 i] w fun e w'=>e= .returned (.tuple #[.agg (stC 13 (ndI (X.nd i))),.int .i64 0])∧At w0 w' X rs:=by
  have ho:=h.ok
  have hq:=ho.tab hi
  have hl:=ho.len _ hq.1 hq.2.2
  have HA:=Lib.hid (h.newArr (stC 13 fun _=>0) 270 neNd)
  have HPL:Hid (∀y rs',At w0 y X rs'→Calls Tryz.prog 247 #[.pointer (some ⟨X.sb,0,none⟩),.int .i64 i] y fun e w'=>y=w'∧e= .returned (.tuple #[.int .i64 (X.P.tb+i/8:Nat),.int .i64 (i%8*64:Nat)])):=Lib.hid fun y rs' hy=>i_place hy i hi
  have HIN:Hid (∀y rs',At w0 y X rs'→Calls Tryz.prog 271 #[.pointer (some ⟨X.ab,0,none⟩),.int .i64 i] y fun e w'=>e= .returned (.bool true)∧At w0 w' X rs'):=Lib.hid fun y rs' hy=>a_Inode hy i hi hb
  have HRD:Hid (∀y rs',At w0 y X rs'→Calls Tryz.prog 202 #[.pointer (some ⟨X.cb,0,none⟩),.int .i64 (X.P.tb+i/8:Nat)] y fun e w'=> ∃v,e= .returned (.tuple #[v,.int .i64 0])∧At w0 w' X (byt v (X.v (X.P.tb+i/8))::rs')):=Lib.hid fun y rs' hy=>x_Read hy _ hq.1 hq.2.2
  have HL:=Lib.hid hl
  have EN:Hid (X.nd i=ndAt (X.v (X.P.tb+i/8)) (i%8*64)):=Lib.hid rfl
  have hp:i%8*64≤448:=by omega
  rw [EN.out]
  generalize X.P.tb+i/8=q at*
  generalize i%8*64=p at*
  generalize hbb:X.v q=bb at*
  have KS:Hid (∀y rs',At w0 y X rs'→y.cell? ⟨X.sb,0,none⟩=some (.pointer (some ⟨X.cb,0,none⟩))∧y.cell? ⟨X.sb,1,none⟩=some (.pointer (some ⟨X.ab,0,none⟩))):=Lib.hid fun y rs' hy=>⟨hy.stCells.1,hy.stCells.2.1⟩
  have p0:(0:Int)≤(p:Int):=Int.natCast_nonneg _
  have p1:(p:Int)≤448:=by omega
  clear h ho hq hl hi hb hbb
  go_enter Tryz.func212,Tryz.ntmps212
  go_upto_region 1 with (refine allocRow rfl _ _ zeroNd rfl ?_)
  obtain ⟨y1,hy1,h1⟩:=HA.out.name
  rw [hy1]
  clear hy1 HA
  have H1:=Lib.hid h1
  generalize w.heap.size=nb at*
  obtain ⟨c0,c1⟩:=KS.out _ _ h1
  clear h1
  go_wp2_with fail
  refine (HIN.out _ _ H1.out).mono ?_
  rintro e w2 ⟨rfl,h2⟩
  have H2:=Lib.hid h2
  clear h2 H1 c0 c1
  go_wp2_with fail
  refine (HPL.out _ _ H2.out).mono ?_
  rintro e w3 ⟨rfl,rfl⟩
  obtain ⟨c0,c1⟩:=KS.out _ _ H2.out
  go_wp2_with fail
  refine (HRD.out _ _ H2.out).mono ?_
  rintro e w3 ⟨v,rfl,h3⟩
  have H3:=Lib.hid h3
  clear h3 H2 c0 c1
  have HG:Hid (∀y rs' j (z:Int),At w0 y X (byt v bb::rs')→j<13→z=((p+4*j:Nat):Int)→Calls Tryz.prog 272 #[v,.int .i64 z] y fun e w'=>y=w'∧e= .returned (.int .i64 (ndAt bb p j))):=Lib.hid fun y rs' j z hy hj hz=>by
    rw [hz];exact i_get y v bb (p+4*j) (hy.byt (i:=0) rfl).sliceOf (by rw [HL.out];omega) (by rw [HL.out];omega)
  go_wp2_with fail
  refine (HG.out _ _ 0 _ H3.out (by omega) (by omega)).mono ?_
  rintro e w4 ⟨rfl,rfl⟩
  go_wp2_with fail
  refine (HG.out _ _ 1 _ H3.out (by omega) (by omega)).mono ?_
  rintro e w4 ⟨rfl,rfl⟩
  have h3:=H3.out
  rw [←ndTo_zero (ndAt bb p)] at h3
  have h4:=h3.setArr 1 rfl 0 (.int .i64 (ndAt bb p 0))
  rw [stC_setF _ _ _ _ (by omega),ndTo_set] at h4
  have h5:=h4.setArr 1 rfl 1 (.int .i64 (ndAt bb p 1))
  rw [stC_setF _ _ _ _ (by omega),ndTo_set] at h5
  have d0:w3.cell? ⟨nb,0,none⟩=some (.int .i64 0):=(h3.arrCell (i:=1) rfl 0).trans (stC_get _ _ _ (by omega))
  have f0:w3.frozen? ⟨nb,0,none⟩=false:=h3.arrFree (i:=1) rfl 0
  have d1: ∃u,(w3.setCell ⟨nb,0,none⟩ (.int .i64 (ndAt bb p 0))).cell? ⟨nb,1,none⟩=some u:=⟨_,(h4.arrCell (i:=1) rfl 1).trans (stC_get _ _ _ (by omega))⟩
  have f1:(w3.setCell ⟨nb,0,none⟩ (.int .i64 (ndAt bb p 0))).frozen? ⟨nb,1,none⟩=false:=h4.arrFree (i:=1) rfl 1
  obtain ⟨u1,d1⟩:=d1
  generalize ndAt bb p 0=z0 at*
  generalize ndAt bb p 1=z1 at*
  go_upto_region 10 with (fail)
  obtain ⟨y5,hy5,h5'⟩:=h5.name
  rw [hy5]
  have H5:Hid (At w0 y5 X (byt v bb::arr nb (stC 13 (ndTo (ndAt bb p) 2)) 270 neNd::rs)):=Lib.hid h5'
  clear hy5 h5 h5' h4 h3 d0 f0 d1 f1 u1 H3
  go_wp2_with fail
  go_loopw [9,56] (fun _ t wr=> ∃k:Nat,k≤11∧t= .int .i64 k∧At w0 wr X (byt v bb::arr nb (stC 13 (ndTo (ndAt bb p) (2+k))) 270 neNd::rs)) (fun _ t _=>11-(intOf t).toNat)
  case atStart=>exact ⟨0,Nat.zero_le _,rfl,H5.out⟩
  case round=>
    clear H5
    obtain ⟨k,hk,rfl,hst⟩:=hrel
    have HST:=Lib.hid hst
    clear hst
    have k0:(0:Int)≤(k:Int):=Int.natCast_nonneg _
    by_cases hlt:k<11
    · have k1:(k:Int)<11:=by omega
      have h6:=HST.out.setArr 1 rfl (2+k) (.int .i64 (ndAt bb p (2+k)))
      rw [stC_setF _ _ _ _ (by omega),ndTo_set] at h6
      have H6:Hid (At w0 (wr.setCell ⟨nb,2+k,none⟩ (.int .i64 (ndAt bb p (2+k)))) X (byt v bb::arr nb (stC 13 (ndTo (ndAt bb p) (2+(k+1)))) 270 neNd::rs)):=Lib.hid h6
      have d0: ∃u,wr.cell? ⟨nb,2+k,none⟩=some u:=⟨_,(HST.out.arrCell (i:=1) rfl (2+k)).trans (stC_get _ _ _ (by omega))⟩
      obtain ⟨u0,d0⟩:=d0
      have f0:wr.frozen? ⟨nb,2+k,none⟩=false:=HST.out.arrFree (i:=1) rfl (2+k)
      clear h6
      go_wp2_with fail
      refine (HG.out _ _ (2+k) _ HST.out (by omega) (by omega)).mono ?_
      rintro e w4 ⟨rfl,rfl⟩
      generalize ndAt bb p (2+k)=zk at*
      have HLT:=Lib.hid hlt
      go_wp2
      first | exact ⟨⟨k+1,HLT.out,by go_num,H6.out⟩,by have:=HLT.out;simp [intOf];omega⟩ | (go_roundw;case rel=>first | exact ⟨k+1,HLT.out,by go_num,H6.out⟩ | ((repeat apply Exists.intro);exact ⟨⟨k+1,HLT.out,by go_num,H6.out⟩,rfl⟩);case measure=>have:=HLT.out;simp [intOf];omega)
    · have k1: ¬(k:Int)<11:=by omega
      obtain rfl:k=11:=by omega
      have h7:=HST.out
      rw [ndTo_all] at h7
      have HB:=Lib.hid (show wr.heap[nb]?=some (.cells (stC 13 (ndI (ndAt bb p))) 270 (0,0)) from h7.1.get (i:=2) rfl)
      have H8:=Lib.hid (h7.setRow 1 (c':=stC 13 (ndI (ndAt bb p))) rfl)
      have HB8:=Lib.hid (show (wr.setRow nb (stC 13 (ndI (ndAt bb p)))).heap[nb]?=some (.cells (stC 13 (ndI (ndAt bb p))) 270 (0,0)) from H8.out.1.get (i:=2) rfl)
      clear h7 HST
      go_wp2_with (first | (refine loadNd rfl _ rfl nb rfl _ HB.out ?_) | (refine storeNd rfl _ _ rfl nb _ rfl rfl _ (stC_size _ _) HB.out ?_))
      have hld:=run_loadVar_row (P:=Tryz.prog) (wr.setRow nb (stC 13 (ndI (ndAt bb p)))) nb 270 270 (stC 13 (ndI (ndAt bb p))) (0,0) _ HB8.out Tryz.underlying270 rfl (infoNd _)
      exact bodyPost_ret (v:= .tuple #[.agg (stC 13 (ndI (ndAt bb p))),.int .i64 0]) (results_ct Tryz.results212 _ _ ⟨nb,0,none⟩ rfl _ hld) rfl ⟨rfl,H8.out.drop 2⟩
end
section
open Go.ChangeMaps Go.MapKept Go.RowKit
def putNd (b:Blk) (p:Nat) (f:Nat→Nat):Nat→Blk
  | 0=>b
  | k+1=>putLE (putNd b p f k) (p+4*k) 4 (f k)
theorem putNd_length (b:Blk) (p:Nat) (f:Nat→Nat): ∀k,p+4*k≤b.length→(putNd b p f k).length=b.length
  | 0,_=>rfl
  | k+1,h=>by
    unfold putNd
    have:=putNd_length b p f k (by omega)
    rw [putLE_length _ _ _ _ (by rw [this];omega),this]
theorem putNd_same (b:Blk) (p:Nat) (f:Nat→Nat): ∀k,p+4*k≤b.length→(∀j,j<k→f j<4294967296)→∀j,j<k→getLE (putNd b p f k) (p+4*j) 4=f j
  | 0,_,_,j,h=>by omega
  | k+1,h,hf,j,hj=>by
    unfold putNd
    have hl:=putNd_length b p f k (by omega)
    by_cases e:j=k
    · subst e
      exact getLE_putLE_same _ _ _ _ (by rw [hl];omega) (hf j (by omega))
    · rw [getLE_putLE_other _ _ _ _ _ _ (by rw [hl];omega) (by omega)]
      exact putNd_same b p f k (by omega) (fun j hj=>hf j (by omega)) j (by omega)
theorem putNd_other (b:Blk) (p:Nat) (f:Nat→Nat) (q m:Nat): ∀k,p+4*k≤b.length→(q+m≤p∨p+4*k≤q)→getLE (putNd b p f k) q m=getLE b q m
  | 0,_,_=>rfl
  | k+1,h,hd=>by
    unfold putNd
    have hl:=putNd_length b p f k (by omega)
    rw [getLE_putLE_other _ _ _ _ _ _ (by rw [hl];omega) (by omega)]
    exact putNd_other b p f q m k (by omega) (by omega)
def ndBl (f:Nat→Nat):List Value:=(List.range 11).map fun k=>Value.int .i64 (f (2+k):Int)
theorem ndBl_len (f:Nat→Nat):(ndBl f).length=11:=by simp [ndBl]
theorem ndBl_get (f:Nat→Nat) (k:Nat) (h:k<11):(ndBl f)[k]?=some (.int .i64 (f (2+k):Int)):=by simp [ndBl,h]
theorem run_indexNd (f:Nat→Nat) (k:Nat) (h:k<11) (W:World):(Instr.index 268 (.agg (ndBl f).toArray) (.int .i64 (k:Int))).run Tryz.prog W= .ok (.int .i64 (f (2+k):Int)) W:=by
  have hk:(0:Int)≤(k:Int)∧(k:Int)<((11:Nat):Int):=by omega
  have hsz:(sizeOf 3).run Tryz.prog W= .ok 1 W:=by kernel_rfl
  simp [Instr.index,run_underlying Tryz.underlying268,asIntOf,hk,hsz,go_sem]
  rw [if_pos h,ndBl_get f k h]
  rfl
end
section
open Go.ChangeMaps Go.MapKept Go.RowKit
variable {w0:Gnd} {w:World} {rs:List Res} {X:Sys}
theorem At.rangeNd (h:At w0 w X rs) {i nb:Nat} {f:Nat→Nat} (hr:rs[i]?=some (arr nb (stC 13 (ndI f)) 270 neNd)):w.rangeAt nb 2 (ndBl f):=by
  intro j u hu
  have hj:=(List.getElem?_eq_some_iff.1 hu).1
  rw [ndBl_len] at hj
  rw [ndBl_get f j hj] at hu
  rw [←hu]
  exact (h.arrCell hr (2+j)).trans (stC_get _ _ _ (by omega))
set_option maxRecDepth 100000 in
theorem i_save (h:At w0 w X rs) (hop:X.op=true) (i:Nat) (hi:i<X.P.ni) (f:Nat→Nat) (hf: ∀j,j<13→f j<4294967296) (hr:((X.P.tb+i/8:Nat):Int)∈X.keys∨X.l.length<60):
    Calls Tryz.prog 184 #[.pointer (some ⟨X.sb,0,none⟩),.int .i64 i,.agg (stC 13 (ndI f))] w fun e w'=>e= .returned (.int .i64 0)∧At w0 w' (X.put (X.P.tb+i/8) (putNd (X.v (X.P.tb+i/8)) (i%8*64) f 13)) rs:=by
  have ho:=h.ok
  have hq:=ho.tab hi
  have hl:=ho.len _ hq.1 hq.2.2
  have HA:=Lib.hid (h.newArr (stC 13 (ndI f)) 270 neNd)
  have HPL:Hid (∀y rs',At w0 y X rs'→Calls Tryz.prog 247 #[.pointer (some ⟨X.sb,0,none⟩),.int .i64 i] y fun e w'=>y=w'∧e= .returned (.tuple #[.int .i64 (X.P.tb+i/8:Nat),.int .i64 (i%8*64:Nat)])):=Lib.hid fun y rs' hy=>i_place hy i hi
  have HRD:Hid (∀y rs',At w0 y X rs'→Calls Tryz.prog 202 #[.pointer (some ⟨X.cb,0,none⟩),.int .i64 (X.P.tb+i/8:Nat)] y fun e w'=> ∃v,e= .returned (.tuple #[v,.int .i64 0])∧At w0 w' X (byt v (X.v (X.P.tb+i/8))::rs')):=Lib.hid fun y rs' hy=>x_Read hy _ hq.1 hq.2.2
  have HL:=Lib.hid hl
  have hp:i%8*64≤448:=by omega
  have HQ:=Lib.hid (And.intro hq.1 hq.2.2)
  generalize X.P.tb+i/8=q at*
  generalize i%8*64=p at*
  obtain ⟨bb,hbb⟩: ∃bb,X.v q=bb:=⟨_,rfl⟩
  rw [hbb] at HRD HL ⊢
  have HF:=Lib.hid hf
  have HRM:=Lib.hid hr
  have KS:Hid (∀y rs',At w0 y X rs'→y.cell? ⟨X.sb,0,none⟩=some (.pointer (some ⟨X.cb,0,none⟩))):=Lib.hid fun y rs' hy=>hy.stCells.1
  have HP:Hid (∀y rs' (v:Value) (j n:Nat) (b:Blk) (z:Int),At w0 y X (byt v b::rs')→b.length=512→j<13→z=((p+4*j:Nat):Int)→n<4294967296→Calls Tryz.prog 248 #[v,.int .i64 z,.int .i64 n] y fun e w'=> ∃v',e= .returned v'∧At w0 w' X (byt v' (putLE b (p+4*j) 4 n)::byt v b::rs')):=Lib.hid fun y rs' v j n b z hy hb hj hz hn=>by
    rw [hz]
    exact (i_put y v b (p+4*j) n _ (hy.byt (i:=0) rfl) (by rw [hb];omega) (by rw [hb];omega) hn).mono fun _ _ ⟨hf,v',he,hb'⟩=>⟨v',he,hy.mkByt hf hb'⟩
  have HLN:Hid (∀k,k≤13→(putNd bb p f k).length=512):=Lib.hid fun k hk=>(putNd_length bb p f k (by rw [HL.out];omega)).trans HL.out
  have p0:(0:Int)≤(p:Int):=Int.natCast_nonneg _
  have p1:(p:Int)≤448:=by omega
  clear h ho hq hl hi hbb hf hr
  go_enter Tryz.func184,Tryz.ntmps184
  go_upto_region 1 with (fail)
  obtain ⟨y1,hy1,h1⟩:=HA.out.name
  rw [hy1]
  clear hy1 HA
  have H1:=Lib.hid h1
  generalize w.heap.size=nb at*
  clear h1
  go_wp2_with fail
  refine (HPL.out _ _ H1.out).mono ?_
  rintro e w3 ⟨rfl,rfl⟩
  have c0:=KS.out _ _ H1.out
  go_wp2_with fail
  refine (HRD.out _ _ H1.out).mono ?_
  rintro e w3 ⟨v,rfl,h3⟩
  have H3:=Lib.hid h3
  clear h3 H1 c0 HPL HRD
  have d0:w3.cell? ⟨nb,0,none⟩=some (.int .i64 (f 0)):=(H3.out.arrCell (i:=1) rfl 0).trans (stC_get _ _ _ (by omega))
  have d1:w3.cell? ⟨nb,1,none⟩=some (.int .i64 (f 1)):=(H3.out.arrCell (i:=1) rfl 1).trans (stC_get _ _ _ (by omega))
  have KN:Hid (∀y rs' j,At w0 y X rs'→rs'[j]?=some (arr nb (stC 13 (ndI f)) 270 neNd)→y.cell? ⟨nb,0,none⟩=some (.int .i64 (f 0))∧y.cell? ⟨nb,1,none⟩=some (.int .i64 (f 1))):=Lib.hid fun y rs' j hy hj=>⟨(hy.arrCell hj 0).trans (stC_get _ _ _ (by omega)),(hy.arrCell hj 1).trans (stC_get _ _ _ (by omega))⟩
  have HLN1:Hid ((putLE bb (p+4*0) 4 (f 0)).length=512):=HLN.out 1 (by omega) |> Lib.hid
  have HF0:=Lib.hid (HF.out 0 (by omega))
  have HF1:=Lib.hid (HF.out 1 (by omega))
  have e0:(p:Int)=((p+4*0:Nat):Int):=by omega
  have e1:(p:Int)+4=((p+4*1:Nat):Int):=by omega
  have HE:=Lib.hid (And.intro e0 e1)
  clear e0 e1
  have hwr:IntKind.i64.wrap ((p:Int)+4)=(p:Int)+4:=IntWalk.i64_in _ (by omega)
  go_upto_region 5 with (fail)
  go_region_held3 (fun y=>y.cell? ⟨nb,0,none⟩=some (.int .i64 (f 0))∧y.cell? ⟨nb,1,none⟩=some (.int .i64 (f 1)))
    (first | exact KN.out _ _ 3 h6 rfl | exact KN.out _ _ 2 h5 rfl | exact KN.out _ _ 1 (H3.out.frm (Frm.refl NoB w3).drew) rfl)
    (first
      | (go_at_call 248;(with_reducible refine (HP.out _ _ v5 1 (f 1) _ _ h5 HLN1.out (by decide) HE.out.2 HF1.out).mono ?_);rintro e w6 ⟨v6,rfl,h6⟩)
      | (go_at_call 248;(with_reducible refine (HP.out _ _ v 0 (f 0) _ _ (H3.out.frm (Frm.refl NoB w3).drew) HL.out (by decide) HE.out.1 HF0.out).mono ?_);rintro e w5 ⟨v5,rfl,h5⟩))
  have H6:Hid (At w0 w6 X (byt v6 (putNd bb p f 2)::arr nb (stC 13 (ndI f)) 270 neNd::rs)):=Lib.hid (h6.sub (List.Sublist.cons_cons _ (List.Sublist.cons _ (List.Sublist.cons _ (List.Sublist.refl _)))))
  have HRG:=Lib.hid (h6.rangeNd (i:=3) rfl)
  clear h5 h6 d0 d1 hwr KN H3
  have HI:Hid ((Tryz.prog.info? 268).map (·.size)=some (ndBl f).length):=Lib.hid (by rw [ndBl_len];kernel_rfl)
  go_wp2_with (refine wpList_load_mid rfl _ _ rfl nb 2 rfl (ndBl f) _ HRG.out Tryz.underlying268 rfl HI.out ?_)
  clear HRG HI
  go_loopw [9,11,12,43] (fun t9 _ _ t wr=> ∃(k:Nat) (vk:Value),k≤11∧t= .int .i64 k∧vk=t9∧At w0 wr X (byt vk (putNd bb p f (2+k))::arr nb (stC 13 (ndI f)) 270 neNd::rs)) (fun _ _ _ t _=>11-(intOf t).toNat)
  case atStart=>exact ⟨0,_,Nat.zero_le _,rfl,rfl,H6.out⟩
  case round=>
    clear H6
    obtain ⟨k,vk,hk,rfl,rfl,hst⟩:=hrel
    have HST:=Lib.hid hst
    clear hst
    have k0:(0:Int)≤(k:Int):=Int.natCast_nonneg _
    by_cases hlt:k<11
    · have k1:(k:Int)<11:=by omega
      have hix:=run_indexNd f k hlt
      have HPP:=Lib.hid (HP.out _ _ vk (2+k) (f (2+k)) _ ((p:Int)+8+4*(k:Int)) HST.out (HLN.out (2+k) (by omega)) (by omega) (by omega) (HF.out (2+k) (by omega)))
      have HLT:=Lib.hid hlt
      obtain ⟨fk,hfk⟩: ∃fk,f (2+k)=fk:=⟨_,rfl⟩
      rw [hfk] at hix HPP
      have HFK:=Lib.hid hfk
      clear hfk
      clear hlt
      go_wp2_with fail
      refine HPP.out.mono ?_
      clear HPP
      rintro e w4 ⟨v4,rfl,h4⟩
      have H4:Hid (At w0 w4 X (byt v4 (putNd bb p f (2+(k+1)))::arr nb (stC 13 (ndI f)) 270 neNd::rs)):=Lib.hid (by
        have:=h4.sub (rs':=byt v4 (putLE (putNd bb p f (2+k)) (p+4*(2+k)) 4 fk)::arr nb (stC 13 (ndI f)) 270 neNd::rs) (List.Sublist.cons_cons _ (List.Sublist.cons _ (List.Sublist.refl _)))
        rw [←HFK.out] at this
        exact this)
      clear h4 hix HST
      go_wp2
      first | exact ⟨⟨k+1,_,HLT.out,by go_num,rfl,H4.out⟩,by have:=HLT.out;simp [intOf];omega⟩ | (go_roundw;case rel=>first | exact ⟨k+1,_,HLT.out,by go_num,rfl,H4.out⟩ | ((repeat apply Exists.intro);exact ⟨⟨k+1,_,HLT.out,by go_num,rfl,H4.out⟩,rfl⟩);case measure=>have:=HLT.out;simp [intOf];omega)
    · have k1: ¬(k:Int)<11:=by omega
      obtain rfl:k=11:=by omega
      have c0:=KS.out _ _ HST.out
      have HW:=Lib.hid (x_Write HST.out hop q 0 HQ.out.1 HQ.out.2 rfl (HLN.out 13 (by omega)) HRM.out)
      go_wp2_with fail
      refine HW.out.mono ?_
      rintro e w4 ⟨rfl,h4⟩
      have H4:=Lib.hid (h4.drop 2)
      clear h4 HW HST c0
      go_wp2
      go_ret
      exact ⟨rfl,H4.out⟩
end
section
open Go.ChangeMaps Go.MapKept Go.RowKit
structure Wr (X Y:Sys) (T:Nat→Prop):Prop where
  eq:Y=X.wr Y.l
  keys: ∀k∈Y.keys,k∈X.keys∨∃t:Nat,T t∧(t:Int)=k
  v: ∀j,¬T j→Y.v j=X.v j
theorem Wr.refl (X:Sys) (T:Nat→Prop):Wr X X T:=⟨rfl,fun _ h=> .inl h,fun _ _=>rfl⟩
theorem Wr.trans {X Y Z:Sys} {T:Nat→Prop} (h:Wr X Y T) (g:Wr Y Z T):Wr X Z T:=
  ⟨by rw [g.eq,h.eq];rfl,fun k hk=>(g.keys k hk).elim (h.keys k) .inr,fun j hj=>(g.v j hj).trans (h.v j hj)⟩
theorem Wr.mono {X Y:Sys} {T U:Nat→Prop} (h:Wr X Y T) (hU: ∀t,T t→U t):Wr X Y U:=
  ⟨h.eq,fun k hk=>(h.keys k hk).imp id fun ⟨t,ht,e⟩=>⟨t,hU t ht,e⟩,fun j hj=>h.v j fun ht=>hj (hU j ht)⟩
theorem Wr.put (X:Sys) (k:Nat) (b:Blk):Wr X (X.put k b) (· =k):=
  ⟨rfl,fun j hj=>((X.put_keys k b j).1 hj).imp id fun e=>⟨k,rfl,e.symm⟩,fun j hj=>by rw [X.put_v,if_neg hj]⟩
theorem Wr.P {X Y:Sys} {T:Nat→Prop} (h:Wr X Y T):Y.P=X.P:=by rw [h.eq];rfl
theorem Wr.n {X Y:Sys} {T:Nat→Prop} (h:Wr X Y T):Y.n=X.n:=by rw [h.eq];rfl
theorem Wr.op {X Y:Sys} {T:Nat→Prop} (h:Wr X Y T):Y.op=X.op:=by rw [h.eq];rfl
theorem Wr.cb {X Y:Sys} {T:Nat→Prop} (h:Wr X Y T):Y.cb=X.cb:=by rw [h.eq];rfl
theorem Wr.ab {X Y:Sys} {T:Nat→Prop} (h:Wr X Y T):Y.ab=X.ab:=by rw [h.eq];rfl
theorem Wr.sb {X Y:Sys} {T:Nat→Prop} (h:Wr X Y T):Y.sb=X.sb:=by rw [h.eq];rfl
def Cov (X:Sys) (C:List Nat):Prop:= ∀k∈X.keys,∃c∈C,(c:Int)=k
theorem Cov.wr {X Y:Sys} {T:Nat→Prop} {C:List Nat} (h:Cov X C) (g:Wr X Y T) (hT: ∀t,T t→t∈C):Cov Y C:=fun k hk=>by
  rcases g.keys k hk with h1 | ⟨t,ht,e⟩
  · exact h k h1
  · exact ⟨t,hT t ht,e⟩
theorem Cov.mono {X:Sys} {C C':List Nat} (h:Cov X C) (hC: ∀c∈C,c∈C'):Cov X C':=fun k hk=>by
  obtain ⟨c,hc,e⟩:=h k hk
  exact ⟨c,hC c hc,e⟩
theorem nodup_le {α:Type}: ∀(l m:List α),l.Nodup→(∀x∈l,x∈m)→l.length≤m.length
  | [],m,_,_=>Nat.zero_le _
  | a::l,m,h,hm=>by
    obtain ⟨h1,h2⟩:=List.nodup_cons.1 h
    obtain ⟨s,t,e⟩:=List.append_of_mem (hm a (List.mem_cons_self ..))
    subst e
    have:=nodup_le l (s++t) h2 fun x hx=>by
      have:=hm x (List.mem_cons_of_mem _ hx)
      rw [List.mem_append,List.mem_cons] at this
      rw [List.mem_append]
      rcases this with h | h | h
      · exact .inl h
      · subst h;exact absurd hx h1
      · exact .inr h
    simp only [List.length_append,List.length_cons] at this ⊢
    omega
theorem Cov.room {X:Sys} {C:List Nat} (h:Cov X C) (ho:SysOk X) {k:Nat} (hk:k∈C) (h60:C.length≤60):(k:Int)∈X.keys∨X.l.length<60:=by
  by_cases hm:(k:Int)∈X.keys
  · exact .inl hm
  · right
    have hn:((k:Int)::X.keys).Nodup:=List.nodup_cons.2 ⟨hm,ho.cok.nodup⟩
    have:=nodup_le ((k:Int)::X.keys) (C.map fun c:Nat=>(c:Int)) hn fun x hx=>by
      rcases List.mem_cons.1 hx with rfl | hx
      · exact List.mem_map.2 ⟨k,hk,rfl⟩
      · obtain ⟨c,hc,e⟩:=h x hx
        exact List.mem_map.2 ⟨c,hc,e⟩
    rw [List.length_cons,List.length_map] at this
    have e:X.keys.length=X.l.length:=List.length_map ..
    omega
end
section
open Go.ChangeMaps Go.MapKept Go.RowKit
variable {w0:Gnd} {w:World} {rs:List Res} {X:Sys}
set_option maxRecDepth 100000 in
theorem i_block (h:At w0 w X rs) (f:Nat→Nat) (k:Nat) (hk:k<10):
    Calls Tryz.prog 213 #[.pointer (some ⟨X.sb,0,none⟩),.agg (stC 13 (ndI f)),.int .i64 k] w fun e w'=>e= .returned (.tuple #[.int .i64 (f (2+k)),.int .i64 0])∧At w0 w' X rs:=by
  have HA:=Lib.hid (h.newArr (stC 13 (ndI f)) 270 neNd)
  have k0:(0:Int)≤(k:Int):=Int.natCast_nonneg _
  have k1:(k:Int)<10:=by omega
  have k2:(k:Int)<11:=by omega
  clear h
  go_enter Tryz.func213,Tryz.ntmps213
  go_upto_region 1 with (fail)
  obtain ⟨y1,hy1,h1⟩:=HA.out.name
  rw [hy1]
  clear hy1 HA
  have H1:=Lib.hid (h1.drop 1)
  generalize w.heap.size=nb at*
  have d0:y1.cell? ⟨nb,2+k,none⟩=some (.int .i64 (f (2+k))):=(h1.arrCell (i:=0) rfl (2+k)).trans (stC_get _ _ _ (by omega))
  obtain ⟨z,hz⟩: ∃z,f (2+k)=z:=⟨_,rfl⟩
  rw [hz] at d0
  have HZ:=Lib.hid hz
  clear h1 hk hz
  go_wp2
  go_ret2
  exact ⟨by rw [HZ.out];rfl,H1.out⟩
def Sys.fresh (X:Sys) (k:Nat):Sys:=(X.put X.P.bm (setBit (X.v X.P.bm) k true)).put (X.P.da+k) zeros
theorem SysOk.data {X:Sys} (h:SysOk X) {k:Nat} (hk:k<X.P.dc):245≤X.P.da+k∧X.P.da+k<X.n∧X.P.da+k≠X.P.bm∧X.P.da+k≠X.P.im:=by
  have:=h.pl.im;have:=h.pl.bm;have:=h.pl.tb;have:=h.pl.da;have:=h.pl.all;have:=h.pn
  omega
theorem Wr.fresh (X:Sys) (k:Nat):Wr X (X.fresh k) fun t=>t=X.P.bm∨t=X.P.da+k:=
  ((Wr.put X X.P.bm _).mono fun _ h=> .inl h).trans ((Wr.put _ _ _).mono fun _ h=> .inr h)
set_option maxRecDepth 100000 in
theorem i_fresh (h:At w0 w X rs) (hop:X.op=true) {k:Nat} (hk:firstZ (X.v X.P.bm) X.P.dc=some k) {C:List Nat} (hC:Cov X C) (hb:X.P.bm∈C) (h60:C.length<60):
    Calls Tryz.prog 347 #[.pointer (some ⟨X.sb,0,none⟩)] w fun e w'=>e= .returned (.tuple #[.int .i64 (X.P.da+k:Nat),.int .i64 0])∧At w0 w' (X.fresh k) rs:=by
  have ho:=h.ok
  have hkd:=ho.data (firstZ_some hk).1
  have HT:=Lib.hid (a_TakeBlock h hop hk (hC.room ho hb (by omega)))
  have c1:=h.stCells.2.1
  have HC2:Hid (Cov (X.put X.P.bm (setBit (X.v X.P.bm) k true)) ((X.P.da+k)::C)):=Lib.hid ((hC.wr (Wr.put _ _ _) (fun t e=>e▸hb)).mono fun c hc=>List.mem_cons_of_mem _ hc)
  have HLE:Hid (((X.P.da+k)::C).length≤60):=Lib.hid (by simp;omega)
  have HKD:=Lib.hid hkd
  have hmk:=run_make512
  clear h ho hk hC hb h60 hkd
  obtain ⟨q,hq⟩: ∃q,X.P.da+k=q:=⟨_,rfl⟩
  have EX:Hid (X.fresh k=(X.put X.P.bm (setBit (X.v X.P.bm) k true)).put q zeros):=Lib.hid (by unfold Sys.fresh;rw [hq])
  rw [hq] at HT HC2 HLE HKD ⊢
  have HY:Hid ((X.put X.P.bm (setBit (X.v X.P.bm) k true)).sb=X.sb∧(X.put X.P.bm (setBit (X.v X.P.bm) k true)).cb=X.cb∧(X.put X.P.bm (setBit (X.v X.P.bm) k true)).op=true∧(X.put X.P.bm (setBit (X.v X.P.bm) k true)).n=X.n):=Lib.hid ⟨rfl,rfl,hop,rfl⟩
  rw [EX.out]
  generalize X.put X.P.bm (setBit (X.v X.P.bm) k true)=Y at*
  go_enter Tryz.func347,Tryz.ntmps347
  go_wp2_with fail
  refine HT.out.mono ?_
  clear HT c1
  rintro e w2 ⟨rfl,h2⟩
  have KS:Hid (∀y rs' Z,At w0 y Z rs'→Z.sb=X.sb→Z.cb=X.cb→y.cell? ⟨X.sb,0,none⟩=some (.pointer (some ⟨X.cb,0,none⟩))):=Lib.hid fun y rs' Z hy e1 e2=>by have:=hy.stCells.1;rw [e1,e2] at this;exact this
  have H2:=Lib.hid h2
  have H3:Hid (At w0 (w2.alloc (.cells zc 5 (0,0))).drew Y (byt (.slice (some ⟨w2.heap.size,0,none⟩) 512 512) zeros::rs)):=Lib.hid (At.frm (show At w0 _ Y _ from ⟨(S_Zero h2.1).swap,h2.2⟩) (Frm.refl NoB _).drew)
  have HRM:=Lib.hid (HC2.out.room h2.2 (List.mem_cons_self ..) HLE.out)
  have c0:=KS.out _ _ _ h2 HY.out.1 HY.out.2.1
  have HKN:Hid (q<Y.n):=Lib.hid (by rw [HY.out.2.2.2];exact HKD.out.2.1)
  have HWR:=Lib.hid (x_Write H3.out HY.out.2.2.1 q 0 HKD.out.1 HKN.out rfl zeros_length HRM.out)
  rw [HY.out.2.1] at HWR
  clear h2
  go_upto_region 4 with (fail)
  go_region_held3 (fun y=>y.cell? ⟨X.sb,0,none⟩=some (.pointer (some ⟨X.cb,0,none⟩)))
    (first | exact KS.out _ _ _ h7 HY.out.1 HY.out.2.1 | exact KS.out _ _ _ H3.out HY.out.1 HY.out.2.1 | exact KS.out _ _ _ (H2.out.frm (Frm.refl NoB w2).drew) HY.out.1 HY.out.2.1)
    (first
      | (go_at_call 92;(with_reducible refine (HWR.out).mono ?_);rintro e w6 ⟨rfl,h7⟩))
  have H7:=Lib.hid (h7.drop 1)
  clear h7 c0 hmk KS
  go_wp2
  go_ret2
  exact ⟨rfl,H7.out⟩
end
section
open Go.ChangeMaps Go.MapKept Go.RowKit
variable {w0:Gnd} {w:World} {rs:List Res}
set_option maxRecDepth 100000 in
theorem S_cReadF {cb wb:Nat} {op ov:Bool} {l:WrL} {H:Hdl} {jh:JHdl} {J:JSt} (h:St w0 w (cst cb jh.jb op ov wb::wrt wb l::jrn H jh J::rs)) (a:Nat) {D:DSt} (hr:rs[a]?=some (dev H D)) (hJ:JOk D.n J) (ho:D.ops<1000000000) (k:Int) (hk0:245≤k) (hk1:k<(D.n:Int)) (hn:D.n≤65536) (h512: ∀p∈l,p.2.length=512):
    Calls Tryz.prog 202 #[.pointer (some ⟨cb,0,none⟩),.int .i64 k] w fun e w'=> ∃v,e= .returned (.tuple #[v,.int .i64 0])∧Frm NoB w w'∧BytesAt w' v (cview l (jview J D) k) (Fresh w):=by
  have hok:okI k:=(okI_iff k).2 (by omega)
  have hB:((look l k).getD zeros).length=512:=by
    cases hl:look l k with
    | none=>exact zeros_length
    | some b=>exact h512 _ (look_in hl)
  obtain ⟨B,hBe⟩: ∃B,(look l k).getD zeros=B:=⟨_,rfl⟩
  have hlk:=h.wrtLook (i:=1) rfl hok w rfl
  rw [hBe] at hB hlk
  have c0:w.cell? ⟨cb,0,none⟩=some (.pointer (some ⟨jh.jb,0,none⟩)):=(h.arrCell (i:=0) rfl 0).trans rfl
  have c3:w.cell? ⟨cb,3,none⟩=some (.map (some wb)):=(h.arrCell (i:=0) rfl 3).trans rfl
  have HR:=Lib.hid (S_cReady h)
  have HN:=Lib.hid (block_alloc_new w (.cells zc 257 (0,0)))
  have hf3:Frm NoB w (w.alloc (.cells (B.map B8).toArray 257 (0,0))):=(Frm.refl _ _).alloc _
  have H3:=Lib.hid (h.frm0 hf3)
  have HY:=Lib.hid (And.intro hf3 (arr_at w B hB))
  have HJR:=Lib.hid (S_JRF (show St w0 _ (jrn H jh J::cst cb jh.jb op ov wb::wrt wb l::rs) from H3.out.perm (List.perm_append_comm (l₁:= [_,_]) (l₂:= [_]) |>.append_right _)) (a+2) hr hJ ho k hk0 hk1)
  have c0':(w.alloc (.cells (B.map B8).toArray 257 (0,0))).cell? ⟨cb,0,none⟩=some (.pointer (some ⟨jh.jb,0,none⟩)):=(H3.out.arrCell (i:=0) rfl 0).trans rfl
  obtain ⟨s,hs⟩: ∃s,(look l k).isSome=s:=⟨_,rfl⟩
  rw [hs] at hlk
  have HS:=Lib.hid hs
  have HBE:=Lib.hid hBe
  have HBB:=Lib.hid hB
  clear h hr hJ ho hk0 hk1 hn h512 hok hB hBe hf3 H3 hs
  go_enter Tryz.func202,Tryz.ntmps202
  go_wp2_with fail
  refine HR.out.mono ?_
  rintro e w2 ⟨rfl,rfl⟩
  go_upto_region 4 with (first | refine allocArr rfl rfl ?_ | refine storeArr rfl _ _ rfl w.heap.size B HBB.out rfl rfl zc zc_size HN.out ?_)
  rw [setRow_new]
  clear hlk c0 c3 HR HN
  obtain ⟨w3,hw3⟩: ∃w3,w3=w.alloc (.cells (B.map B8).toArray 257 (0,0)):=⟨_,rfl⟩
  rw [←hw3] at HY HJR c0' ⊢
  clear hw3
  obtain ⟨nb,hnb⟩: ∃nb,w.heap.size=nb:=⟨_,rfl⟩
  rw [hnb] at HY ⊢
  clear hnb
  cases s with
  | true=>
    go_wp2_with fail
    go_ret2
    refine ⟨_,rfl,HY.out.1,?_⟩
    have e:cview l (jview J D) k=B:=by
      unfold cview
      rw [←HBE.out]
      cases hl:look l k with
      | none=>have:=HS.out;rw [hl] at this;cases this
      | some b=>rfl
    rw [e]
    exact HY.out.2
  | false=>
    have e:cview l (jview J D) k=jview J D k.toNat:=by
      unfold cview
      cases hl:look l k with
      | none=>rfl
      | some b=>have:=HS.out;rw [hl] at this;cases this
    have HE:=Lib.hid e
    clear e
    go_wp2_with fail
    refine HJR.out.mono ?_
    clear HJR
    rintro e w4 ⟨v,rfl,hf4,hb4⟩
    have H4:=Lib.hid (And.intro (HY.out.1.trans hf4 (fun _ _ e=>e)) (hb4.mono (R':=Fresh w) fun x _ hx=>Nat.le_trans HY.out.1.size hx))
    clear hf4 hb4
    go_wp2
    go_ret2
    refine ⟨_,rfl,H4.out.1,?_⟩
    rw [HE.out]
    exact H4.out.2
theorem x_ReadF {X:Sys} (h:At w0 w X rs) (k:Nat) (hk:245≤k) (hn:k<X.n):
    Calls Tryz.prog 202 #[.pointer (some ⟨X.cb,0,none⟩),.int .i64 k] w fun e w'=> ∃v,e= .returned (.tuple #[v,.int .i64 0])∧Frm NoB w w'∧BytesAt w' v (X.v k) (Fresh w):=by
  have ho:=h.ok
  refine (S_cReadF h.open 0 rfl (ho.live.ok (by have:=ho.g;omega) (by have:=ho.m;omega)) (by have:=ho.ops;have:=ho.m;omega) (k:Int) (by omega) (by rw [ho.live.dn];omega) (by rw [ho.live.dn];have:=ho.pl.n;have:=ho.pn;omega) ho.cok.b512).mono ?_
  rintro e w' ⟨v,he,hf,hs⟩
  refine ⟨v,he,hf,?_⟩
  have e1:cview X.l (jview X.J X.D) (k:Int)=X.v k:=by
    unfold cview Sys.v cvw
    rw [Int.toNat_natCast,ho.live.view k hk hn]
  rw [e1] at hs
  exact hs
end
section
open Go.ChangeMaps Go.MapKept Go.RowKit
theorem Frm.setRowNew {w w':World} (h:Frm NoB w w') {g:Nat} (hg:w.heap.size≤g) (cs:Array Value):Frm NoB w (w'.setRow g cs):=
  h.trans (N:=fun x=>w.heap.size≤x) ⟨rfl,rfl,rfl,by rw [size_setRow];exact Nat.le_refl _,fun k hk hne=>setRow_other w' g k cs (fun e=>hne (by rw [e];exact hg))⟩ (fun x hx hN=>absurd hN (by omega))
def lays (x:Blk) (o:Nat) (b:List UInt8):Blk:=x.take o++b++x.drop (o+b.length)
theorem lays_length (x:Blk) (o:Nat) (b:List UInt8) (h:o+b.length≤x.length):(lays x o b).length=x.length:=by
  unfold lays
  rw [List.length_append,List.length_append,List.length_take,List.length_drop]
  omega
theorem lays_get (x:Blk) (o:Nat) (b:List UInt8) (h:o+b.length≤x.length) (p:Nat):(lays x o b).getD p 0=if o≤p∧p<o+b.length then b.getD (p-o) 0 else x.getD p 0:=by
  unfold lays
  simp only [List.getD_eq_getElem?_getD]
  by_cases h1:p<o
  · rw [if_neg (by omega),List.append_assoc,List.getElem?_append_left (by rw [List.length_take];omega),List.getElem?_take,if_pos h1]
  · by_cases h2:p<o+b.length
    · rw [if_pos ⟨by omega,h2⟩,List.getElem?_append_left (by rw [List.length_append,List.length_take];omega),List.getElem?_append_right (by rw [List.length_take];omega),List.length_take,Nat.min_eq_left (by omega)]
    · rw [if_neg (by omega),List.getElem?_append_right (by rw [List.length_append,List.length_take];omega),List.length_append,List.length_take,Nat.min_eq_left (by omega),List.getElem?_drop]
      congr 2
      omega
theorem copy_at {w w1:World} {blk off n cap:Nat} {x:Blk} (h:BytesAt w1 (.slice (some ⟨blk,off,none⟩) n cap) x (Fresh w)) (hf:Frm NoB w w1) (hx:0<x.length) (o:Nat) {sa:Addr} {sl sc:Nat} (b:List UInt8) (ho:o+b.length≤x.length) (hb:b.length=Nat.min sl (x.length-o)) (hs: ∀j u,(b.map B8)[j]?=some u→w1.cell? (sa.add j)=some u):
    ∃cs,(∀ty d,(Builtin.copy_ #[76,76] ty #[.slice (some ⟨blk,off+o,none⟩) (x.length-o) d,.slice (some sa) sl sc]).run Tryz.prog w1= .ok (goInt b.length) (w1.setRow blk cs))∧Frm NoB w (w1.setRow blk cs)∧BytesAt (w1.setRow blk cs) (.slice (some ⟨blk,off,none⟩) n cap) (lays x o b) (Fresh w):=by
  obtain ⟨blk',off',cap',c,e,hcap,⟨t,ht,hg⟩,hcell,hR⟩:=h
  cases e
  have hsz:off+x.length≤c.size:=by
    have h2:=(Array.getElem?_eq_some_iff.1 (hcell (x.length-1) (by omega))).1
    omega
  refine ⟨(c.toList.take (off+o)++b.map B8++c.toList.drop (off+o+(b.map B8).length)).toArray,fun ty d=>?_,hf.setRowNew hR _,?_⟩
  · have:=run_copy_row (P:=Tryz.prog) w1 76 76 ty 5 blk (off+o) (x.length-o) d sa sl sc c t (b.map B8) Tryz.underlying76 (by kernel_rfl) hg (by rw [List.length_map];exact hb) hs (by rw [List.length_map];omega) (by intro u hu;obtain ⟨y,_,rfl⟩:=List.mem_map.1 hu;rfl)
    rw [List.length_map] at this ⊢
    exact this
  · refine ⟨blk,off,cap,_,by rw [lays_length _ _ _ ho],by rw [lays_length _ _ _ ho];exact hcap,⟨t,ht,setRow_heap _ _ _ _ _ _ hg⟩,fun i hi=>?_,hR⟩
    rw [lays_length _ _ _ ho] at hi
    rw [lays_get _ _ _ ho,List.getElem?_toArray,List.length_map]
    have hc:=hcell i hi
    rw [←Array.getElem?_toList] at hc
    by_cases h1:i<o
    · rw [if_neg (by omega),List.append_assoc,List.getElem?_append_left (by rw [List.length_take,Array.length_toList];omega),List.getElem?_take,if_pos (by omega)]
      exact hc
    · by_cases h2:i<o+b.length
      · rw [if_pos ⟨by omega,h2⟩,List.getElem?_append_left (by rw [List.length_append,List.length_take,List.length_map,Array.length_toList];omega),List.getElem?_append_right (by rw [List.length_take];omega),List.length_take,Array.length_toList,Nat.min_eq_left (by omega),List.getElem?_map,show off+i-(off+o)=i-o by omega,List.getD_eq_getElem?_getD]
        rw [List.getElem?_eq_getElem (show i-o<b.length by omega)]
        rfl
      · rw [if_neg (by omega),List.getElem?_append_right (by rw [List.length_append,List.length_take,List.length_map];omega),List.length_append,List.length_take,List.length_map,Array.length_toList (xs:=c),Nat.min_eq_left (by omega),List.getElem?_drop,show off+o+b.length+(off+i-(off+o+b.length))=off+i by omega]
        exact hc
def fb (v:Nat→Blk) (f:Nat→Nat) (p:Nat):UInt8:=(v (f (2+p/512))).getD (p%512) 0
def Laid (v u:Nat→Blk) (f:Nat→Nat) (nb s d:Nat) (b:List UInt8):Prop:= ∀p,p<nb*512→fb u f p=if s≤p∧p<s+d then b.getD (p-s) 0 else fb v f p
theorem Laid.zero (v:Nat→Blk) (f:Nat→Nat) (nb s:Nat) (b:List UInt8):Laid v v f nb s 0 b:=fun p hp=>by rw [if_neg (by omega)]
theorem Laid.step {v u:Nat→Blk} {f:Nat→Nat} {nb s d m:Nat} {b:List UInt8} (h:Laid v u f nb s d b) (hinj: ∀k j,k<nb→j<nb→f (2+k)=f (2+j)→k=j) (hk:(s+d)/512<nb) (hl:(u (f (2+(s+d)/512))).length=512) (hm:(s+d)%512+m≤512) (hd:d+m≤b.length) {u':Nat→Blk} (hu: ∀j,u' j=if j=f (2+(s+d)/512) then lays (u (f (2+(s+d)/512))) ((s+d)%512) ((b.drop d).take m) else u j):Laid v u' f nb s (d+m) b:=fun p hp=>by
  have hbl:((b.drop d).take m).length=m:=by rw [List.length_take,List.length_drop];omega
  have h1:=h p hp
  have hpk:p/512<nb:=by omega
  unfold fb at h1 ⊢
  rw [hu]
  by_cases e:p/512=(s+d)/512
  · rw [if_pos (by rw [e]),lays_get _ _ _ (by rw [hbl,hl];exact hm),hbl]
    rw [e] at h1
    by_cases hin:(s+d)%512≤p%512∧p%512<(s+d)%512+m
    · rw [if_pos hin,if_pos (by omega),List.getD_eq_getElem?_getD,List.getElem?_take,if_pos (by omega),List.getElem?_drop,List.getD_eq_getElem?_getD,show d+(p%512-(s+d)%512)=p-s by omega]
    · rw [if_neg hin,h1,e]
      by_cases hs:s≤p∧p<s+d
      · rw [if_pos hs,if_pos (by omega)]
      · rw [if_neg hs,if_neg (by omega)]
  · rw [if_neg (fun x=>e (hinj _ _ hpk hk x)),h1]
    by_cases hs:s≤p∧p<s+d
    · rw [if_pos hs,if_pos (by omega)]
    · rw [if_neg hs,if_neg (by omega)]
theorem BytesAt.part {w:World} {bb bo n vc:Nat} {b:List UInt8} {R:Nat→Prop} (h:BytesAt w (.slice (some ⟨bb,bo,none⟩) n vc) b R) (d m:Nat): ∀j u,(((b.drop d).take m).map B8)[j]?=some u→w.cell? ((⟨bb,bo+d,none⟩:Addr).add j)=some u:=fun j u hj=>by
  obtain ⟨_,_,_,e,_,hc,_⟩:=h.cells
  cases e
  have:=hc (d+j) u (by
    rw [List.getElem?_map] at hj ⊢
    rw [List.getElem?_take] at hj
    by_cases hm:j<m
    · rw [if_pos hm,List.getElem?_drop] at hj;exact hj
    · rw [if_neg hm] at hj;cases hj)
  have e3:((⟨bb,bo,none⟩:Addr).add (d+j))=(⟨bb,bo+d,none⟩:Addr).add j:=by
    unfold Addr.add
    by_cases h1:d+j=0
    · have h2:j=0:=by omega
      have h3:d=0:=by omega
      subst h2;subst h3;rfl
    · rw [if_neg h1]
      by_cases h2:j=0
      · subst h2;rfl
      · rw [if_neg h2,Nat.add_assoc]
  rw [←e3]
  exact this
end
section
open Go.ChangeMaps Go.MapKept Go.RowKit
variable {w0:Gnd} {w:World} {rs:List Res} {X:Sys}
set_option maxRecDepth 100000 in
theorem i_lay (h:At w0 w X rs) (hop:X.op=true) (f:Nat→Nat) (s nb ai:Nat) {bb bo vc:Nat} {b:List UInt8} (hv:rs[ai]?=some (byt (.slice (some ⟨bb,bo,none⟩) b.length vc) b)) (hnb:nb≤10) (hlen:s+b.length≤nb*512) {C:List Nat} (hin: ∀k,k<nb→X.P.da≤f (2+k)∧f (2+k)<X.n∧f (2+k)∈C) (hinj: ∀k j,k<nb→j<nb→f (2+k)=f (2+j)→k=j) (hC:Cov X C) (h60:C.length≤60):
    Calls Tryz.prog 254 #[.pointer (some ⟨X.sb,0,none⟩),.agg (stC 13 (ndI f)),.int .i64 s,.slice (some ⟨bb,bo,none⟩) b.length vc] w fun e w'=>e= .returned (.int .i64 0)∧∃Y,At w0 w' Y rs∧Wr X Y (fun t=> ∃k,k<nb∧t=f (2+k))∧Laid X.v Y.v f nb s b.length b:=by
  have HA:=Lib.hid (h.newArr (stC 13 (ndI f)) 270 neNd)
  obtain ⟨_,_,_,evc,hvc,_⟩:=(h.byt hv).cells
  cases evc
  obtain ⟨n,hn⟩: ∃n,b.length=n:=⟨_,rfl⟩
  have HW:=Lib.hid (Wr.refl X (fun t=> ∃k,k<nb∧t=f (2+k)))
  have HL0:=Lib.hid (Laid.zero X.v f nb s b)
  have HV:=Lib.hid hv
  have HN:=Lib.hid hn
  have HB:=Lib.hid (And.intro hnb hlen)
  have HIN:=Lib.hid hin
  have HINJ:=Lib.hid hinj
  have HC:=Lib.hid (And.intro hC h60)
  have HOP:=Lib.hid hop
  have HDA:Hid (245≤X.P.da):=Lib.hid (by have:=h.ok.pl.tb;have:=h.ok.pl.da;omega)
  rw [hn] at hvc hlen ⊢
  have s0:(0:Int)≤(s:Int):=Int.natCast_nonneg _
  have n0:(0:Int)≤(n:Int):=Int.natCast_nonneg _
  have n1:(n:Int)≤5120:=by omega
  have s1:(s:Int)≤5120:=by omega
  clear h hop hv hin hinj hC h60 hnb hlen hn
  go_enter Tryz.func254,Tryz.ntmps254
  go_upto_region 1 with (fail)
  obtain ⟨y1,hy1,h1⟩:=HA.out.name
  rw [hy1]
  have H1:=Lib.hid h1
  clear hy1 HA h1
  generalize w.heap.size=g at*
  go_loopw [2,3,9,10,11,12,13] (fun t2 t3 _ _ _ _ _ wr=> ∃(d r c:Nat) (a:Option Addr) (Y:Sys),Hid (d+r=n)∧t2= .int .i64 ((s+d:Nat):Int)∧t3= .slice a r c∧Hid (0<r→a=some ⟨bb,bo+d,none⟩∧c=vc-d)∧Hid (At w0 wr Y (arr g (stC 13 (ndI f)) 270 neNd::rs))∧Hid (Wr X Y (fun t=> ∃k,k<nb∧t=f (2+k)))∧Hid (Laid X.v Y.v f nb s d b)) (fun t2 _ _ _ _ _ _ _=>s+n-(intOf t2).toNat)
  case atStart=>exact ⟨0,n,vc,_,X,Lib.hid (by omega),rfl,rfl,Lib.hid fun _=>⟨rfl,rfl⟩,H1,HW,HL0⟩
  case round=>
    clear H1 HW HL0
    obtain ⟨d,r,c,a,Y,HDR,rfl,rfl,HAC,HST,HWR,HLD⟩:=hrel
    have hdr:=HDR.out
    have r0:(0:Int)≤(r:Int):=Int.natCast_nonneg _
    have d0:(0:Int)≤(d:Int):=Int.natCast_nonneg _
    by_cases hr:0<r
    · have r1:(0:Int)<(r:Int):=by omega
      obtain ⟨rfl,rfl⟩:=HAC.out hr
      have hq:(s+d)/512<nb:=by have:=HB.out;have:=HN.out;omega
      have hb:=HST.out.1.get (i:=1) rfl
      have HBG:=Lib.hid (show wr.heap[g]?=some (.cells (stC 13 (ndI f)) 270 (0,0)) from hb)
      clear hb
      go_wp2_with (first | (refine loadNd rfl _ rfl g rfl _ HBG.out ?_))
      obtain ⟨k,hk⟩: ∃k,(s+d)/512=k:=⟨_,rfl⟩
      have ez:((s:Int)+d)/512=((k:Nat):Int):=by omega
      rw [ez]
      rw [hk] at hq
      have hqi:=HIN.out k hq
      have HBK:=Lib.hid (i_block HST.out f k (by have:=HB.out;omega))
      rw [HWR.out.sb] at HBK
      refine HBK.out.mono ?_
      rintro e w3 ⟨rfl,h3⟩
      have H3:=Lib.hid h3
      have c0:=h3.stCells.1
      rw [HWR.out.sb,HWR.out.cb] at c0
      obtain ⟨q,hqe⟩: ∃q,f (2+k)=q:=⟨_,rfl⟩
      have HQE:=Lib.hid hqe
      rw [hqe] at hqi ⊢
      have hy:=HWR.out.n
      have hq0:245≤q:=by have:=HDA.out;omega
      have hq1:q<Y.n:=by omega
      have HRD:=Lib.hid (x_ReadF h3 q hq0 hq1)
      rw [HWR.out.cb] at HRD
      have hxl:=h3.ok.len q hq0 hq1
      have HK:=Lib.hid hk
      have HQ:=Lib.hid (And.intro hq (And.intro hq0 (And.intro hq1 hqi)))
      clear h3 hqe hy hk HST HBK HBG hq hq0 hq1 hqi
      go_wp2_with fail
      refine HRD.out.mono ?_
      clear HRD c0
      rintro e w4 ⟨v,rfl,hf4,hb4⟩
      obtain ⟨vb,vo,vcap,rfl,hcap,-,-⟩:=hb4.cells
      rw [hxl] at hcap hb4 ⊢
      obtain ⟨o,ho⟩: ∃o,(s+d)%512=o:=⟨_,rfl⟩
      obtain ⟨m,hm⟩: ∃m,min r (512-o)=m:=⟨_,rfl⟩
      have hbl:((b.drop d).take m).length=m:=by rw [List.length_take,List.length_drop,HN.out];omega
      have h4:=H3.out.frm hf4
      obtain ⟨cs,hcp,hf5,hb5⟩:=copy_at hb4 hf4 (by rw [hxl];omega) o (sa:=⟨bb,bo+d,none⟩) (sl:=r) (sc:=vc-d) ((b.drop d).take m) (by rw [hbl,hxl];omega) (by rw [hbl,hxl];exact hm.symm) ((h4.byt (i:=ai+1) HV.out).part d m)
      rw [hbl,hxl] at hcp
      have H5:=Lib.hid (H3.out.mkByt hf5 hb5)
      have ho2:o<512:=by omega
      have ezo:((s:Int)+d)%512=((o:Nat):Int):=by omega
      have HO:=Lib.hid (And.intro ho (And.intro hm hxl))
      have m0:(0:Int)<(m:Int):=by omega
      have m1:(m:Int)≤512:=by omega
      have m2:m≤r:=by omega
      clear hf4 hb4 h4 hf5 hb5 ho hm hbl hxl H3
      go_upto_region 9 with (fail)
      obtain ⟨y5,hy5,h5⟩:=H5.out.name
      rw [hy5]
      clear hy5 hcp H5
      have c0:=h5.stCells.1
      rw [HWR.out.sb,HWR.out.cb] at c0
      have HXW:=Lib.hid (x_Write h5 (by rw [HWR.out.op];exact HOP.out) q 0 HQ.out.2.1 HQ.out.2.2.1 rfl (by rw [lays_length _ _ _ (by have:=HO.out.2.1;rw [HO.out.2.2,List.length_take,List.length_drop,HN.out];omega)];exact HO.out.2.2) ((HC.out.1.wr HWR.out (fun t ht=>by obtain ⟨j,hj,rfl⟩:=ht;exact (HIN.out j hj).2.2)).room h5.ok HQ.out.2.2.2.2.2 HC.out.2))
      rw [HWR.out.cb] at HXW
      clear h5
      go_wp2_with fail
      refine HXW.out.mono ?_
      clear HXW c0
      rintro e w6 ⟨rfl,h6⟩
      have H6:=Lib.hid (h6.drop 1)
      have HW6:=Lib.hid (HWR.out.trans ((Wr.put Y q (lays (Y.v q) o ((b.drop d).take m))).mono (U:=fun t=> ∃k,k<nb∧t=f (2+k)) fun t ht=>⟨k,HQ.out.1,by rw [ht,HQE.out]⟩))
      have HL6:Hid (Laid X.v (Y.put q (lays (Y.v q) o ((b.drop d).take m))).v f nb s (d+m) b):=Lib.hid (HLD.out.step HINJ.out (by rw [HK.out];exact HQ.out.1) (by rw [HK.out,HQE.out];exact HO.out.2.2) (by have:=HO.out.1;have:=HO.out.2.1;omega) (by rw [HN.out];omega) (fun j=>by rw [HK.out,HQE.out,HO.out.1,Sys.put_v]))
      clear h6
      generalize Y.put q (lays (Y.v q) o ((b.drop d).take m))=Z at*
      have HM:=Lib.hid (And.intro m0 (And.intro m2 hdr))
      go_upto_region 12 with (fail)
      have m3:(m:Int)≤(r:Int):=by omega
      have d1:(s:Int)+d≤10240:=by omega
      have RW:Hid (d+m+(r-m)=n):=Lib.hid (by omega)
      have RM:Hid ((s+n-(s+d+m):Nat)<s+n-(s+d)):=Lib.hid (by omega)
      have H7:Hid (At w0 w6.drew Z (arr g (stC 13 (ndI f)) 270 neNd::rs)):=Lib.hid (H6.out.frm (Frm.refl NoB w6).drew)
      by_cases hmc:m=vc-d
      · have RA: ∀x,Hid (0<r-m→x=some (⟨bb,bo+(d+m),none⟩:Addr)∧0=vc-(d+m)):=fun x=>Lib.hid fun hh=>absurd hh (by omega)
        have RE:=Lib.hid hmc
        go_region
        refine ⟨?_,?_⟩
        · (repeat apply Exists.intro)
          refine ⟨⟨d+m,r-m,0,some ⟨bb,bo+d,none⟩,Z,RW,?_,?_,RA _,H7,HW6,HL6⟩,rfl⟩
          · rw [RE.out];go_num
          · rw [RE.out]
        · have:=RM.out
          have:=RE.out
          simp [intOf]
          omega
      · have RA:Hid (0<r-m→some (⟨bb,bo+d+m,none⟩:Addr)=some (⟨bb,bo+(d+m),none⟩:Addr)∧vc-d-m=vc-(d+m)):=Lib.hid fun hh=>⟨by rw [Nat.add_assoc],by omega⟩
        go_region
        refine ⟨?_,?_⟩
        · (repeat apply Exists.intro)
          exact ⟨⟨d+m,r-m,vc-d-m,_,Z,RW,by go_num,rfl,RA,H7,HW6,HL6⟩,rfl⟩
        · have:=RM.out
          simp [intOf]
          omega
    · have r1: ¬(0:Int)<(r:Int):=by omega
      have HE:Hid (Laid X.v Y.v f nb s n b):=Lib.hid (by rw [show n=d by omega];exact HLD.out)
      have H8:Hid (At w0 wr Y rs):=Lib.hid (HST.out.drop 1)
      clear HST HLD
      go_wp2
      go_ret
      exact ⟨rfl,Y,H8.out,HWR.out,HE.out⟩
end
section
open Go.ChangeMaps Go.MapKept Go.RowKit
theorem ndI_set (f:Nat→Nat) (j z:Nat):setF (ndI f) j (z:Int)=ndI (setF f j z):=by
  funext i
  show (if i=j then (z:Int) else (f i:Int))=((if i=j then z else f i:Nat):Int)
  by_cases e:i=j
  · rw [if_pos e,if_pos e]
  · rw [if_neg e,if_neg e]
theorem i_data (w:World) (s:Nat) (hs:s≤100000):Calls Tryz.prog 278 #[.int .i64 s] w fun e w'=>w=w'∧e= .returned (.int .i64 ((s+511)/512:Nat)):=by
  have s0:(0:Int)≤(s:Int):=Int.natCast_nonneg _
  have s1:(s:Int)≤100000:=by omega
  have es:((s:Int)+512-1)/512=(((s+511)/512:Nat):Int):=by omega
  have ES:=Lib.hid es
  clear es
  go_enter Tryz.func278,Tryz.ntmps278
  go_wp2
  go_ret
  exact ⟨rfl,by rw [ES.out];rfl⟩
theorem i_has (w:World) (s:Nat) (hs:s≤5120):Calls Tryz.prog 303 #[.int .i64 s] w fun e w'=>w=w'∧e= .returned (.int .i64 ((s+511)/512:Nat)):=by
  have HD:Hid (Calls Tryz.prog 278 #[.int .i64 s] w fun e w'=>w=w'∧e= .returned (.int .i64 ((s+511)/512:Nat))):=Lib.hid (i_data w s (by omega))
  obtain ⟨q,hq⟩: ∃q,(s+511)/512=q:=⟨_,rfl⟩
  have q0:(0:Int)≤(q:Int):=Int.natCast_nonneg _
  have q1:(q:Int)≤10:=by omega
  rw [hq] at HD ⊢
  clear hq hs
  go_enter Tryz.func303,Tryz.ntmps303
  go_wp2_with fail
  refine HD.out.mono ?_
  rintro e w2 ⟨rfl,rfl⟩
  go_wp2
  go_ret
  exact ⟨rfl,rfl⟩
end
section
open Go.ChangeMaps Go.MapKept Go.RowKit
variable {w0:Gnd} {w:World} {rs:List Res} {X:Sys}
theorem i_Ready (h:At w0 w X rs):Calls Tryz.prog 183 #[.pointer (some ⟨X.sb,0,none⟩)] w fun e w'=>w=w'∧e= .returned (.bool X.op):=by
  have c0:=h.stCells.1
  have HO:=Lib.hid (x_Open h)
  clear h
  go_enter Tryz.func183,Tryz.ntmps183
  go_wp2_with fail
  refine HO.out.mono ?_
  rintro e w2 ⟨rfl,rfl⟩
  go_wp2
  go_ret
  exact ⟨rfl,rfl⟩
set_option maxRecDepth 100000 in
theorem i_take {g:Nat} {f:Nat→Nat} (h:At w0 w X (arr g (stC 13 (ndI f)) 270 neNd::rs)) (hop:X.op=true) (j:Nat) (hj:j<10) {k:Nat} (hk:firstZ (X.v X.P.bm) X.P.dc=some k) {C:List Nat} (hC:Cov X C) (hb:X.P.bm∈C) (h60:C.length<60):
    Calls Tryz.prog 304 #[.pointer (some ⟨X.sb,0,none⟩),.pointer (some ⟨g,0,none⟩),.int .i64 j] w fun e w'=>e= .returned (.int .i64 0)∧At w0 w' (X.fresh k) (arr g (stC 13 (ndI (setF f (2+j) (X.P.da+k)))) 270 neNd::rs):=by
  have HF:=Lib.hid (i_fresh h hop hk hC hb h60)
  have HJ:=Lib.hid hj
  have j0:(0:Int)≤(j:Int):=Int.natCast_nonneg _
  have j1:(j:Int)<10:=by omega
  have j2:(j:Int)<11:=by omega
  have j3: ¬(j:Int)=10:=by omega
  obtain ⟨q,hq⟩: ∃q,X.P.da+k=q:=⟨_,rfl⟩
  rw [hq] at HF ⊢
  clear h hop hj hk hC hb h60 hq
  go_enter Tryz.func304,Tryz.ntmps304
  go_wp2_with fail
  refine HF.out.mono ?_
  clear HF
  rintro e w2 ⟨rfl,h2⟩
  have h3:=h2.setArr 0 rfl (2+j) (.int .i64 q)
  rw [stC_setF _ _ _ _ (by have:=HJ.out;omega),ndI_set] at h3
  have H3:=Lib.hid h3
  have d0: ∃u,w2.cell? ⟨g,2+j,none⟩=some u:=⟨_,(h2.arrCell (i:=0) rfl (2+j)).trans (stC_get _ _ _ (by have:=HJ.out;omega))⟩
  obtain ⟨u0,d0⟩:=d0
  have f0:w2.frozen? ⟨g,2+j,none⟩=false:=h2.arrFree (i:=0) rfl (2+j)
  clear h2 h3
  go_wp2
  go_ret
  exact ⟨rfl,H3.out⟩
set_option maxRecDepth 100000 in
theorem i_changing (h:At w0 w X rs) (hop:X.op=true) (i:Nat) (hi:i<X.P.ni) (hb:bitAt (X.v X.P.im) i=true):
    Calls Tryz.prog 221 #[.pointer (some ⟨X.sb,0,none⟩),.int .i64 i] w fun e w'=>e= .returned (.tuple #[.agg (stC 13 (ndI (X.nd i))),.int .i64 0])∧At w0 w' X rs:=by
  have HA:=Lib.hid (h.newArr (stC 13 fun _=>0) 270 neNd)
  have KR:Hid (∀y rs',At w0 y X rs'→Calls Tryz.prog 183 #[.pointer (some ⟨X.sb,0,none⟩)] y fun e w'=>y=w'∧e= .returned (.bool true)):=Lib.hid fun y rs' hy=>by have:=i_Ready hy;rw [hop] at this;exact this
  have KL:Hid (∀y rs',At w0 y X rs'→Calls Tryz.prog 212 #[.pointer (some ⟨X.sb,0,none⟩),.int .i64 i] y fun e w'=>e= .returned (.tuple #[.agg (stC 13 (ndI (X.nd i))),.int .i64 0])∧At w0 w' X rs'):=Lib.hid fun y rs' hy=>i_load hy i hi hb
  clear h hop hi hb
  go_enter Tryz.func221,Tryz.ntmps221
  go_upto_region 1 with (refine allocRow rfl _ _ zeroNd rfl ?_)
  obtain ⟨y1,hy1,h1⟩:=HA.out.name
  rw [hy1]
  clear hy1 HA
  have H1:=Lib.hid h1
  generalize w.heap.size=nb at*
  clear h1
  go_wp2_with fail
  refine (KR.out _ _ H1.out).mono ?_
  rintro e w2 ⟨rfl,rfl⟩
  go_wp2_with fail
  refine (KL.out _ _ H1.out).mono ?_
  rintro e w2 ⟨rfl,h2⟩
  have HB2:=Lib.hid (show w2.heap[nb]?=some (.cells (stC 13 fun _=>0) 270 (0,0)) from h2.1.get (i:=1) rfl)
  have h3:=h2.setRow 0 (c':=stC 13 (ndI (X.nd i))) rfl
  have H3:=Lib.hid h3
  have HB3:=Lib.hid (show (w2.setRow nb (stC 13 (ndI (X.nd i)))).heap[nb]?=some (.cells (stC 13 (ndI (X.nd i))) 270 (0,0)) from h3.1.get (i:=1) rfl)
  clear h2 h3
  go_wp2_with (refine storeNd rfl _ _ rfl nb _ rfl rfl _ (stC_size _ _) HB2.out ?_)
  have hld:=run_loadVar_row (P:=Tryz.prog) (w2.setRow nb (stC 13 (ndI (X.nd i)))) nb 270 270 (stC 13 (ndI (X.nd i))) (0,0) _ HB3.out Tryz.underlying270 rfl (infoNd _)
  exact bodyPost_ret (v:= .tuple #[.agg (stC 13 (ndI (X.nd i))),.int .i64 0]) (results_ct Tryz.results221 _ _ ⟨nb,0,none⟩ rfl _ hld) rfl ⟨rfl,H3.out.drop 1⟩
end
section
open Go.ChangeMaps Go.MapKept Go.RowKit
structure Took (X Y:Sys) (f f':Nat→Nat) (a k:Nat):Prop where
  ak:a≤k
  wr:Wr X Y fun t=>t=X.P.bm∨∃b,b<X.P.dc∧bitAt (X.v X.P.bm) b=false∧t=X.P.da+b
  same: ∀j,(j<2+a∨2+k≤j)→f' j=f j
  new: ∀j,a≤j→j<k→∃b,b<X.P.dc∧f' (2+j)=X.P.da+b∧bitAt (X.v X.P.bm) b=false∧bitAt (Y.v X.P.bm) b=true∧Y.v (X.P.da+b)=zeros
  inj: ∀i j,a≤i→i<k→a≤j→j<k→f' (2+i)=f' (2+j)→i=j
  bits: ∀b,b<X.P.dc→bitAt (Y.v X.P.bm) b=true→bitAt (X.v X.P.bm) b=true∨∃j,a≤j∧j<k∧f' (2+j)=X.P.da+b
  keep: ∀b,bitAt (X.v X.P.bm) b=true→bitAt (Y.v X.P.bm) b=true
  free:Y.fb+(k-a)=X.fb
theorem Took.refl (X:Sys) (f:Nat→Nat) (a:Nat):Took X X f f a a:=
  ⟨Nat.le_refl _,Wr.refl _ _,fun _ _=>rfl,fun j h1 h2=>by omega,fun i j h1 h2=>by omega,fun b _ h=> .inl h,fun b h=>h,by omega⟩
theorem Took.step {X Y:Sys} {f f':Nat→Nat} {a k b:Nat} (h:Took X Y f f' a k) (hY:SysOk Y) (hb:firstZ (Y.v Y.P.bm) Y.P.dc=some b):Took X (Y.fresh b) f (setF f' (2+k) (Y.P.da+b)) a (k+1):=by
  have hP:Y.P=X.P:=h.wr.P
  have hd:=hY.data (firstZ_some hb).1
  have hm:=hY.maps
  have hl:(Y.v Y.P.bm).length=512:=hY.len _ hm.2.2.1 hm.2.2.2.1
  have hdc:Y.P.dc≤4096:=hY.pl.dc.2
  rw [hP] at hb hd hl hdc ⊢
  obtain ⟨hb1,hb2⟩:=firstZ_some hb
  have hb0:bitAt (X.v X.P.bm) b=false:=by
    cases hx:bitAt (X.v X.P.bm) b with
    | false=>rfl
    | true=>rw [h.keep b hx] at hb2;cases hb2
  have hvm:(Y.fresh b).v X.P.bm=setBit (Y.v X.P.bm) b true:=by
    unfold Sys.fresh
    rw [hP,Sys.put_v,if_neg (by omega),Sys.put_v,if_pos rfl]
  have hvd: ∀c,(Y.fresh b).v (X.P.da+c)=if c=b then zeros else Y.v (X.P.da+c):=fun c=>by
    unfold Sys.fresh
    have hmd:X.P.da+c≠X.P.bm:=by have:=hY.pl.bm;have:=hY.pl.tb;have:=hY.pl.da;rw [hP] at*;omega
    rw [hP,Sys.put_v]
    by_cases e:c=b
    · rw [if_pos (by omega),if_pos e]
    · rw [if_neg (by omega),if_neg e,Sys.put_v,if_neg hmd]
  have hbit: ∀j,bitAt ((Y.fresh b).v X.P.bm) j=if j=b then true else bitAt (Y.v X.P.bm) j:=fun j=>by
    rw [hvm];exact bitAt_setBit _ _ _ (by rw [hl];omega) j
  have hold: ∀j,a≤j→j<k→f' (2+j)≠X.P.da+b:=fun j h1 h2 e=>by
    obtain ⟨c,_,q2,_,q4,_⟩:=h.new j h1 h2
    have:c=b:=by omega
    rw [this,hb2] at q4
    cases q4
  have hs: ∀j,j≠k→setF f' (2+k) (X.P.da+b) (2+j)=f' (2+j):=fun j hj=>if_neg (by omega)
  have hk:setF f' (2+k) (X.P.da+b) (2+k)=X.P.da+b:=if_pos rfl
  refine ⟨by have:=h.ak;omega,h.wr.trans ((Wr.fresh Y b).mono fun t ht=>?_),fun j hj=>?_,fun j h1 h2=>?_,fun i j i1 i2 j1 j2 e=>?_,fun c hc hx=>?_,fun c hc=>?_,?_⟩
  · rw [hP] at ht
    rcases ht with e | e
    · exact .inl e
    · exact .inr ⟨b,hb1,hb0,e⟩
  · have e:setF f' (2+k) (X.P.da+b) j=f' j:=if_neg (by have:=h.ak;omega)
    rw [e]
    exact h.same j (by omega)
  · by_cases e:j=k
    · subst e
      exact ⟨b,hb1,hk,hb0,by rw [hbit,if_pos rfl],by rw [hvd,if_pos rfl]⟩
    · obtain ⟨c,q1,q2,q3,q4,q5⟩:=h.new j h1 (by omega)
      have hcb:c≠b:=fun e=>hold j h1 (by omega) (by rw [q2,e])
      exact ⟨c,q1,by rw [hs j e];exact q2,q3,by rw [hbit,if_neg hcb];exact q4,by rw [hvd,if_neg hcb];exact q5⟩
  · by_cases e1:i=k
    · by_cases e2:j=k
      · omega
      · rw [e1,hk,hs j e2] at e
        exact absurd e.symm (hold j j1 (by omega))
    · by_cases e2:j=k
      · rw [e2,hk,hs i e1] at e
        exact absurd e (hold i i1 (by omega))
      · rw [hs i e1,hs j e2] at e
        exact h.inj i j i1 (by omega) j1 (by omega) e
  · rw [hbit] at hx
    by_cases e:c=b
    · exact .inr ⟨k,h.ak,by omega,by rw [hk,e]⟩
    · rw [if_neg e] at hx
      rcases h.bits c hc hx with q | ⟨j,q1,q2,q3⟩
      · exact .inl q
      · exact .inr ⟨j,q1,by omega,by rw [hs j (by omega)];exact q3⟩
  · rw [hbit]
    by_cases e:c=b
    · rw [if_pos e]
    · rw [if_neg e];exact h.keep c hc
  · have hf:=h.free
    have e1:(Y.fresh b).P=X.P:=hP
    unfold Sys.fb at hf ⊢
    rw [e1,hvm,popc_set_on hb1 (by rw [hl];omega) hb2]
    rw [hP] at hf
    have:=popc_set_on (b:=Y.v X.P.bm) hb1 (by rw [hl];omega) hb2
    have hle:=popc_le (setBit (Y.v X.P.bm) b true) X.P.dc
    have:=h.ak
    omega
theorem Sys.room (X:Sys) (h:0<X.fb): ∃k,firstZ (X.v X.P.bm) X.P.dc=some k:=firstZ_room (by unfold Sys.fb at h;omega)
def dat (s:Nat):Nat:=(s+511)/512
def Zeroed (v u:Nat→Blk) (f:Nat→Nat) (s:Nat):Prop:= ∀p,p<dat s*512→fb u f p=if p<s then fb v f p else 0
def nought (y:Nat):List UInt8:=List.replicate y 0
theorem nought_len (y:Nat):(nought y).length=y:=by simp [nought]
theorem nought_get (y p:Nat):(nought y).getD p 0=0:=by
  unfold nought
  rw [List.getD_eq_getElem?_getD,List.getElem?_replicate]
  split<;>rfl
theorem nought_at (w:World) (y:Nat):BytesAt (w.alloc (.cells (madeCells #[.int .u8 0] y) 5 (0,0))) (.slice (some ⟨w.heap.size,0,none⟩) y y) (nought y) (Fresh w):=by
  refine ⟨w.heap.size,0,y,madeCells #[.int .u8 0] y,by rw [nought_len],by rw [nought_len];exact Nat.le_refl _,IsC.of8 (block_alloc_new _ _),fun i hi=>?_,Nat.le_refl _⟩
  rw [nought_len] at hi
  rw [Nat.zero_add,←Array.getElem?_toList,madeCells_one,List.getElem?_replicate,if_pos hi]
  unfold nought
  rw [List.getD_eq_getElem?_getD,List.getElem?_replicate,if_pos hi]
  rfl
theorem run_makeN (y:Nat) (hy:y≤600) (W:World):(Instr.makeSlice 76 (.int .i64 (y:Int)) (.int .i64 (y:Int))).run Tryz.prog W= .ok (.slice (some ⟨W.heap.size,0,none⟩) y y) (W.alloc (.cells (madeCells #[.int .u8 0] y) 5 (0,0))):=by
  obtain ⟨i0,hi0,hz0,hz1,hz2⟩:=info_parts infoU8
  have:=run_make (P:=Tryz.prog) W 76 5 i0 _ Tryz.underlying76 hi0 hz0 .i64 .i64 y y (by omega) (by omega) (by rw [hz2];omega) (by omega)
  rw [hz1,Nat.mul_one,Int.toNat_natCast] at this
  exact this
theorem Laid.zeroed {v u:Nat→Blk} {f:Nat→Nat} {s:Nat} (h:Laid v u f (dat s) s (512-s%512) (nought (512-s%512))) (hs:0<s%512):Zeroed v u f s:=fun p hp=>by
  rw [h p hp]
  unfold dat at hp
  by_cases e:p<s
  · rw [if_neg (by omega),if_pos e]
  · rw [if_pos (by omega),if_neg e,nought_get]
theorem Zeroed.refl (v:Nat→Blk) (f:Nat→Nat) (s:Nat) (hs: ¬0<s%512):Zeroed v v f s:=fun p hp=>by
  unfold dat at hp
  rw [if_pos (by omega)]
end
end Go.Proofs.YtlemndledcmhiaaGreatDoor
