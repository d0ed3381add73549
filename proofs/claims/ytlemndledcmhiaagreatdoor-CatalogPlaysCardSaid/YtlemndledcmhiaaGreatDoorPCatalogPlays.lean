/-
  The tied card CatalogPlaysCardSaid, proved: for every input the Go function bollard/bollardlaw17.CatalogPlays answers true and leaves its arguments as they were. The row's condition: the listed package-level variables of Go's library hold what the program's text lays (the card ties them).
-/
import Derived.Test.YtlemndledcmhiaaGreatDoorRows
import Derived.Test.YtlemndledcmhiaaGreatDoorCards
import Derived.Test.YtlemndledcmhiaaGreatDoorTie
import Derived.WalkKit
import Derived.Test.YtlemndledcmhiaaGreatDoorV15
import Derived.Test.YtlemndledcmhiaaGreatDoorHead
import Derived.ProofKit
import Derived.LaidMore
import Derived.Lay
import Derived.OpenShut
import Derived.ShutString
import Derived.ChangeOld
import Derived.Below
import Derived.SevenTiedAt
import Derived.Stop.LaidErr
namespace Go.Proofs.YtlemndledcmhiaaGreatDoor.catalogPlays
open Go.ChangeShapes Go.WideShapes Go.ChangeAt Go.RowKit
open Go.ChangeMaps (open_string shut_string)
set_option linter.unusedVariables false
theorem own:ownKnob Tryz.prog.godebug=none:=by kernel_rfl
theorem star: "*"++ "errors.errorString"= "*errors.errorString":=by decide
theorem errRow (u:TypeId) (h:Tryz.prog.typeName? 3 u=some "*errors.errorString"):u=427:=
  typeName_ptr_named (nm:= "errors.errorString") (by rw [star];kernel_rfl) (by kernel_rfl) (by decide) u (by rw [star];exact h)
theorem synv {W:World} (h:laidMetH Tryz.prog Rows.catalogPlaysRow.laid W):SynV W:=by
  rw [MakeChecks.laidMetH_plain _ _ _ (by kernel_rfl)] at h
  have hg:Tryz.prog.globalNamed "strconv.ErrSyntax"=some 2:=by kernel_rfl
  obtain ⟨a,s,hv,_⟩:=laid_sentinel h.tail.tail.tail.tail.tail hg (show (Tryz.prog.globals[2]?).map (·.type)=some 310 by kernel_rfl) Tryz.underlying310 errRow Tryz.underlying427 Tryz.underlying429 rfl rfl Tryz.underlying9 (by kernel_rfl) (by kernel_rfl)
  exact ⟨_,_,World.var?_cell hg hv 0⟩
theorem cf1:laidOutB Tryz.prog=true:=by kernel_rfl
theorem walk (w:World) (hsyn:SynV w) (v0:Value) (l0:List Stp) (h0:Stps w v0 l0) (k0: ∀s∈l0,StpOk s) (n0:l0.length≤maxLen):
    Calls Tryz.prog 6 #[v0] w fun e w'=>e= .returned (.bool true)∧Below w.heap.size w w':=
  (catalogPlays_any w hsyn v0 l0 h0 n0).mono fun _ _ ⟨a,b⟩=>⟨a,⟨b.os,b.tape,b.output,b.size,fun k hk=>b.block k hk (fun h=>h)⟩⟩
theorem met (os:Os) (args:Array Value):laidMetH Tryz.prog Rows.catalogPlaysRow.laid ((World.laidAll Tryz.prog os Rows.catalogPlaysRow.laid).forCall (fun _ _=>0) ⟨#[],args,[]⟩).memory:=by
  rw [MakeChecks.laidMetH_plain _ _ _ (by kernel_rfl)]
  exact laidMet_laidAll _ (by kernel_rfl) (by kernel_rfl)
set_option maxRecDepth 100000 in
theorem lifted (os:Os) (started:os.Started) (H:Type) (enc:TypeId×Value→H):
    ReturnsInHanded {} Tryz.checked os 6 .any (fun w args=>(Rows.catalogPlaysSpec.pre enc Tryz.prog Tryz.f6 Rows.catalogPlaysRow.domain false w args∧laidMetH Tryz.prog Rows.catalogPlaysRow.laid w)∧sizedMet enc Tryz.prog Tryz.f6 (OpenSpec.ofChange Rows.catalogPlaysSpec) false w args)
      (Rows.catalogPlaysSpec.post enc Tryz.prog Tryz.f6 false true false false):=by
  refine returnsInHanded_of_change_and (C:=Tryz.checked) (X:=fun w _=>laidMetH Tryz.prog Rows.catalogPlaysRow.laid w) (fun _ _ _ hh h=>h.of_heap hh) own started (by kernel_rfl) Tryz.func6
    (ChangeSpec.witness_shaped (enc:=enc) (C:=Tryz.checked) (os:=os) (X:=fun w _=>laidMetH Tryz.prog Rows.catalogPlaysRow.laid w) false (World.laidAll Tryz.prog os Rows.catalogPlaysRow.laid) #[.slice none 0 0] 8 (World.laidAll_os _ _ _)
      (World.shaped_of_ZipB (by kernel_rfl) (by kernel_rfl)) (by kernel_rfl) (by kernel_rfl) (by kernel_rfl) (met os _)) ?_
  intro W base args ds gs before hval0 hW _ _ hL _
  have hval: ∀(j:Nat) t v,Tryz.f6.params[j]?=some t→args[j]?=some v→Value.okWide Tryz.prog W .any base t v:=hval0
  have hW':=hW
  obtain ⟨p,q,hA0,hV,rfl,hfz,hnd⟩:=hW
  have hA:DataW.TrodAll enc Tryz.prog W 0 (fun _=>true) true Tryz.f6.params.toList args.toList ds p:=hA0
  rw [Tryz.params6] at hA hval
  obtain ⟨v0,vs0,d0,ds0,p0,q0,hargs,rfl,rfl,h0,r0⟩:=trodAll_cons hA
  obtain ⟨rfl,rfl,rfl⟩:=trodAll_nil r0
  obtain rfl:args= #[v0]:=by cases args;simp_all
  obtain ⟨rfl,rfl⟩:=trodVars_none hV
  obtain ⟨a0,len0,cap0,rfl⟩:=okWide_slice Tryz.underlying58 (hval 0 58 v0 rfl rfl)
  have k0:=h0
  have lt0: ∀x∈p0,x.block<W.heap.size:=by obtain ⟨m,hm⟩:=k0;exact DataW.trod_lt m _ _ _ hm
  obtain ⟨l0,e0,o0,n0⟩: ∃l:List Stp,Stps W (.slice a0 len0 cap0) l∧(∀s∈l,StpOk s)∧l.length≤maxLen:=by
    obtain ⟨fuel,hf⟩:=h0
    obtain ⟨v,l,e,hp,ho,hn⟩:=open_stps Tryz.underlying58 Tryz.underlying61 (by kernel_rfl) ⟨rfl,rfl,rfl,rfl⟩ ⟨by kernel_rfl,by kernel_rfl,by kernel_rfl,by kernel_rfl⟩ Tryz.underlying3 Tryz.underlying9 Tryz.underlying3 Tryz.underlying29 (by kernel_rfl) Tryz.underlying3 Tryz.underlying3 Tryz.underlying3 Tryz.underlying4 Tryz.underlying3 hf
    have e:Value.slice a0 len0 cap0=v:=by simpa [Value.cells] using e
    subst e
    exact ⟨l,hp,ho,hn⟩
  clear hA0 hval0
  refine (walk W (synv hL) _ l0 e0 o0 n0).mono fun e W' ⟨he,bel⟩=>?_
  subst he
  exact ⟨_,rfl,_,_,_,[],_,[],hW',trodAll_mk1 (shut_bool Tryz.underlying4 _),(trodAll_cons_mk (Below.trod cf1 (by kernel_rfl) (of_decide_eq_true (by kernel_rfl)) k0 bel lt0) trodAll_mk0),rfl,bel.frame _,fun h=>by cases h⟩
theorem cf2:mapsRowed Tryz.prog=true:=by kernel_rfl
theorem cf3:Tryz.prog.inPlace 6=Rows.catalogPlaysRow.inPlace:=by kernel_rfl
theorem cf4:Tryz.prog.unfollowed 6=Rows.catalogPlaysRow.unfollowed:=by kernel_rfl
theorem cf5:Tryz.prog.recurses 6=Rows.catalogPlaysRow.recurses:=by kernel_rfl
theorem cf6:Tryz.prog.varsNamed 6=Rows.catalogPlaysRow.named:=by kernel_rfl
theorem cf7:Tryz.prog.plainKeys=Rows.catalogPlaysRow.plainKeys:=by kernel_rfl
theorem cf8:Tryz.prog.stops= []:=by kernel_rfl
theorem closed:joinedFacts Tryz.prog 6 Tryz.f6 Rows.catalogPlaysSpec Rows.catalogPlaysRow=true:=by
  unfold joinedFacts
  rw [headMayEnter,headLiftsFinal,headMake,cf1,cf2,cf3,cf4,cf5,cf6,cf7,cf8]
  kernel_rfl
theorem over:Rows.catalogPlaysRow.holds Tryz.pinned (OpenSpec.ofChange Rows.catalogPlaysSpec):=
  OpenClaim.holds_of_wide 6 Tryz.f6 rfl rfl rfl rfl rfl rfl rfl ⟨rfl,rfl,rfl,rfl,rfl⟩ rfl rfl rfl rfl rfl (by kernel_rfl) Tryz.func6 closed
    (of_decide_eq_true (by kernel_rfl)) (by unfold Func.isWrapper;first | (rw [if_pos (by decide+kernel)];kernel_rfl) | (rw [if_neg (by decide+kernel)];exact ⟨rfl,rfl⟩))
    (fun os started H enc _=>lifted os started H enc)
theorem pfWf:Rows.catalogPlaysRow.wfByText (OpenSpec.ofChange Rows.catalogPlaysSpec)=true:=by kernel_rfl
theorem pfMain:Tryz.pinned.checked.prog.mainIs=some (true,"31c198e633e8f8b357a1fb93dc6abc551759ae68968ec3f13f9f280585afcc66".toList):=by kernel_rfl
theorem pfGoes:false=Rows.catalogPlaysRow.goesBy Tryz.pinned.checked.prog:=by kernel_rfl
theorem pfLooks:true=Tryz.pinned.checked.prog.looks []:=by kernel_rfl
theorem pfNamed:Tryz.prog.funcNamed "bollard/bollardlaw17.CatalogPlays"=some 6:=by kernel_rfl
theorem pfStand:([58].all fun u=>!Tryz.prog.wantsStandIn u)=true:=by kernel_rfl
theorem proved:Rows.CatalogPlaysCardSaid:=
  Claim7.holds_tied_plain_at .later [] [.data,.data,.data,.data,.sentinel,.sentinel,.pinned] true (true,"31c198e633e8f8b357a1fb93dc6abc551759ae68968ec3f13f9f280585afcc66") true over (fun _ h=>by cases h) pfWf (fun _ h=>by cases h) catalogPlays_row_tie rfl ⟨rfl,rfl⟩ pfMain rfl
    (fun f fn hf hfn=>by
      obtain rfl:f=6:=Option.some.inj (pfNamed.symm.trans hf) |>.symm
      obtain rfl:fn=Tryz.f6:=(Option.some.inj (Tryz.func6.symm.trans hfn)).symm
      exact ⟨pfLooks,fun j t ht=>by
        have ht:Tryz.f6.params[j]?=some t:=ht
        rw [Tryz.params6] at ht
        have hm:t∈ [58]:=by simpa using Array.mem_of_getElem? ht
        exact (show Tryz.prog.wantsStandIn t=false by simpa using List.all_eq_true.1 pfStand t hm)⟩)
    pfGoes
#print axioms proved
end Go.Proofs.YtlemndledcmhiaaGreatDoor.catalogPlays
