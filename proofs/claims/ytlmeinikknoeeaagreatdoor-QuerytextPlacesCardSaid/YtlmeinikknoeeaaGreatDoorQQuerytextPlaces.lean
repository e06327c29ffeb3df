/- The statement QuerytextPlaces of chapter 40: for every input the law returns true; each argument reads as before. What is laid in the listed variables is tied to the program's text by the given tie; no condition of our own. -/
import Derived.Test.YtlmeinikknoeeaaGreatDoorQ47
import Derived.Test.YtlmeinikknoeeaaGreatDoorCards
import Derived.Test.YtlmeinikknoeeaaGreatDoorTie
import Derived.SevenTiedAt
import Derived.Below
namespace Go.Proofs.YtlmeinikknoeeaaGreatDoor
open Go Go.ChangeShapes Go.WideShapes Go.ChangeAt Go.WideMaps Go.WideElems Go.RowKit
open Go.ChangeMaps (open_string shut_string)
set_option linter.unusedVariables false
set_option linter.unnecessarySimpa false
def laidL_querytextPlaces:List (String×DataW Unit):=Rows.querytextPlacesRow.laid
theorem lm_of_shaped_querytextPlaces {W:World} (h:W.ShapedOpen Tryz.prog):LmO W:=
 Go.Proofs.cell_of_shapedOpen_int (zero:=#[.int .i64 0]) (t:=3) h (of_decide_eq_true (by kernel_rfl)) (by kernel_rfl) rfl (by kernel_rfl) (by kernel_rfl) Tryz.underlying3
theorem door_met_querytextPlaces (os:Os) (args:Array Value):laidMetH Tryz.prog laidL_querytextPlaces ((World.laidAll Tryz.prog os laidL_querytextPlaces).forCall (fun _ _=>0) ⟨#[],args,[]⟩).memory:=by
 rw[MakeChecks.laidMetH_plain _ _ _ (by kernel_rfl)]
 exact laidMet_laidAll _ (by kernel_rfl) (by kernel_rfl)
theorem door_shaped_querytextPlaces (os:Os) (args:Array Value):((World.laidAll Tryz.prog os laidL_querytextPlaces).forCall (fun _ _=>0) ⟨#[],args,[]⟩).Shaped Tryz.prog:=
 World.shaped_of_ZipB (by kernel_rfl) (by kernel_rfl)
set_option maxRecDepth 100000 in
theorem querytextPlaces_lifted (os:Os) (started:os.Started) (H:Type) (enc:TypeId×Value→H) :
  ReturnsInHanded {} Tryz.checked os 7 .any (fun w args=>(Rows.querytextPlacesSpec.pre enc Tryz.prog Tryz.f7 [] false w args∧laidMetH Tryz.prog laidL_querytextPlaces w)∧sizedMet enc Tryz.prog Tryz.f7 (OpenSpec.ofChange Rows.querytextPlacesSpec) false w args)
   (Rows.querytextPlacesSpec.post enc Tryz.prog Tryz.f7 false true false false):=by
 refine returnsIn_shaped_and (C:=Tryz.checked) (X:=fun w _=>laidMetH Tryz.prog laidL_querytextPlaces w) (fun _ _ _ hh h=>h.of_heap hh) own started (by kernel_rfl) Tryz.func7
  (ChangeSpec.witness_shaped (enc:=enc) (C:=Tryz.checked) (os:=os) (X:=fun w _=>laidMetH Tryz.prog laidL_querytextPlaces w) false (World.laidAll Tryz.prog os laidL_querytextPlaces) #[.string .empty] 8 (World.laidAll_os _ _ _) (door_shaped_querytextPlaces os _) (by kernel_rfl) (by kernel_rfl) (by kernel_rfl) (door_met_querytextPlaces os _)) ?_
 intro W base args ds gs before hval0 hW _ _ hL hsh
 have hval:∀(j:Nat) t v,Tryz.f7.params[j]? = some t→args[j]? = some v→Value.okWide Tryz.prog W .any base t v:=hval0
 have hW':=hW
 obtain⟨p,q,hA0,hV,rfl,hfz,hnd⟩:=hW
 have hA:DataW.TrodAll enc Tryz.prog W 0 (fun _=>true) true Tryz.f7.params.toList args.toList ds p:=hA0
 rw[Tryz.params7]at hA hval
 obtain⟨v0,vs0,d0,ds0,p0,q0,hargs,rfl,rfl,h0,r0⟩:=trodAll_cons hA
 obtain⟨rfl,rfl,rfl⟩:=trodAll_nil r0
 obtain rfl:args = #[v0]:=by cases args;simp_all
 obtain⟨rfl,rfl⟩:=trodVars_none hV
 have k0:=h0
 have lt0:∀x∈p0,x.block<W.heap.size:=by obtain⟨m,hm⟩:=k0;exact DataW.trod_lt m _ _ _ hm
 obtain⟨a0,rfl,rfl,rfl,w0⟩:=open_string Tryz.underlying9 (hval 0 9 v0 rfl rfl) h0
 clear hA0 hval0
 refine(places40_walk a0 W (rsvB_of_laid (List.mem_of_getElem? (i:=6) rfl) (by kernel_rfl) hL) (lm_of_shaped_querytextPlaces hsh)).mono fun e W' ⟨he,bel⟩=>?_
 subst he
 have bel:Below W.heap.size W W':=bel
 exact⟨_,rfl,_,_,_,[],_,[],hW',trodAll_mk1 (shut_bool Tryz.underlying4 _),(trodAll_cons_mk (Below.trod laidOut (by kernel_rfl) (of_decide_eq_true (by kernel_rfl)) k0 bel lt0) trodAll_mk0),rfl,bel.frame _,fun h=>by cases h⟩
theorem querytextPlaces_ip:(Rows.querytextPlacesRow.inPlace==Tryz.prog.inPlace 7)=true:=by kernel_rfl
theorem querytextPlaces_uf:(Rows.querytextPlacesRow.unfollowed==Tryz.prog.unfollowed 7)=true:=by kernel_rfl
theorem querytextPlaces_rc:(Rows.querytextPlacesRow.recurses==Tryz.prog.recurses 7)=true:=by kernel_rfl
theorem querytextPlaces_nd:(Rows.querytextPlacesRow.named==Tryz.prog.varsNamed 7)=true:=by kernel_rfl
theorem querytextPlaces_joined:joinedFacts Tryz.prog 7 Tryz.f7 Rows.querytextPlacesSpec Rows.querytextPlacesRow=true:=by
 unfold joinedFacts
 simp only[Bool.and_eq_true]
 repeat' (refine And.intro ?_ ?_)
 iterate 9 (· kernel_rfl)
 ·exact querytextPlaces_ip
 ·exact querytextPlaces_uf
 ·exact querytextPlaces_rc
 ·exact querytextPlaces_nd
 all_goals kernel_rfl
theorem querytextPlaces_over:Rows.querytextPlacesRow.holds Tryz.pinned (OpenSpec.ofChange Rows.querytextPlacesSpec):=
 OpenClaim.holds_of_wide 7 Tryz.f7 rfl rfl rfl rfl rfl rfl rfl ⟨rfl,rfl,rfl,rfl,rfl⟩ rfl rfl rfl rfl rfl (by kernel_rfl) Tryz.func7 querytextPlaces_joined
  (of_decide_eq_true (by kernel_rfl)) (by unfold Func.isWrapper;first|(rw[if_pos (by decide +kernel)];kernel_rfl)|(rw[if_neg (by decide +kernel)];exact⟨rfl,rfl⟩))
  (fun os started H enc _=>querytextPlaces_lifted os started H enc)
theorem querytextPlaces_wf:Rows.querytextPlacesRow.wfByText (OpenSpec.ofChange Rows.querytextPlacesSpec)=true:=by kernel_rfl
theorem querytextPlaces_mn:Tryz.pinned.checked.prog.mainIs=some (Rows.querytextPlacesCard.stood.harness.1,Rows.querytextPlacesCard.stood.harness.2.toList):=by kernel_rfl
theorem querytextPlaces_lk:Rows.querytextPlacesCard.stood.looks=Tryz.pinned.checked.prog.looks []:=by kernel_rfl
theorem querytextPlaces_gb:false=Rows.querytextPlacesRow.goesBy Tryz.pinned.checked.prog:=by kernel_rfl
theorem querytextPlaces_proved:Rows.QuerytextPlacesCardSaid:=
 Claim7.holds_tied_plain_at .later [] [.data,.data,.data,.data,.sentinel,.sentinel,.widerDeep,.pinned] true Rows.querytextPlacesCard.stood.harness Rows.querytextPlacesCard.stood.looks
  querytextPlaces_over (fun _ h=>by cases h) querytextPlaces_wf (fun _ h=>by cases h) querytextPlaces_row_tie rfl ⟨rfl,rfl⟩ querytextPlaces_mn rfl
  (fun f fn hf hfn=>by
    obtain rfl:f=7:=Option.some.inj ((show Tryz.prog.funcNamed "civiltime/civiltimelaw40.QuerytextPlaces" = some 7 by kernel_rfl).symm.trans hf) |>.symm
    obtain rfl:fn=Tryz.f7:=(Option.some.inj (Tryz.func7.symm.trans hfn)).symm
    exact⟨querytextPlaces_lk,fun j t ht=>by
     rw[Tryz.params7]at ht
     have hm:t∈[9]:=by simpa using Array.mem_of_getElem? ht
     have hall:([9].all fun u=>!Tryz.prog.wantsStandIn u)=true:=by kernel_rfl
     exact(show Tryz.prog.wantsStandIn t=false by simpa using List.all_eq_true.1 hall t hm)⟩)
  querytextPlaces_gb
#print axioms querytextPlaces_proved
end Go.Proofs.YtlmeinikknoeeaaGreatDoor
