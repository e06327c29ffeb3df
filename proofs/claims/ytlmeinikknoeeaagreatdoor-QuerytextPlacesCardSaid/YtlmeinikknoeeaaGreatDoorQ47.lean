/- Queries: QuerytextPlaces at whatever bytes. -/
import Derived.Test.YtlmeinikknoeeaaGreatDoorQ46
import Derived.Test.YtlmeinikknoeeaaGreatDoorQ02
import Derived.Test.YtlmeinikknoeeaaGreatDoorQ00
import Derived.Test.YtlmeinikknoeeaaGreatDoorRows
import Derived.Lib.LaidU8
import Derived.SliceStrings
import Derived.ProofKit
import Derived.OpenShut
import Derived.LaidMore
import Derived.Lay
import Derived.HandedShaped
import Derived.Shelf.Vars
import Derived.Stop.Joined
namespace Go.Proofs.YtlmeinikknoeeaaGreatDoor
open Go.RowKit
theorem places40_walk (b:ByteArray) (w:World) (hr:RsvB w.heap.size w) (hm:LmO w) :
  Calls Tryz.prog 7 #[.string b] w fun e w'=>e = .returned (.bool true)∧Ext w w':=by
 have e1:(⟨b.data.toList.toArray⟩:ByteArray)=b:=by simp
 have h:=places_c b.data.toList w hr hm
 rw[e1]at h
 exact h
end Go.Proofs.YtlmeinikknoeeaaGreatDoor
namespace Go.Proofs.YtlmeinikknoeeaaGreatDoor
open Go.ChangeShapes Go.WideShapes Go.ChangeAt Go.WideMaps Go.WideElems Go.RowKit
section
variable {H:Type} {enc:TypeId×Value→H}
theorem returnsIn_shaped_and {a:Assume} {C:Checked} {os:Os} {f:FuncId} {fn:Func} {s:ChangeSpec} {conds:List PathCond} {apart fresh handsOn again:Bool} {X:World→Array Value→Prop}
  (hX:∀(w w':World) (args:Array Value),w.heap=w'.heap→X w args→X w' args)
  (own:ownKnob C.prog.godebug=none) (started:os.Started) (noInit:C.prog.inits.idxOf? f=none) (hfn:C.prog.funcs[f]? = some fn)
  (witness:∃(w:World) (tape:Tape) (i:Input),w.os=os∧(w.forCall tape i).Shaped C.prog∧i.vars = []∧Input.okWide C.prog (w.forCall tape i) .any w.heap.size f i∧
    ((s.pre enc C.prog fn conds apart (w.forCall tape i).memory i.args∧X (w.forCall tape i).memory i.args)∧sizedMet enc C.prog fn (OpenSpec.ofChange s) apart (w.forCall tape i).memory i.args)∧a.holds C.prog (lone (Frame.enter C.prog f i.args .normal) [] (w.forCall tape i)))
  (contract:∀(W:World) (base:Nat) (args:Array Value) (ds gs:List (DataW H)) (before:List MemPlace),
    (∀(j:Nat) t v,fn.params[j]? = some t→args[j]? = some v→Value.okWide C.prog W .any base t v)→
    DataW.Whole enc C.prog fn.params.toList s.vars apart W args.toList ds gs before→
    conds.all (PathCond.test C.prog ⟨fn.params.toList,ds,s.plain.varTypes C.prog,gs⟩)=true→
    (DataW.weightsEach C.prog (fn.params.toList++s.plain.varTypes C.prog) (ds++gs)).all (· ≤reachBytes)=true→X W args→
    W.ShapedOpen C.prog→
    Calls C.prog f args W fun e W'=>∃v,e = .returned v∧s.post enc C.prog fn apart fresh handsOn again W args v W') :
  ReturnsInHanded a C os f .any (fun w args=>(s.pre enc C.prog fn conds apart w args∧X w args)∧sizedMet enc C.prog fn (OpenSpec.ofChange s) apart w args) (s.post enc C.prog fn apart fresh handsOn again):=by
 refine returnsInHanded_of_calls own started noInit witness ?_
 intro w tape i _ hsh _ hok hpre hholds
 obtain⟨_,_,_,fn',hfn',_,_,_,_,hval⟩:=hok
 have e:fn'=fn:=Option.some.inj (hfn'.symm.trans hfn)
 subst e
 obtain⟨⟨⟨ds,gs,before,hw,hc⟩,hx⟩,hz⟩:=hpre
 have hw':=DataW.Whole.of_heap (w':=w.forCall tape i) (by rfl) hw
 refine(contract (w.forCall tape i) w.heap.size i.args ds gs before hval hw' hc (hz.weights hw) (hX _ _ _ (by rfl) hx) hsh).mono fun e W' ⟨v,he,hp⟩=>?_
 subst he
 exact ChangeSpec.post_blind hp
end
theorem own:ownKnob Tryz.prog.godebug=none:=by kernel_rfl
theorem laidOut:laidOutB Tryz.prog=true:=by kernel_rfl
theorem rsv_strs:(Rows.laid_civiltime_querytext_reserved:DataW Unit) = .slice (rsvW.map fun s=>.lit (.string s)) []:=by kernel_rfl
theorem rsvB_of_laid {W:World} {l:List (String×DataW Unit)} (hm:("civiltime/querytext.reserved",(Rows.laid_civiltime_querytext_reserved:DataW Unit))∈l) (hp:(l.all fun x=>x.2.handleName?.isNone)=true) (h:laidMetH Tryz.prog l W):RsvB W.heap.size W:=by
 rw[MakeChecks.laidMetH_plain _ _ _ hp]at h
 obtain⟨g,t,cs,fuel,p,h1,h2,h3,h4⟩:=Lib.laidMet.reads h hm
 have hg:Tryz.prog.globalNamed "civiltime/querytext.reserved" = some 1:=by kernel_rfl
 obtain rfl:=Option.some.inj (hg.symm.trans h1)
 obtain rfl:=Option.some.inj ((show(Tryz.prog.globals[1]?).map (·.type)=some 22 by kernel_rfl).symm.trans h2)
 rw[rsv_strs]at h4
 have hv:∃tt fr,W.heap[1]? = some (.cells cs tt fr):=by
  unfold World.var? at h3
  rw[hg]at h3
  simp only[Option.bind_some]at h3
  split at h3
  ·rename_i c t f hq
   cases h3
   exact⟨_,_,hq⟩
  ·cases h3
 obtain⟨tt,fr,hv⟩:=hv
 rcases open_strings Tryz.underlying22 Tryz.underlying9 (by kernel_rfl) h4 with⟨_,hx⟩|⟨a,len,cap,ss,hcs,hb,hl,hmx,hsl,hx,hcell,_⟩
 ·cases hx
 rw[if_pos rfl]at hsl
 simp only[Prod.mk.injEq,DataW.slice.injEq]at hx
 obtain⟨⟨hx1,hx2⟩,_⟩:=hx
 have hz:(ss.drop len).length=0:=by
  have:=congrArg List.length hx2
  simpa [strs] using this.symm
 rw[List.length_drop]at hz
 have hlc:len=cap:=by omega
 subst hlc
 rw[List.take_of_length_le (by omega)]at hx1
 have hL:ss.length=24:=by
  have:=congrArg List.length hx1
  simpa [strs,rsvW] using this.symm
 have hl24:len=24:=by omega
 subst hl24
 have hspot:a.spot=none:=by
  have h0:=hcell 0 (by omega)
  have e0:a.add 0=a:=by simp[Addr.add]
  rw[e0]at h0
  unfold World.cell? at h0
  split at h0
  ·split at h0
   ·cases h0
   ·rename_i hq;simpa using hq
  ·cases h0
 obtain⟨R,off,sp⟩:=a
 obtain rfl:sp=none:=hspot
 have hgc:W.cell? ⟨1,0,none⟩=some (.slice (some ⟨R,off,none⟩) 24 24):=by
  unfold World.cell?
  simp only[hv]
  rw[if_neg (by simp)]
  rw[←Array.getElem?_toList,hcs]
  rfl
 have hgl:1<W.heap.size:=World.block_lt_of_cell? _ _ hgc
 have hc0:=hcell 0 (by omega)
 have hR:R<W.heap.size:=World.block_lt_of_cell? W (Addr.add ⟨R,off,none⟩ 0) hc0
 refine⟨R,off,hgc,⟨hR,fun i hi=>?_⟩,hgl,hR,hgl⟩
 have hi2:i<ss.length:=by rw[hL];exact hi
 have hci:=hcell i hi2
 have ea:Addr.add ⟨R,off,none⟩ i=⟨R,off+i,none⟩:=by
  unfold Addr.add
  split
  ·rename_i h;subst h;rfl
  ·rfl
 rw[ea]at hci
 rw[hci]
 have hx3:=congrArg (fun l=>l[i]?) hx1
 simp only[strs,List.getElem?_map]at hx3
 rw[List.getElem?_eq_getElem hi,List.getElem?_eq_getElem hi2]at hx3
 simp only[Option.map_some,Option.some.injEq,DataW.lit.injEq,Lit.string.injEq]at hx3
 rw[List.getD_eq_getElem?_getD,List.getElem?_eq_getElem hi2]
 simp only[Option.getD_some]
 rw[hx3]
end Go.Proofs.YtlmeinikknoeeaaGreatDoor
namespace Go.Proofs.YtlmeinikknoeeaaGreatDoor
open Go.ChangeShapes Go.WideShapes Go.ChangeAt Go.RowKit
end Go.Proofs.YtlmeinikknoeeaaGreatDoor
