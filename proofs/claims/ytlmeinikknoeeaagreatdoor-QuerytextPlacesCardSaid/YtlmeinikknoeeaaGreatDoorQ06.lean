/- A region that draws its order, in which a call may end in a panic: walked once. Plain law over any program. -/
import Derived.Test.YtlmeinikknoeeaaGreatDoorQ05
namespace Go.Proofs.YtlmeinikknoeeaaGreatDoor
set_option linter.unusedVariables false
set_option linter.unnecessarySimpa false
set_option linter.unusedSimpArgs false
open Go
def GStepX (P:Program) (md:Region.Mode) (ops:Array Oper) (Q:Exit→Act→World→Prop) (n:Nat) (d:Nat→Option Nat) (R:Nat→Value→World→Prop) (S:Nat→Nat→Prop) (a0:Act) (V:World) (i:Nat):Prop:=
 ∀(a:Act) (w:World),Frm (OthS S i) V w→a.defers=a0.defers→(∀k,(∀j,j<n→d j≠some k)→a.eval (.tmp k)=a0.eval (.tmp k))→(∀j,(gdeps md ops i).contains j=true→R j (evD (d j) a) w)→
  ∀K:Act→World→Prop,(∀v w',R i (nrmD (d i) v) w'→Frm (S i) w w'→K (a.put (d i) v) w')→((ops[i]?).getD default).wp P a w K Q
theorem grow_goX {P:Program} {md:Region.Mode} {ops:Array Oper} {Q:Exit→Act→World→Prop} (n m:Nat) (d:Nat→Option Nat) (R:Nat→Value→World→Prop) (S:Nat→Nat→Prop) (a0:Act) (V:World)
  (hc:growChkO md ops n m d=true) (hst:∀j v w w',j<n→R j v w→Frm (OthS S j) w w'→R j v w') (hinj:∀i j k,i<n→j<n→d i=some k→d j=some k→i=j) (hds:∀i k,i<n→d i=some k→k<a0.tmps.size)
  (hstep:∀i,i<n→GStepX P md ops Q n d R S a0 V i)
  (hend:∀(vals:Nat→Value) (w:World),Frm (AllS S) V w→(∀i,i<n→R i (vals i) w)→wpAny P md ops Q m (Array.replicate n true++Array.replicate m false) (putAllO d vals n a0) w) :
  ∀(c:Nat) (todo:List Nat) (listed:Array Bool) (a:Act) (w:World),todo.length=c→GInvO S md ops n m d R a0 V todo listed a w→wpAny P md ops Q (c+m) listed a w:=by
 simp only[growChkO,Bool.and_eq_true,List.all_eq_true,List.mem_range,List.any_eq_true,decide_eq_true_eq]at hc
 obtain⟨⟨hc1,hc2⟩,hsz⟩:=hc
 intro c
 induction c with
 | zero=>
   intro todo listed a w ht hI
   obtain rfl:todo = []:=List.length_eq_zero_iff.1 ht
   have hl:listed=Array.replicate n true++Array.replicate m false:=by
    apply Array.ext
    ·simp[hI.size]
    ·intro i h1 h2
     have e:listed[i]=listed.getD i true:=by simp[Array.getD,h1]
     rw[e]
     by_cases q:i<n
     ·rw[(hI.mem i q).2 (by simp),Array.getElem_append_left (by simpa using q)]
      simp
     ·rw[Array.getElem_append_right (by simpa using q)]
      simp only[Array.getElem_replicate]
      cases e:listed.getD i true with
      | false=>rfl
      | true=>
        have:=hI.tail i (by omega) e
        rw[hI.size]at h1
        omega
   have ha:a=putAllO d (fun i=>evD (d i) a) n a0:=by
    obtain⟨p1,p2,p3⟩:=putAllO_spec d a a0 hI.asz n hds
    obtain⟨ts,df⟩:=a
    have e1:ts=(putAllO d (fun i=>evD (d i) (⟨ts,df⟩:Act)) n a0).tmps:=by
     apply Array.ext_getElem?
     intro k
     rw[p3 k]
     by_cases q:∃j,j<n∧d j=some k
     ·rw[if_pos q]
     ·rw[if_neg q]
      exact hI.frame k (fun j hj e=>q ⟨j,hj,e⟩)
    have e2:df=(putAllO d (fun i=>evD (d i) (⟨ts,df⟩:Act)) n a0).defers:=by rw[p1];exact hI.dfr
    generalize putAllO d (fun i=>evD (d i) (⟨ts,df⟩:Act)) n a0=b at e1 e2
    obtain⟨bt,bd⟩:=b
    simp only at e1 e2
    rw[e1,e2]
   have hw:=hend (fun i=>evD (d i) a) w (hI.fr.mono (fun k _ ⟨j,_,_,h⟩=>⟨j,h⟩)) (fun i hi=>hI.facts i hi (by simp))
   rw[Nat.zero_add,hl]
   rw[←ha]at hw
   exact hw
 | succ c ih=>
   intro todo listed a w ht hI
   rw[show c+1+m=(c+m)+1 by omega]
   have hLT:∀i,i<n→i<listed.size:=fun i hi=>by rw[hI.size];omega
   refine⟨fun h0=>?_,fun i hi=>?_⟩
   ·exfalso
    obtain⟨i,hi,hmin⟩:=least_of todo (by intro e;rw[e]at ht;cases ht)
    have hin:=hI.lt i hi
    have:i∈Region.ready md ops listed:=by
     rw[mem_ready]
     obtain⟨hdep,hop⟩:=hc1 i hin
     cases ho:ops[i]? with
     | none=>rw[ho]at hop;cases hop
     | some o=>
       refine⟨?_,o,rfl,fun e he hb=>?_⟩
       ·cases e:listed.getD i true with
        | false=>rfl
        | true=>exact absurd hi ((hI.mem i hin).1 e)
       ·have hj:e.on<i:=hdep e.on ((mem_gdeps ho).2 ⟨e,he,hb,rfl⟩)
        have hjn:e.on<n:=by omega
        rw[getD_in (hLT _ hjn) false true]
        exact(hI.mem _ hjn).2 (fun q=>by have:=hmin _ q;omega)
    rw[h0]at this
    cases this
   ·obtain⟨hun,o,ho,hall⟩:=mem_ready.1 hi
    have hio:i<ops.size:=(Array.getElem?_eq_some_iff.1 ho).1
    have hin:i<n:=by
     rcases Nat.lt_or_ge i n with q|q
     ·exact q
     ·exfalso
      obtain⟨x,hx⟩:∃x,x∈todo:=by
       cases todo with
       | nil=>cases ht
       | cons x r=>exact⟨x,by simp⟩
      have hxn:=hI.lt x hx
      obtain⟨k,hk,hr⟩:=hc2 (i-n) (by omega) x hxn
      rw[show n+(i-n)=i by omega]at hk
      obtain⟨e,he,hb,rfl⟩:=(mem_gdeps ho).1 hk
      have h1:=greach_down hI.down _ _ _ hr (hall e he hb)
      rw[getD_in (hLT x hxn) false true]at h1
      exact(hI.mem x hxn).1 h1 hx
    obtain⟨hdep,hop⟩:=hc1 i hin
    rw[ho]at hop
    simp only[Option.map_some,Option.getD_some,Bool.and_eq_true,decide_eq_true_eq,Option.isNone_iff_eq_none]at hop
    obtain⟨hdst,hgd⟩:=hop
    have hit:i∈todo:=Classical.byContradiction fun q=>by
     rw[(hI.mem i hin).2 q]at hun;cases hun
    unfold wpOp
    rw[ho]
    simp only[Region.wanted,hgd,if_true]
    left
    have hs:=hstep i hin a w (hI.fr.mono (fun k _ ⟨j,h1,h2,h3⟩=>⟨j,fun e=>h2 (by rw[e];exact hit),h3⟩)) hI.dfr (fun k hk=>eval_of_get (hI.frame k hk)) (fun j hj=>by
     have hj:j∈gdeps md ops i:=by simpa using hj
     have hjn:j<n:=by have:=hdep j hj;omega
     refine hI.facts j hjn ?_
     obtain⟨e,he,hb,rfl⟩:=(mem_gdeps ho).1 hj
     have h1:=hall e he hb
     rw[getD_in (hLT _ hjn) false true]at h1
     exact(hI.mem _ hjn).1 h1) (wpAny P md ops Q (c+m) (listed.setIfInBounds i true)) (fun v w' hR hF=>?_)
    ·rw[ho]at hs
     exact hs
    ·rw[put_putD]
     refine ih (todo.filter (fun y=>y != i)) _ _ _ ?_ ?_
     ·have h1:todo.filter (fun y=>y != i)=todo.erase i:=by rw[hI.nd.erase_eq_filter]
      rw[h1,List.length_erase_of_mem hit,ht];rfl
     ·have hset:∀j,j≠i→∀b,(listed.setIfInBounds i true).getD j b=listed.getD j b:=fun j hj b=>getD_set_ne b (Ne.symm hj)
      have hsi:∀b,(listed.setIfInBounds i true).getD i b=true:=fun b=>by
       have:=hLT i hin
       simp[Array.getD,this]
      have hget:∀k,(putD (d i) v a).tmps[k]? = if d i=some k then some v else a.tmps[k]? :=fun k=>by
       cases e0:d i with
       | none=>rw[if_neg (by simp)];rfl
       | some kn=>
         have hdi:=hds i kn hin e0
         simp only[putD,Act.put,Array.getElem?_setIfInBounds]
         by_cases e:kn=k
         ·subst e
          simp[hI.asz,hdi]
         ·have e3:¬(some kn:Option Nat)=some k:=fun q=>e (by injection q)
          simp[e,e3]
      have hsz2:(putD (d i) v a).tmps.size=a.tmps.size:=by cases d i<;>simp[putD,Act.put]
      have hdf2:(putD (d i) v a).defers=a.defers:=by cases d i<;>rfl
      refine⟨by simpa using hI.size,?_,hI.nd.filter _,?_,?_,?_,hsz2.trans hI.asz,hdf2.trans hI.dfr,?_,?_,?_⟩
      ·intro j hj h1
       rw[hset j (by omega)]at h1
       exact hI.tail j hj h1
      ·intro j hj;exact hI.lt j (List.mem_filter.1 hj).1
      ·intro j hj
       by_cases e:j=i
       ·subst e
        rw[hsi];simp
       ·rw[hset j e,hI.mem j hj,List.mem_filter]
        simp[e]
      ·intro j hj k hk
       by_cases e:j=i
       ·subst e
        obtain⟨e,he,hb,rfl⟩:=(mem_gdeps ho).1 hk
        exact getD_set_true (hall e he hb)
       ·rw[hset j e]at hj
        exact getD_set_true (hI.down j hj k hk)
      ·intro k hk
       rw[hget,if_neg (hk i hin)]
       exact hI.frame k hk
      ·intro j hj hjt
       by_cases e:j=i
       ·subst e
        have ev:evD (d j) (putD (d j) v a)=nrmD (d j) v:=by
         cases e0:d j with
         | none=>rfl
         | some k=>
           have h1:=hget k
           rw[e0,if_pos rfl]at h1
           simp only[evD,Act.eval,Array.getD_eq_getD_getElem?]
           rw[h1];rfl
        rw[ev];exact hR
       ·have ev:evD (d j) (putD (d i) v a)=evD (d j) a:=by
         cases e0:d j with
         | none=>rfl
         | some k=>
           have h1:=hget k
           rw[if_neg (fun q=>e (hinj i j k hin hj q e0).symm)]at h1
           simp only[evD,Act.eval,Array.getD_eq_getD_getElem?]
           rw[h1]
        rw[ev]
        exact hst _ _ _ _ hj (hI.facts j hj (fun q=>hjt (List.mem_filter.2 ⟨q,by simpa using e⟩))) (hF.mono (fun k _ h=>⟨i,fun q=>e q.symm,h⟩))
      ·refine(hI.fr.mono (fun k _ ⟨j,h1,h2,h3⟩=>⟨j,h1,fun q=>h2 (List.mem_filter.1 q).1,h3⟩)).trans (hF.mono (fun k _ h=>⟨i,hin,fun q=>by simpa using (List.mem_filter.1 q).2,h⟩))
theorem wp_region_growX {P:Program} {id:Nat} {Q:Exit→Act→World→Prop} {a0:Act} {w:World} {l:List Oper} (ds:List (Option Nat)) (Rs:List (Value→World→Prop)) (S:Nat→Nat→Prop) (m:Nat)
  (hm:P.follows .mixedOrders=true) (hc:growChkO .any l.toArray ds.length m (fun i=>ds.getD i none)=true) (hn:injB ds=true) (hz:ds.all (fun x=>x.all fun k=>decide (k<a0.tmps.size))=true)
  (hst:AllIdx (fun i=>∀v w w',Rs.getD i (fun _ _=>True) v w→Frm (OthS S i) w w'→Rs.getD i (fun _ _=>True) v w') 0 ds.length)
  (hstep:AllIdx (GStepX P .any l.toArray Q ds.length (fun i=>ds.getD i none) (fun i=>Rs.getD i (fun _ _=>True)) S a0 w) 0 ds.length)
  (hend:∀(vals:Nat→Value) (w':World),Frm (AllS S) w w'→AllIdx (fun i=>Rs.getD i (fun _ _=>True) (vals i) w') 0 ds.length→wpAny P .any l.toArray Q m (Array.replicate ds.length true++Array.replicate m false) (putG (fun i=>ds.getD i none) vals ds.length 0 a0) w') :
  (Code.region id l.toArray true).wp P Q a0 w:=by
 refine wp_region_any hm ?_
 have hsz:ds.length+m=l.toArray.size:=by
  have:=hc
  simp only[growChkO,Bool.and_eq_true,decide_eq_true_eq]at this
  exact this.2
 rw[←hsz]
 have hall:∀(p:Nat→Prop) (k i:Nat),(∀j,i≤j→j<i+k→p j)→AllIdx p i k:=by
  intro p k
  induction k with
  | zero=>intro i _;trivial
  | succ k ih=>intro i h;exact⟨h i (Nat.le_refl _) (by omega),ih (i+1) (fun j h1 h2=>h j (by omega) (by omega))⟩
 refine grow_goX ds.length m (fun i=>ds.getD i none) (fun i=>Rs.getD i (fun _ _=>True)) S a0 w hc (fun j v w w' hj=>hst.out _ _ j (Nat.zero_le _) (by omega) v w w') ?_ ?_ (fun i hi=>hstep.out _ _ i (Nat.zero_le _) (by omega)) (fun vals w' hE hR=>by rw[putAllO_G];exact hend vals w' hE (hall _ _ _ (fun j _ hj=>hR j (by omega)))) ds.length (List.range ds.length) _ _ _ (by simp) ?_
 ·intro i j k hi hj e1 e2
  unfold injB at hn
  simp only[List.all_eq_true,List.mem_range,Bool.or_eq_true,decide_eq_true_eq]at hn
  rcases hn i hi j hj with(q|q)|q
  ·exact q
  ·rw[show ds.getD i none=some k from e1]at q;cases q
  ·exact absurd (e1.trans e2.symm) q
 ·intro i k hi e
  have h1:=List.all_eq_true.1 hz _ (List.getElem_mem hi)
  have h2:ds[i]=some k:=by simpa [List.getD,hi] using e
  rw[h2]at h1
  exact of_decide_eq_true h1
 ·refine⟨by simp,?_,List.nodup_range,fun i hi=>by simpa using hi,?_,?_,rfl,rfl,fun _ _=>rfl,?_,Frm.of_ext (Ext.refl w).drew⟩
  ·intro i hi h
   rcases Nat.lt_or_ge i (ds.length+m)with q|q
   ·exfalso
    simp[Array.getD,q]at h
   ·exact q
  ·intro i hi
   have:i<ds.length+m:=by omega
   simp[Array.getD,this,hi]
  ·intro i hi
   exfalso
   by_cases q:i<ds.length+m<;>simp[Array.getD,q]at hi
  ·intro i hi hni
   exact absurd (List.mem_range.2 hi) hni
end Go.Proofs.YtlmeinikknoeeaaGreatDoor
namespace Go.Proofs.YtlmeinikknoeeaaGreatDoor
set_option linter.unusedVariables false
set_option linter.unnecessarySimpa false
set_option linter.unusedSimpArgs false
open Go.RowKit
theorem gs_valZ {P:Program} {o:Oper} {Q:Exit→Act→World→Prop} {K:Act→World→Prop} {a:Act} {w:World} {v:Value} {dd:Nat} (hd:o.dst=some dd) (hrun:(execOp a.eval o).run P w = .ok (.value v) w) (h:K (a.put (some dd) v) w):o.wp P a w K Q:=by
 unfold Oper.wp
 rw[hrun]
 show K (a.put o.dst v) w
 rw[hd];exact h
theorem yr_moveZ {P:Program} {o:Oper} {a:Act} {w:World} {x:Operand} {u:Value} (hop:o.op = .move x) (hx:a.eval x=u):(execOp a.eval o).run P w = .ok (.value u) w:=by
 unfold execOp;simp[hop,hx,Result.andThen]
theorem yr_loadZ {P:Program} {o:Oper} {a:Act} {w:World} {t:TypeId} {x:Operand} {u v:Value} (hop:o.op = .load t x) (hx:a.eval x=u) (hrun:(Instr.loadAt t u).run P w = .ok v w):(execOp a.eval o).run P w = .ok (.value v) w:=by
 unfold execOp;simp[hop,hx,hrun,Result.andThen]
theorem yr_fieldZ {P:Program} {o:Oper} {a:Act} {w:World} {s:TypeId} {x:Operand} {f:Nat} {u v:Value} (hop:o.op = .fieldAddr s x f) (hx:a.eval x=u) (hrun:(Instr.fieldAt s u f).run P w = .ok v w):(execOp a.eval o).run P w = .ok (.value v) w:=by
 unfold execOp;simp[hop,hx,hrun,Result.andThen]
theorem yr_nilZ {P:Program} {o:Oper} {a:Act} {w:World} {x:Operand} {b:Addr} (hop:o.op = .nilCheck x) (hx:a.eval x = .pointer (some b)):(execOp a.eval o).run P w = .ok (.value (.pointer (some b))) w:=by
 unfold execOp;simp[hop,hx,Result.andThen]
theorem yr_lookZ {P:Program} {o:Oper} {a:Act} {w:World} {t:TypeId} {x y:Operand} {k:Bool} {u z v:Value} (hop:o.op = .lookup t x y k) (hx:a.eval x=u) (hy:a.eval y=z) (hrun:(Instr.lookup t u z k).run P w = .ok v w):(execOp a.eval o).run P w = .ok (.value v) w:=by
 unfold execOp;simp[hop,hx,hy,hrun,Result.andThen]
theorem yr_callZ {P:Program} {o:Oper} {a:Act} {w:World} {C:Callee} {xs:Array Operand} {ts:Array TypeId} {f:FuncId} {args:Array Value} (hop:o.op = .call ⟨C,xs,ts⟩) (hc:C = .value (.func f)) (hx:xs.map a.eval=args) (hf:(callFunc f args).run P w = .ok (.enter f args) w):(execOp a.eval o).run P w = .ok (.enter f args) w:=by
 subst hc
 subst hx
 unfold execOp
 simp[hop,resolve,Deferred.ofValue,invoke,Act.eval,go_sem,hf]
theorem fr_ofOZ {ds:List (Option Nat)} {k:Nat} (h:ds.contains (some k)=false):∀j,j<ds.length→ds.getD j none≠some k:=by
 intro j hj e
 have:ds[j]=some k:=by simpa [List.getD,hj] using e
 have h2:some k∉ds:=by simpa using h
 exact h2 (this▸List.getElem_mem _)
theorem wpAny_opZ {P:Program} {md:Region.Mode} {ops:Array Oper} {Q:Exit→Act→World→Prop} {fuel i:Nat} {listed:Array Bool} {a:Act} {w:World} {o:Oper} (hr:Region.ready md ops listed = [i]) (ho:ops[i]? = some o)
  (hw:Region.wanted o (yielded ops a.tmps)=true) (h:o.wp P a w (fun a' w'=>wpAny P md ops Q fuel (listed.setIfInBounds i true) a' w') Q):wpAny P md ops Q (fuel+1) listed a w:=by
 refine wpAny_all hr (by simp) (fun j hj=>?_)
 obtain rfl:j=i:=by simpa using hj
 unfold wpOp
 simp only[ho,hw,if_true]
 left
 exact h
theorem yr_bsnZ {P:Program} {o:Oper} {a:Act} {w w':World} {t:TypeId} {n:Nat} {es:Array (Nat×Operand)} {us:Array (Nat×Value)} {v:Value} (hop:o.op = .buildSlice t n es) (hx:es.map (fun e=>(e.1,a.eval e.2))=us) (hrun:(Instr.buildSlice t n us).run P w = .ok v w'):(execOp a.eval o).run P w = .ok (.value v) w':=by
 subst hx
 unfold execOp;simp only[hop]
 simp only[Sem.run_bind]
 erw [hrun]
 rfl
theorem gs_storeOZ {P:Program} {o:Oper} {Q:Exit→Act→World→Prop} {K:Act→World→Prop} {a:Act} {w w':World} {t:TypeId} {x y:Operand} {p u:Value} (hd:o.dst=none) (hop:o.op = .store t x y) (hx:a.eval x=p) (hy:a.eval y=u) (hrun:(Instr.storeAt t p u).run P w = .ok () w') (h:K (a.put none undef) w'):o.wp P a w K Q:=by
 unfold Oper.wp
 unfold execOp
 simp only[hop,hx,hy]
 simp only[Sem.run_bind,hrun,Result.andThen]
 show K (a.put o.dst undef) w'
 rw[hd];exact h
theorem gs_mkEZ {P:Program} {o:Oper} {Q:Exit→Act→World→Prop} {K:Act→World→Prop} {a:Act} {w w':World} {v:Value} {dd:Nat} (hd:o.dst=some dd) (hrun:(execOp a.eval o).run P w = .ok (.value v) w') (h:K (a.put (some dd) v) w'):o.wp P a w K Q:=by
 unfold Oper.wp
 rw[hrun]
 show K (a.put o.dst v) w'
 rw[hd];exact h
theorem yr_assignZ {P:Program} {o:Oper} {a:Act} {w:World} {x:Operand} {u:Value} (hop:o.op = .assign x) (hx:a.eval x=u):(execOp a.eval o).run P w = .ok (.value u) w:=by
 unfold execOp;simp[hop,hx,Result.andThen]
theorem yr_bs1Z {P:Program} {o:Oper} {a:Act} {w w':World} {t:TypeId} {x:Operand} {u v:Value} (hop:o.op = .buildSlice t 1 #[(0,x)]) (hx:a.eval x=u) (hrun:(Instr.buildSlice t 1 #[(0,u)]).run P w = .ok v w'):(execOp a.eval o).run P w = .ok (.value v) w':=by
 subst hx
 unfold execOp;simp only[hop]
 simp only[Sem.run_bind,List.map_toArray,List.map_cons,List.map_nil,hrun,Result.andThen]
 rfl
theorem yr_bld2Z {P:Program} {o:Oper} {a:Act} {w w':World} {t:TypeId} {i j:Nat} {x y:Operand} {u v r:Value} (hop:o.op = .build t #[(i,x),(j,y)]) (hx:a.eval x=u) (hy:a.eval y=v) (hrun:(Instr.build t #[(i,u),(j,v)]).run P w = .ok r w'):(execOp a.eval o).run P w = .ok (.value r) w':=by
 unfold execOp;simp[hop,hx,hy,hrun,Result.andThen]
theorem fr_ofZ {ds:List Nat} {k:Nat} (h:ds.contains k=false):∀j,j<ds.length→ds.getD j 0≠k:=by
 intro j hj e
 have:ds[j]=k:=by simpa [List.getD,hj] using e
 have h2:k∉ds:=by simpa using h
 exact h2 (this▸List.getElem_mem _)
theorem yr_pickZ {P:Program} {o:Oper} {a:Act} {w:World} {c x y:Operand} {b:Bool} {u:Value} (hop:o.op = .pick c x y) (hc:a.eval c = .bool b) (hx:a.eval (if b then x else y)=u):(execOp a.eval o).run P w = .ok (.value u) w:=by
 unfold execOp
 simp only[hop,hc]
 cases b
 ·have hx:a.eval y=u:=hx
  rw[hx];rfl
 ·have hx:a.eval x=u:=hx
  rw[hx];rfl
theorem yr_eqiZ {o:Oper} {a:Act} {w:World} {x y:Operand} {t2:TypeId} {A B:Int} {b:Bool} (hop:o.op = .binOp .eql 3 x y t2) (hx:a.eval x = .int .i64 A) (hy:a.eval y = .int .i64 B) (hb:(A==B)=b):(execOp a.eval o).run Tryz.prog w = .ok (.value (.bool b)) w:=by
 unfold execOp
 simp only[hop,hx,hy]
 simp[Result.andThen,go_sem,eqGuard,hb]
theorem yr_neiZ {o:Oper} {a:Act} {w:World} {x y:Operand} {t2:TypeId} {A B:Int} {b:Bool} (hop:o.op = .binOp .neq 3 x y t2) (hx:a.eval x = .int .i64 A) (hy:a.eval y = .int .i64 B) (hb:(A != B)=b):(execOp a.eval o).run Tryz.prog w = .ok (.value (.bool b)) w:=by
 unfold execOp
 simp only[hop,hx,hy]
 simp[Result.andThen,go_sem,eqGuard,hb]
theorem gs_callZ {P:Program} {o:Oper} {Q:Exit→Act→World→Prop} {K:Act→World→Prop} {a:Act} {w:World} {dd:Nat} {f:FuncId} {args:Array Value} {R:Ending→World→Prop} (hd:o.dst=some dd) (hrun:(execOp a.eval o).run P w = .ok (.enter f args) w)
  (hC:Calls P f args w R) (h:∀e w',R e w'→(∃v,e = .returned v∧K (a.put (some dd) v) w')∨(∃ch,e = .panicked ch∧Q (.panic ch) a w')):o.wp P a w K Q:=by
 unfold Oper.wp
 rw[hrun,Oper.upon_enter,hd]
 refine hC.mono fun e w' hR=>?_
 rcases h e w' hR with⟨v,rfl,hk⟩|⟨ch,rfl,hq⟩
 ·exact hk
 ·exact hq
theorem yr_callvZ {P:Program} {o:Oper} {a:Act} {w:World} {x:Operand} {ts:Array TypeId} {f:FuncId} {caps:Array Value} (hop:o.op = .call ⟨.value x,#[],ts⟩) (hv:a.eval x = .func (.func f) #[] caps) (hf:(callFunc f caps).run P w = .ok (.enter f caps) w):(execOp a.eval o).run P w = .ok (.enter f caps) w:=by
 generalize a.eval=r at hv ⊢
 unfold execOp
 simp[hop,resolve,Deferred.ofValue,invoke,hv,go_sem,hf]
end Go.Proofs.YtlmeinikknoeeaaGreatDoor
