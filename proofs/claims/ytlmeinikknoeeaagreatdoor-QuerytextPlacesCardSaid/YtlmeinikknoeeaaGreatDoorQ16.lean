/- A region that draws its order, whose operations read, or make memory by calls, some of them behind guards that all hold: walked once. Plain law over any program. -/
import Derived.Test.YtlmeinikknoeeaaGreatDoorQ05
namespace Go.Proofs.YtlmeinikknoeeaaGreatDoor
set_option linter.unusedVariables false
set_option linter.unnecessarySimpa false
set_option linter.unusedSimpArgs false
open Go
def growChkG (md:Region.Mode) (ops:Array Oper) (n m:Nat) (d:Nat→Nat):Bool:=
 (List.range n).all (fun i=>(gdeps md ops i).all (fun j=>decide (j<i))&&((ops[i]?).map fun o=>decide (o.dst=some (d i))&&(match o.guard with|none=>true|some g=>(gdeps md ops i).contains g.1)).getD false) &&
 (List.range m).all (fun t=>(List.range n).all fun j=>(gdeps md ops (n+t)).any fun k=>greach md ops n k j)&&decide (n+m=ops.size)
def GuardOk (ops:Array Oper) (R:Nat→Value→World→Prop) (i:Nat):Prop:=∀j b,((ops[i]?).bind (·.guard))=some (j,b)→∀v w,R j v w→v = .bool b
theorem grow_goG {P:Program} {md:Region.Mode} {ops:Array Oper} {Q:Exit→Act→World→Prop} (n m:Nat) (d:Nat→Nat) (R:Nat→Value→World→Prop) (a0:Act) (V:World)
  (hc:growChkG md ops n m d=true) (hst:∀i v w w',R i v w→Ext w w'→R i v w') (hinj:∀i j,i<n→j<n→d i=d j→i=j) (hds:∀i,i<n→d i<a0.tmps.size)
  (hgu:∀i,i<n→GuardOk ops R i)
  (hstep:∀i,i<n→GStep P md ops Q n d R a0 V i)
  (hend:∀(vals:Nat→Value) (w:World),Ext V w→(∀i,i<n→R i (vals i) w)→wpAny P md ops Q m (Array.replicate n true++Array.replicate m false) (putAll d vals n a0) w) :
  ∀(c:Nat) (todo:List Nat) (listed:Array Bool) (a:Act) (w:World),todo.length=c→GInv md ops n m d R a0 V todo listed a w→wpAny P md ops Q (c+m) listed a w:=by
 simp only[growChkG,Bool.and_eq_true,List.all_eq_true,List.mem_range,List.any_eq_true,decide_eq_true_eq]at hc
 obtain⟨⟨hc1,hc2⟩,hsz⟩:=hc
 intro c
 induction c with
 | zero=>
   intro todo listed a w ht hI
   obtain rfl:todo = []:=List.length_eq_zero_iff.1 ht
   have hl:listed=Array.replicate n true++Array.replicate m false:=by
    apply Array.ext
    ·simp[hI.size]
    ·intro i h1 h2
     have e:listed[i]=listed.getD i true:=by simp[Array.getD,h1]
     rw[e]
     by_cases q:i<n
     ·rw[(hI.mem i q).2 (by simp),Array.getElem_append_left (by simpa using q)]
      simp
     ·rw[Array.getElem_append_right (by simpa using q)]
      simp only[Array.getElem_replicate]
      cases e:listed.getD i true with
      | false=>rfl
      | true=>
        have:=hI.tail i (by omega) e
        rw[hI.size]at h1
        omega
   have ha:a=putAll d (fun i=>a.eval (.tmp (d i))) n a0:=by
    obtain⟨p1,p2,p3⟩:=putAll_spec d a a0 hI.asz n hds
    obtain⟨ts,df⟩:=a
    have e1:ts=(putAll d (fun i=>(⟨ts,df⟩:Act).eval (.tmp (d i))) n a0).tmps:=by
     apply Array.ext_getElem?
     intro k
     rw[p3 k]
     by_cases q:∃j,j<n∧d j=k
     ·rw[if_pos q]
     ·rw[if_neg q]
      exact hI.frame k (fun j hj e=>q ⟨j,hj,e⟩)
    have e2:df=(putAll d (fun i=>(⟨ts,df⟩:Act).eval (.tmp (d i))) n a0).defers:=by rw[p1];exact hI.dfr
    generalize putAll d (fun i=>(⟨ts,df⟩:Act).eval (.tmp (d i))) n a0=b at e1 e2
    obtain⟨bt,bd⟩:=b
    simp only at e1 e2
    rw[e1,e2]
   have hw:=hend (fun i=>a.eval (.tmp (d i))) w hI.ext (fun i hi=>hI.facts i hi (by simp))
   rw[Nat.zero_add,hl]
   rw[←ha]at hw
   exact hw
 | succ c ih=>
   intro todo listed a w ht hI
   rw[show c+1+m=(c+m)+1 by omega]
   have hLT:∀i,i<n→i<listed.size:=fun i hi=>by rw[hI.size];omega
   refine⟨fun h0=>?_,fun i hi=>?_⟩
   ·exfalso
    obtain⟨i,hi,hmin⟩:=least_of todo (by intro e;rw[e]at ht;cases ht)
    have hin:=hI.lt i hi
    have:i∈Region.ready md ops listed:=by
     rw[mem_ready]
     obtain⟨hdep,hop⟩:=hc1 i hin
     cases ho:ops[i]? with
     | none=>rw[ho]at hop;cases hop
     | some o=>
       refine⟨?_,o,rfl,fun e he hb=>?_⟩
       ·cases e:listed.getD i true with
        | false=>rfl
        | true=>exact absurd hi ((hI.mem i hin).1 e)
       ·have hj:e.on<i:=hdep e.on ((mem_gdeps ho).2 ⟨e,he,hb,rfl⟩)
        have hjn:e.on<n:=by omega
        rw[getD_in (hLT _ hjn) false true]
        exact(hI.mem _ hjn).2 (fun q=>by have:=hmin _ q;omega)
    rw[h0]at this
    cases this
   ·obtain⟨hun,o,ho,hall⟩:=mem_ready.1 hi
    have hio:i<ops.size:=(Array.getElem?_eq_some_iff.1 ho).1
    have hin:i<n:=by
     rcases Nat.lt_or_ge i n with q|q
     ·exact q
     ·exfalso
      obtain⟨x,hx⟩:∃x,x∈todo:=by
       cases todo with
       | nil=>cases ht
       | cons x r=>exact⟨x,by simp⟩
      have hxn:=hI.lt x hx
      obtain⟨k,hk,hr⟩:=hc2 (i-n) (by omega) x hxn
      rw[show n+(i-n)=i by omega]at hk
      obtain⟨e,he,hb,rfl⟩:=(mem_gdeps ho).1 hk
      have h1:=greach_down hI.down _ _ _ hr (hall e he hb)
      rw[getD_in (hLT x hxn) false true]at h1
      exact(hI.mem x hxn).1 h1 hx
    obtain⟨hdep,hop⟩:=hc1 i hin
    rw[ho]at hop
    simp only[Option.map_some,Option.getD_some,Bool.and_eq_true,decide_eq_true_eq]at hop
    obtain⟨hdst,hgd⟩:=hop
    have hfacts:∀j,j∈gdeps md ops i→R j (a.eval (.tmp (d j))) w:=fun j hj=>by
     have hjn:j<n:=by have:=hdep j hj;omega
     refine hI.facts j hjn ?_
     obtain⟨e,he,hb,rfl⟩:=(mem_gdeps ho).1 hj
     have h1:=hall e he hb
     rw[getD_in (hLT _ hjn) false true]at h1
     exact(hI.mem _ hjn).1 h1
    have hwant:Region.wanted o (yielded ops a.tmps)=true:=by
     cases hgq:o.guard with
     | none=>simp[Region.wanted,hgq]
     | some g=>
       obtain⟨j,b⟩:=g
       rw[hgq]at hgd
       have hj:j∈gdeps md ops i:=by simpa using hgd
       have hjn:j<n:=by have:=hdep j hj;omega
       have hv:=hgu i hin j b (by rw[ho];exact hgq) _ _ (hfacts j hj)
       obtain⟨_,hopj⟩:=hc1 j hjn
       cases hoj:ops[j]? with
       | none=>rw[hoj]at hopj;cases hopj
       | some oj=>
         rw[hoj]at hopj
         simp only[Option.map_some,Option.getD_some,Bool.and_eq_true,decide_eq_true_eq]at hopj
         have hdj:d j<a.tmps.size:=by rw[hI.asz];exact hds j hjn
         have hy:yielded ops a.tmps j=some b:=by
          unfold yielded
          rw[hoj]
          simp only[Option.bind_some,hopj.1]
          have:a.tmps[d j]? = some (.bool b):=by
           rw[←hv];simp[Act.eval,hdj]
          rw[this]
         simp[Region.wanted,hgq,hy]
    have hit:i∈todo:=Classical.byContradiction fun q=>by
     rw[(hI.mem i hin).2 q]at hun;cases hun
    unfold wpOp
    rw[ho]
    simp only[hwant,if_true]
    left
    have hs:=hstep i hin a w hI.ext (fun k hk=>eval_of_get (hI.frame k hk)) (fun j hj=>by
     have hj:j∈gdeps md ops i:=by simpa using hj
     have hjn:j<n:=by have:=hdep j hj;omega
     refine hI.facts j hjn ?_
     obtain⟨e,he,hb,rfl⟩:=(mem_gdeps ho).1 hj
     have h1:=hall e he hb
     rw[getD_in (hLT _ hjn) false true]at h1
     exact(hI.mem _ hjn).1 h1) (wpAny P md ops Q (c+m) (listed.setIfInBounds i true)) (fun v w' hR hE=>?_)
    ·rw[ho]at hs
     exact hs
    ·refine ih (todo.filter (fun y=>y != i)) _ _ _ ?_ ?_
     ·have h1:todo.filter (fun y=>y != i)=todo.erase i:=by rw[hI.nd.erase_eq_filter]
      rw[h1,List.length_erase_of_mem hit,ht];rfl
     ·have hset:∀j,j≠i→∀b,(listed.setIfInBounds i true).getD j b=listed.getD j b:=fun j hj b=>getD_set_ne b (Ne.symm hj)
      have hsi:∀b,(listed.setIfInBounds i true).getD i b=true:=fun b=>by
       have:=hLT i hin
       simp[Array.getD,this]
      have hdi:=hds i hin
      have hget:∀k,(a.put (some (d i)) v).tmps[k]? = if d i=k then some v else a.tmps[k]? :=fun k=>by
       simp only[Act.put,Array.getElem?_setIfInBounds]
       by_cases e:d i=k
       ·rw[if_pos e,if_pos e,if_pos (by rw[hI.asz];exact hdi)]
       ·rw[if_neg e,if_neg e]
      refine⟨by simpa using hI.size,?_,hI.nd.filter _,?_,?_,?_,by simpa [Act.put] using hI.asz,hI.dfr,?_,?_,hI.ext.trans hE⟩
      ·intro j hj h1
       rw[hset j (by omega)]at h1
       exact hI.tail j hj h1
      ·intro j hj;exact hI.lt j (List.mem_filter.1 hj).1
      ·intro j hj
       by_cases e:j=i
       ·subst e
        rw[hsi];simp
       ·rw[hset j e,hI.mem j hj,List.mem_filter]
        simp[e]
      ·intro j hj k hk
       by_cases e:j=i
       ·subst e
        obtain⟨e,he,hb,rfl⟩:=(mem_gdeps ho).1 hk
        exact getD_set_true (hall e he hb)
       ·rw[hset j e]at hj
        exact getD_set_true (hI.down j hj k hk)
      ·intro k hk
       rw[hget,if_neg (hk i hin)]
       exact hI.frame k hk
      ·intro j hj hjt
       have ev:(a.put (some (d i)) v).eval (.tmp (d j))=if j=i then v else a.eval (.tmp (d j)):=by
        simp only[Act.eval,Array.getD_eq_getD_getElem?,hget]
        by_cases e:j=i
        ·rw[if_pos e,if_pos (by rw[e])];rfl
        ·rw[if_neg e,if_neg (fun q=>e (hinj i j hin hj q).symm)]
       rw[ev]
       by_cases e:j=i
       ·rw[if_pos e,e];exact hR
       ·rw[if_neg e]
        exact hst _ _ _ _ (hI.facts j hj (fun q=>hjt (List.mem_filter.2 ⟨q,by simpa using e⟩))) hE
theorem wp_region_growG {P:Program} {id:Nat} {Q:Exit→Act→World→Prop} {a0:Act} {w:World} {l:List Oper} (ds:List Nat) (Rs:List (Value→World→Prop)) (m:Nat)
  (hm:P.follows .mixedOrders=true) (hc:growChkG .any l.toArray ds.length m (fun i=>ds.getD i 0)=true) (hn:nodupB ds=true) (hz:ds.all (fun x=>decide (x<a0.tmps.size))=true)
  (hst:∀R∈Rs,∀v w w',R v w→Ext w w'→R v w')
  (hgu:AllIdx (GuardOk l.toArray (fun i=>Rs.getD i (fun _ _=>True))) 0 ds.length)
  (hstep:AllIdx (GStep P .any l.toArray Q ds.length (fun i=>ds.getD i 0) (fun i=>Rs.getD i (fun _ _=>True)) a0 w) 0 ds.length)
  (hend:∀(vals:Nat→Value) (w':World),Ext w w'→AllIdx (fun i=>Rs.getD i (fun _ _=>True) (vals i) w') 0 ds.length→wpAny P .any l.toArray Q m (Array.replicate ds.length true++Array.replicate m false) (putF (fun i=>ds.getD i 0) vals ds.length 0 a0) w') :
  (Code.region id l.toArray true).wp P Q a0 w:=by
 refine wp_region_any hm ?_
 have hsz:ds.length+m=l.toArray.size:=by
  have:=hc
  simp only[growChkG,Bool.and_eq_true,decide_eq_true_eq]at this
  exact this.2
 rw[←hsz]
 have hall:∀(p:Nat→Prop) (k i:Nat),(∀j,i≤j→j<i+k→p j)→AllIdx p i k:=by
  intro p k
  induction k with
  | zero=>intro i _;trivial
  | succ k ih=>intro i h;exact⟨h i (Nat.le_refl _) (by omega),ih (i+1) (fun j h1 h2=>h j (by omega) (by omega))⟩
 refine grow_goG ds.length m (fun i=>ds.getD i 0) (fun i=>Rs.getD i (fun _ _=>True)) a0 w hc ?_ (fun i j hi hj e=>nodupB_inj ds hn i j hi hj e) ?_ (fun i hi=>hgu.out _ _ i (Nat.zero_le _) (by omega)) (fun i hi=>hstep.out _ _ i (Nat.zero_le _) (by omega)) (fun vals w' hE hR=>by rw[putAll_F];exact hend vals w' hE (hall _ _ _ (fun j _ hj=>hR j (by omega)))) ds.length (List.range ds.length) _ _ _ (by simp) ?_
 ·intro i v w w' h hE
  simp only[List.getD]at h ⊢
  cases e:Rs[i]? with
  | none=>trivial
  | some R=>
    rw[e]at h
    exact hst R (List.mem_of_getElem? e) v w w' h hE
 ·intro i hi
  have:=List.all_eq_true.1 hz _ (List.getElem_mem hi)
  simpa [List.getD,hi] using this
 ·refine⟨by simp,?_,List.nodup_range,fun i hi=>by simpa using hi,?_,?_,rfl,rfl,fun _ _=>rfl,?_,(Ext.refl w).drew⟩
  ·intro i hi h
   rcases Nat.lt_or_ge i (ds.length+m)with q|q
   ·exfalso
    simp[Array.getD,q]at h
   ·exact q
  ·intro i hi
   have:i<ds.length+m:=by omega
   simp[Array.getD,this,hi]
  ·intro i hi
   exfalso
   by_cases q:i<ds.length+m<;>simp[Array.getD,q]at hi
  ·intro i hi hni
   exact absurd (List.mem_range.2 hi) hni
end Go.Proofs.YtlmeinikknoeeaaGreatDoor
namespace Go.Proofs.YtlmeinikknoeeaaGreatDoor
set_option linter.unusedVariables false
set_option linter.unnecessarySimpa false
set_option linter.unusedSimpArgs false
open Go
def GuardNo (ops:Array Oper) (R:Nat→Value→World→Prop) (i:Nat):Prop:=∃j b,((ops[i]?).bind (·.guard))=some (j,b)∧(∀v w,R j v w→v = .bool (!b)∨v=undef)∧∀w,R i undef w
def GuStp (P:Program) (md:Region.Mode) (ops:Array Oper) (Q:Exit→Act→World→Prop) (n:Nat) (d:Nat→Nat) (R:Nat→Value→World→Prop) (a0:Act) (V:World) (i:Nat):Prop:=(GuardOk ops R i∧GStep P md ops Q n d R a0 V i)∨GuardNo ops R i
theorem grow_goK {P:Program} {md:Region.Mode} {ops:Array Oper} {Q:Exit→Act→World→Prop} (n m:Nat) (d:Nat→Nat) (R:Nat→Value→World→Prop) (a0:Act) (V:World)
  (hc:growChkG md ops n m d=true) (hst:∀i v w w',R i v w→Ext w w'→R i v w') (hinj:∀i j,i<n→j<n→d i=d j→i=j) (hds:∀i,i<n→d i<a0.tmps.size)
  (hstep:∀i,i<n→GuStp P md ops Q n d R a0 V i)
  (hend:∀(vals:Nat→Value) (w:World),Ext V w→(∀i,i<n→R i (vals i) w)→wpAny P md ops Q m (Array.replicate n true++Array.replicate m false) (putAll d vals n a0) w) :
  ∀(c:Nat) (todo:List Nat) (listed:Array Bool) (a:Act) (w:World),todo.length=c→GInv md ops n m d R a0 V todo listed a w→wpAny P md ops Q (c+m) listed a w:=by
 simp only[growChkG,Bool.and_eq_true,List.all_eq_true,List.mem_range,List.any_eq_true,decide_eq_true_eq]at hc
 obtain⟨⟨hc1,hc2⟩,hsz⟩:=hc
 intro c
 induction c with
 | zero=>
   intro todo listed a w ht hI
   obtain rfl:todo = []:=List.length_eq_zero_iff.1 ht
   have hl:listed=Array.replicate n true++Array.replicate m false:=by
    apply Array.ext
    ·simp[hI.size]
    ·intro i h1 h2
     have e:listed[i]=listed.getD i true:=by simp[Array.getD,h1]
     rw[e]
     by_cases q:i<n
     ·rw[(hI.mem i q).2 (by simp),Array.getElem_append_left (by simpa using q)]
      simp
     ·rw[Array.getElem_append_right (by simpa using q)]
      simp only[Array.getElem_replicate]
      cases e:listed.getD i true with
      | false=>rfl
      | true=>
        have:=hI.tail i (by omega) e
        rw[hI.size]at h1
        omega
   have ha:a=putAll d (fun i=>a.eval (.tmp (d i))) n a0:=by
    obtain⟨p1,p2,p3⟩:=putAll_spec d a a0 hI.asz n hds
    obtain⟨ts,df⟩:=a
    have e1:ts=(putAll d (fun i=>(⟨ts,df⟩:Act).eval (.tmp (d i))) n a0).tmps:=by
     apply Array.ext_getElem?
     intro k
     rw[p3 k]
     by_cases q:∃j,j<n∧d j=k
     ·rw[if_pos q]
     ·rw[if_neg q]
      exact hI.frame k (fun j hj e=>q ⟨j,hj,e⟩)
    have e2:df=(putAll d (fun i=>(⟨ts,df⟩:Act).eval (.tmp (d i))) n a0).defers:=by rw[p1];exact hI.dfr
    generalize putAll d (fun i=>(⟨ts,df⟩:Act).eval (.tmp (d i))) n a0=b at e1 e2
    obtain⟨bt,bd⟩:=b
    simp only at e1 e2
    rw[e1,e2]
   have hw:=hend (fun i=>a.eval (.tmp (d i))) w hI.ext (fun i hi=>hI.facts i hi (by simp))
   rw[Nat.zero_add,hl]
   rw[←ha]at hw
   exact hw
 | succ c ih=>
   intro todo listed a w ht hI
   rw[show c+1+m=(c+m)+1 by omega]
   have hLT:∀i,i<n→i<listed.size:=fun i hi=>by rw[hI.size];omega
   refine⟨fun h0=>?_,fun i hi=>?_⟩
   ·exfalso
    obtain⟨i,hi,hmin⟩:=least_of todo (by intro e;rw[e]at ht;cases ht)
    have hin:=hI.lt i hi
    have:i∈Region.ready md ops listed:=by
     rw[mem_ready]
     obtain⟨hdep,hop⟩:=hc1 i hin
     cases ho:ops[i]? with
     | none=>rw[ho]at hop;cases hop
     | some o=>
       refine⟨?_,o,rfl,fun e he hb=>?_⟩
       ·cases e:listed.getD i true with
        | false=>rfl
        | true=>exact absurd hi ((hI.mem i hin).1 e)
       ·have hj:e.on<i:=hdep e.on ((mem_gdeps ho).2 ⟨e,he,hb,rfl⟩)
        have hjn:e.on<n:=by omega
        rw[getD_in (hLT _ hjn) false true]
        exact(hI.mem _ hjn).2 (fun q=>by have:=hmin _ q;omega)
    rw[h0]at this
    cases this
   ·obtain⟨hun,o,ho,hall⟩:=mem_ready.1 hi
    have hio:i<ops.size:=(Array.getElem?_eq_some_iff.1 ho).1
    have hin:i<n:=by
     rcases Nat.lt_or_ge i n with q|q
     ·exact q
     ·exfalso
      obtain⟨x,hx⟩:∃x,x∈todo:=by
       cases todo with
       | nil=>cases ht
       | cons x r=>exact⟨x,by simp⟩
      have hxn:=hI.lt x hx
      obtain⟨k,hk,hr⟩:=hc2 (i-n) (by omega) x hxn
      rw[show n+(i-n)=i by omega]at hk
      obtain⟨e,he,hb,rfl⟩:=(mem_gdeps ho).1 hk
      have h1:=greach_down hI.down _ _ _ hr (hall e he hb)
      rw[getD_in (hLT x hxn) false true]at h1
      exact(hI.mem x hxn).1 h1 hx
    obtain⟨hdep,hop⟩:=hc1 i hin
    rw[ho]at hop
    simp only[Option.map_some,Option.getD_some,Bool.and_eq_true,decide_eq_true_eq]at hop
    obtain⟨hdst,hgd⟩:=hop
    have hfacts:∀j,j∈gdeps md ops i→R j (a.eval (.tmp (d j))) w:=fun j hj=>by
     have hjn:j<n:=by have:=hdep j hj;omega
     refine hI.facts j hjn ?_
     obtain⟨e,he,hb,rfl⟩:=(mem_gdeps ho).1 hj
     have h1:=hall e he hb
     rw[getD_in (hLT _ hjn) false true]at h1
     exact(hI.mem _ hjn).1 h1
    have hyl:∀(j:Nat) (b:Bool),j∈gdeps md ops i→a.eval (.tmp (d j)) = .bool b→yielded ops a.tmps j=some b:=fun j b hj hv=>by
     have hjn:j<n:=by have:=hdep j hj;omega
     obtain⟨_,hopj⟩:=hc1 j hjn
     cases hoj:ops[j]? with
     | none=>rw[hoj]at hopj;cases hopj
     | some oj=>
       rw[hoj]at hopj
       simp only[Option.map_some,Option.getD_some,Bool.and_eq_true,decide_eq_true_eq]at hopj
       have hdj:d j<a.tmps.size:=by rw[hI.asz];exact hds j hjn
       unfold yielded
       rw[hoj]
       simp only[Option.bind_some,hopj.1]
       have:a.tmps[d j]? = some (.bool b):=by
        rw[←hv];simp[Act.eval,hdj]
       rw[this]
    have hit:i∈todo:=Classical.byContradiction fun q=>by
     rw[(hI.mem i hin).2 q]at hun;cases hun
    have hgo:∀v w',R i v w'→Ext w w'→wpAny P md ops Q (c+m) (listed.setIfInBounds i true) (a.put (some (d i)) v) w':=fun v w' hR hE=>by
     refine ih (todo.filter (fun y=>y != i)) _ _ _ ?_ ?_
     ·have h1:todo.filter (fun y=>y != i)=todo.erase i:=by rw[hI.nd.erase_eq_filter]
      rw[h1,List.length_erase_of_mem hit,ht];rfl
     ·have hset:∀j,j≠i→∀b,(listed.setIfInBounds i true).getD j b=listed.getD j b:=fun j hj b=>getD_set_ne b (Ne.symm hj)
      have hsi:∀b,(listed.setIfInBounds i true).getD i b=true:=fun b=>by
       have:=hLT i hin
       simp[Array.getD,this]
      have hdi:=hds i hin
      have hget:∀k,(a.put (some (d i)) v).tmps[k]? = if d i=k then some v else a.tmps[k]? :=fun k=>by
       simp only[Act.put,Array.getElem?_setIfInBounds]
       by_cases e:d i=k
       ·rw[if_pos e,if_pos e,if_pos (by rw[hI.asz];exact hdi)]
       ·rw[if_neg e,if_neg e]
      refine⟨by simpa using hI.size,?_,hI.nd.filter _,?_,?_,?_,by simpa [Act.put] using hI.asz,hI.dfr,?_,?_,hI.ext.trans hE⟩
      ·intro j hj h1
       rw[hset j (by omega)]at h1
       exact hI.tail j hj h1
      ·intro j hj;exact hI.lt j (List.mem_filter.1 hj).1
      ·intro j hj
       by_cases e:j=i
       ·subst e
        rw[hsi];simp
       ·rw[hset j e,hI.mem j hj,List.mem_filter]
        simp[e]
      ·intro j hj k hk
       by_cases e:j=i
       ·subst e
        obtain⟨e,he,hb,rfl⟩:=(mem_gdeps ho).1 hk
        exact getD_set_true (hall e he hb)
       ·rw[hset j e]at hj
        exact getD_set_true (hI.down j hj k hk)
      ·intro k hk
       rw[hget,if_neg (hk i hin)]
       exact hI.frame k hk
      ·intro j hj hjt
       have ev:(a.put (some (d i)) v).eval (.tmp (d j))=if j=i then v else a.eval (.tmp (d j)):=by
        simp only[Act.eval,Array.getD_eq_getD_getElem?,hget]
        by_cases e:j=i
        ·rw[if_pos e,if_pos (by rw[e])];rfl
        ·rw[if_neg e,if_neg (fun q=>e (hinj i j hin hj q).symm)]
       rw[ev]
       by_cases e:j=i
       ·rw[if_pos e,e];exact hR
       ·rw[if_neg e]
        exact hst _ _ _ _ (hI.facts j hj (fun q=>hjt (List.mem_filter.2 ⟨q,by simpa using e⟩))) hE
    unfold wpOp
    rw[ho]
    simp only
    rcases hstep i hin with⟨hok,hst1⟩|⟨j,b,hg,hno,hun2⟩
    ·have hwant:Region.wanted o (yielded ops a.tmps)=true:=by
      cases hgq:o.guard with
      | none=>simp[Region.wanted,hgq]
      | some g=>
        obtain⟨j,b⟩:=g
        rw[hgq]at hgd
        have hj:j∈gdeps md ops i:=by simpa using hgd
        have hv:=hok j b (by rw[ho];exact hgq) _ _ (hfacts j hj)
        simp[Region.wanted,hgq,hyl j b hj hv]
     rw[if_pos hwant]
     left
     have hs:=hst1 a w hI.ext (fun k hk=>eval_of_get (hI.frame k hk)) (fun j hj=>hfacts j (by simpa using hj)) (wpAny P md ops Q (c+m) (listed.setIfInBounds i true)) hgo
     rw[ho]at hs
     exact hs
    ·have hgq:o.guard=some (j,b):=by rw[ho]at hg;exact hg
     rw[hgq]at hgd
     have hj:j∈gdeps md ops i:=by simpa using hgd
     have hv:=hno _ _ (hfacts j hj)
     have hwant:Region.wanted o (yielded ops a.tmps)=false:=by
      rcases hv with hv|hv
      ·simp[Region.wanted,hgq,hyl j (!b) hj hv]
      ·have hjn:j<n:=by have:=hdep j hj;omega
       have hy:yielded ops a.tmps j=none:=by
        obtain⟨_,hopj⟩:=hc1 j hjn
        cases hoj:ops[j]? with
        | none=>rw[hoj]at hopj;cases hopj
        | some oj=>
          rw[hoj]at hopj
          simp only[Option.map_some,Option.getD_some,Bool.and_eq_true,decide_eq_true_eq]at hopj
          have hdj:d j<a.tmps.size:=by rw[hI.asz];exact hds j hjn
          unfold yielded
          rw[hoj]
          simp only[Option.bind_some,hopj.1]
          have:a.tmps[d j]? = some undef:=by
           rw[←hv];simp[Act.eval,hdj]
          rw[this]
          rfl
       simp[Region.wanted,hgq,hy]
     rw[if_neg (by rw[hwant];decide),hdst]
     exact hgo undef w (hun2 w) (Ext.refl w)
theorem wp_region_growK {P:Program} {id:Nat} {Q:Exit→Act→World→Prop} {a0:Act} {w:World} {l:List Oper} (ds:List Nat) (Rs:List (Value→World→Prop)) (m:Nat)
  (hm:P.follows .mixedOrders=true) (hc:growChkG .any l.toArray ds.length m (fun i=>ds.getD i 0)=true) (hn:nodupB ds=true) (hz:ds.all (fun x=>decide (x<a0.tmps.size))=true)
  (hst:∀R∈Rs,∀v w w',R v w→Ext w w'→R v w')
  (hstep:AllIdx (GuStp P .any l.toArray Q ds.length (fun i=>ds.getD i 0) (fun i=>Rs.getD i (fun _ _=>True)) a0 w) 0 ds.length)
  (hend:∀(vals:Nat→Value) (w':World),Ext w w'→AllIdx (fun i=>Rs.getD i (fun _ _=>True) (vals i) w') 0 ds.length→wpAny P .any l.toArray Q m (Array.replicate ds.length true++Array.replicate m false) (putF (fun i=>ds.getD i 0) vals ds.length 0 a0) w') :
  (Code.region id l.toArray true).wp P Q a0 w:=by
 refine wp_region_any hm ?_
 have hsz:ds.length+m=l.toArray.size:=by
  have:=hc
  simp only[growChkG,Bool.and_eq_true,decide_eq_true_eq]at this
  exact this.2
 rw[←hsz]
 have hall:∀(p:Nat→Prop) (k i:Nat),(∀j,i≤j→j<i+k→p j)→AllIdx p i k:=by
  intro p k
  induction k with
  | zero=>intro i _;trivial
  | succ k ih=>intro i h;exact⟨h i (Nat.le_refl _) (by omega),ih (i+1) (fun j h1 h2=>h j (by omega) (by omega))⟩
 refine grow_goK ds.length m (fun i=>ds.getD i 0) (fun i=>Rs.getD i (fun _ _=>True)) a0 w hc ?_ (fun i j hi hj e=>nodupB_inj ds hn i j hi hj e) ?_ (fun i hi=>hstep.out _ _ i (Nat.zero_le _) (by omega)) (fun vals w' hE hR=>by rw[putAll_F];exact hend vals w' hE (hall _ _ _ (fun j _ hj=>hR j (by omega)))) ds.length (List.range ds.length) _ _ _ (by simp) ?_
 ·intro i v w w' h hE
  simp only[List.getD]at h ⊢
  cases e:Rs[i]? with
  | none=>trivial
  | some R=>
    rw[e]at h
    exact hst R (List.mem_of_getElem? e) v w w' h hE
 ·intro i hi
  have:=List.all_eq_true.1 hz _ (List.getElem_mem hi)
  simpa [List.getD,hi] using this
 ·refine⟨by simp,?_,List.nodup_range,fun i hi=>by simpa using hi,?_,?_,rfl,rfl,fun _ _=>rfl,?_,(Ext.refl w).drew⟩
  ·intro i hi h
   rcases Nat.lt_or_ge i (ds.length+m)with q|q
   ·exfalso
    simp[Array.getD,q]at h
   ·exact q
  ·intro i hi
   have:i<ds.length+m:=by omega
   simp[Array.getD,this,hi]
  ·intro i hi
   exfalso
   by_cases q:i<ds.length+m<;>simp[Array.getD,q]at hi
  ·intro i hi hni
   exact absurd (List.mem_range.2 hi) hni
end Go.Proofs.YtlmeinikknoeeaaGreatDoor
