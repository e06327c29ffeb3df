/- Queries: variables of a function's own, by laws at the operations; a condition that a parser's function returns. -/
import Derived.Test.YtlmeinikknoeeaaGreatDoorQ05
import Derived.Test.YtlmeinikknoeeaaGreatDoorQ06
import Derived.Test.YtlmeinikknoeeaaGreatDoorQ01
import Derived.Test.YtlmeinikknoeeaaGreatDoorQ00
import Derived.Maps.RangeWalk
import Derived.Maps.Own
namespace Go.Proofs.YtlmeinikknoeeaaGreatDoor
set_option linter.unusedVariables false
set_option linter.unnecessarySimpa false
set_option linter.unusedSimpArgs false
open Go.RowKit
theorem Frm.step {S T:Nat→Prop} {a b c:World} (h:Frm S a b) (k:Frm T b c) (hT:∀x,x<a.heap.size→T x→S x):Frm S a c:=
 ⟨k.os.trans h.os,k.tape.trans h.tape,k.output.trans h.output,Nat.le_trans h.size k.size,fun i hi hs=>(k.block i (Nat.lt_of_lt_of_le hi h.size) (fun q=>hs (hT i hi q))).trans (h.block i hi hs)⟩
theorem Frm.drewL {S:Nat→Prop} {w w':World} {n:Nat} (h:Frm S (w.drewN n) w'):Frm S w w':=⟨h.os,h.tape,h.output,h.size,h.block⟩
structure BxT (D:Nat) (vs:List Value) (w:World):Prop where
 hD:D<w.heap.size
 rd:w.rangeAt D 0 vs
 th:w.there D 0 vs.length
theorem BxT.frm {D:Nat} {vs:List Value} {w w':World} (h:BxT D vs w) {S:Nat→Prop} (hF:Frm S w w') (hS:¬S D):BxT D vs w':=
 ⟨hF.lt h.hD,fun j v hv=>(hF.cel h.hD hS _).trans (h.rd j v hv),zthere_frm h.th h.hD hF hS⟩
theorem BxT.ext {D:Nat} {vs:List Value} {w w':World} (h:BxT D vs w) (hE:Ext w w'):BxT D vs w':=h.frm (S:=fun _=>False) (Frm.of_ext hE) id
theorem BxT.new (w:World) (vs:List Value) (t:TypeId):BxT w.heap.size vs (w.alloc (.cells vs.toArray t)):=
 ⟨(BxR.new w vs t).1,(BxR.new w vs t).2,zthr_new w _ t _ (by simp)⟩
theorem BxT.at {D:Nat} {vs:List Value} {w:World} (h:BxT D vs w) (j:Nat) (v:Value) (hv:vs[j]? = some v):w.cell? ⟨D,j,none⟩=some v:=by
 have:=h.rd j v hv
 rwa [Nat.zero_add]at this
theorem BxT.fz {D:Nat} {vs:List Value} {w:World} (h:BxT D vs w) (j:Nat) (hv:j<vs.length):w.frozen? ⟨D,j,none⟩=false:=by
 have:=(h.th j hv).2
 rwa [Nat.zero_add]at this
theorem zset_isSome {w:World} {D:Nat} {o:Nat} {v:Value} {b j:Nat} (h:(w.cell? ⟨b,j,none⟩).isSome=true):((w.setCell ⟨D,o,none⟩ v).cell? ⟨b,j,none⟩).isSome=true:=by
 by_cases e:(⟨D,o,none⟩:Addr)=⟨b,j,none⟩
 ·rw[←e]at h ⊢
  obtain⟨u,hu⟩:=Option.isSome_iff_exists.1 h
  rw[World.cell?_setCell_same _ _ _ hu];rfl
 ·rw[World.cell?_setCell_other _ _ _ _ e];exact h
theorem BxT.set {D:Nat} {vs:List Value} {w:World} (h:BxT D vs w) (o:Nat) (v:Value) (ho:o<vs.length):BxT D (vs.set o v) (w.setCell ⟨D,o,none⟩ v):=by
 have hF:Frm (fun _=>True) w (w.setCell ⟨D,o,none⟩ v):=Frm.setCell (Frm.refl (fun _=>True) w) (p:=⟨D,o,none⟩) (.inl trivial) v
 refine⟨hF.lt h.hD,fun j u hu=>?_,fun j hj=>?_⟩
 ·rw[Nat.zero_add]
  rw[List.getElem?_set]at hu
  by_cases e:o=j
  ·subst e
   rw[if_pos rfl,if_pos ho]at hu
   injection hu with hu
   subst hu
   exact World.cell?_setCell_same _ _ _ (h.at o _ (List.getElem?_eq_getElem ho))
  ·rw[if_neg e]at hu
   rw[World.cell?_setCell_other _ _ _ _ (by simp[e])]
   exact h.at j u hu
 ·rw[List.length_set]at hj
  obtain⟨a,b⟩:=h.th j hj
  exact⟨zset_isSome a,by rw[World.frozen?_setCell];exact b⟩
section
variable {P:Program} {ops:Array Oper} {rest:List Oper} {op:Oper} {a:Act} {w:World} {Q:Exit→Act→World→Prop}
theorem wpl_new (g:op.guard=none) (ty:TypeId) (zs:List Value) (ho:op.op = .alloc ty) (hal:∀w:World,(Instr.alloc ty true (.tuple #[])).run P w = .ok (.pointer (some ⟨w.heap.size,0,none⟩)) (w.alloc (.cells zs.toArray ty)))
  (h:∀W,Ext w W→BxT w.heap.size zs W→W.heap.size=w.heap.size+1→wpList P ops Q rest (a.put op.dst (.pointer (some ⟨w.heap.size,0,none⟩))) W):wpList P ops Q (op::rest) a w:=by
 refine wpList_plain g fun K hK=>?_
 unfold Oper.wp execOp
 simp only[ho,Sem.run_bind,Sem.run_pure,Result.andThen_ok,hal]
 exact hK _ _ (h _ ((Ext.refl w).alloc _) (BxT.new w zs ty) (by simp))
theorem wpl_st (g:op.guard=none) (ty:TypeId) (x y:Operand) (ho:op.op = .store ty x y) (D:Nat) (us vs:List Value) (hx:a.eval x = .pointer (some ⟨D,0,none⟩)) (hy:a.eval y = .agg vs.toArray)
  (hB:BxT D us w) (hl:us.length=vs.length) (hi:(P.info? ty).map (·.size)=some vs.length) (h1:vs.all (·.oneCell')=true)
  (h:∀W,Frm (fun k=>k=D) w W→BxT D vs W→wpList P ops Q rest (a.put op.dst undef) W):wpList P ops Q (op::rest) a w:=by
 have hth:w.there D 0 vs.length:=by rw[←hl];exact hB.th
 refine wpList_store_mid g ty x y ho D 0 vs.toArray hx hy (by simpa using hth) (by simpa using hi) (by rw[List.all_toArray];exact h1) ?_
 have hf:=zfrm_sets (S:=fun k=>k=D) w D vs 0 rfl
 refine h _ hf ⟨hf.lt hB.hD,World.rangeAt_setCells_same _ _ _ _ hth,World.there_setCells hth D 0 vs⟩
theorem wpl_bs (g:op.guard=none) (ty e:TypeId) (n:Nat) (es:Array (Nat×Operand)) (ho:op.op = .buildSlice ty n es) (us:Array (Nat×Value)) (hx:es.map (fun e=>(e.1,a.eval e.2))=us) (cs:List Value)
  (hrun:(Instr.buildSlice ty n us).run P w = .ok (.slice (some ⟨w.heap.size,0,none⟩) n n) (w.alloc (.cells cs.toArray e)))
  (h:∀W,Ext w W→BxT w.heap.size cs W→W.heap.size=w.heap.size+1→wpList P ops Q rest (a.put op.dst (.slice (some ⟨w.heap.size,0,none⟩) n n)) W):wpList P ops Q (op::rest) a w:=by
 refine wpList_plain g fun K hK=>?_
 unfold Oper.wp
 rw[yr_bsnZ ho hx hrun]
 exact hK _ _ (h _ ((Ext.refl w).alloc _) (BxT.new w cs e) (by simp))
theorem wpl_bs1 (g:op.guard=none) (ty e:TypeId) (x:Operand) (ho:op.op = .buildSlice ty 1 #[(0,x)]) (u:Value) (hx:a.eval x=u) (cs:List Value)
  (hrun:(Instr.buildSlice ty 1 #[(0,u)]).run P w = .ok (.slice (some ⟨w.heap.size,0,none⟩) 1 1) (w.alloc (.cells cs.toArray e)))
  (h:∀W,Ext w W→BxT w.heap.size cs W→W.heap.size=w.heap.size+1→wpList P ops Q rest (a.put op.dst (.slice (some ⟨w.heap.size,0,none⟩) 1 1)) W):wpList P ops Q (op::rest) a w:=
 wpl_bs g ty e 1 _ ho _ (by simp[hx]) cs hrun h
theorem wpl_bs2 (g:op.guard=none) (ty e:TypeId) (x y:Operand) (ho:op.op = .buildSlice ty 2 #[(0,x),(1,y)]) (u v:Value) (hx:a.eval x=u) (hy:a.eval y=v) (cs:List Value)
  (hrun:(Instr.buildSlice ty 2 #[(0,u),(1,v)]).run P w = .ok (.slice (some ⟨w.heap.size,0,none⟩) 2 2) (w.alloc (.cells cs.toArray e)))
  (h:∀W,Ext w W→BxT w.heap.size cs W→W.heap.size=w.heap.size+1→wpList P ops Q rest (a.put op.dst (.slice (some ⟨w.heap.size,0,none⟩) 2 2)) W):wpList P ops Q (op::rest) a w:=
 wpl_bs g ty e 2 _ ho _ (by simp[hx,hy]) cs hrun h
theorem gs_stZ {K:Act→World→Prop} (hd:op.dst=none) (ty:TypeId) (x y:Operand) (ho:op.op = .store ty x y) (D:Nat) (us vs:List Value) (hx:a.eval x = .pointer (some ⟨D,0,none⟩)) (hy:a.eval y = .agg vs.toArray)
  (hB:BxT D us w) (hl:us.length=vs.length) (hi:(P.info? ty).map (·.size)=some vs.length) (h1:vs.all (·.oneCell')=true)
  (h:∀W,Frm (fun k=>k=D) w W→BxT D vs W→K (a.put none undef) W):op.wp P a w K Q:=by
 have hth:w.there D 0 vs.length:=by rw[←hl];exact hB.th
 refine wp_store_mid ty x y ho D 0 vs.toArray hx hy (by simpa using hth) (by simpa using hi) (by rw[List.all_toArray];exact h1) ?_
 have hf:=zfrm_sets (S:=fun k=>k=D) w D vs 0 rfl
 rw[hd]
 exact h _ hf ⟨hf.lt hB.hD,World.rangeAt_setCells_same _ _ _ _ hth,World.there_setCells hth D 0 vs⟩
theorem wpl_st1 (g:op.guard=none) (ty:TypeId) (x y:Operand) (ho:op.op = .store ty x y) (D o:Nat) (vs:List Value) (v:Value) (hx:a.eval x = .pointer (some ⟨D,o,none⟩)) (hy:a.eval y=v)
  (hB:BxT D vs w) (hl:o<vs.length) (hrun:∀w:World,(w.cell? ⟨D,o,none⟩).isSome=true→w.frozen? ⟨D,o,none⟩=false→(Instr.storeAt ty (.pointer (some ⟨D,o,none⟩)) v).run P w = .ok () (w.setCell ⟨D,o,none⟩ v))
  (h:∀W,Frm (fun k=>k=D) w W→BxT D (vs.set o v) W→wpList P ops Q rest (a.put op.dst undef) W):wpList P ops Q (op::rest) a w:=by
 refine wpList_plain g fun K hK=>?_
 have hr:=hrun w (by rw[hB.at o _ (List.getElem?_eq_getElem hl)];rfl) (hB.fz o hl)
 unfold Oper.wp execOp
 simp only[ho,hx,hy]
 simp only[Sem.run_bind,hr,Result.andThen]
 exact hK _ _ (h _ (Frm.setCell (Frm.refl (fun k=>k=D) w) (p:=⟨D,o,none⟩) (.inl rfl) v) (hB.set o v hl))
theorem wpl_stn (g:op.guard=none) (ty:TypeId) (x y:Operand) (ho:op.op = .store ty x y) (D o:Nat) (us ms es vs:List Value) (hx:a.eval x = .pointer (some ⟨D,o,none⟩)) (hy:a.eval y = .agg vs.toArray)
  (hB:BxT D (us++ms++es) w) (ho2:us.length=o) (hl:ms.length=vs.length) (hi:(P.info? ty).map (·.size)=some vs.length) (h1:vs.all (·.oneCell')=true)
  (h:∀W,Frm (fun k=>k=D) w W→BxT D (us++vs++es) W→wpList P ops Q rest (a.put op.dst undef) W):wpList P ops Q (op::rest) a w:=by
 subst ho2
 have hth:w.there D us.length vs.length:=fun j hj=>by
  have:=hB.th (us.length+j) (by simp only[List.length_append];omega)
  rwa [Nat.zero_add]at this
 refine wpList_store_mid g ty x y ho D us.length vs.toArray hx hy (by simpa using hth) (by simpa using hi) (by rw[List.all_toArray];exact h1) ?_
 have hf:=zfrm_sets (S:=fun k=>k=D) w D vs us.length rfl
 have hth2:w.there D 0 (us++vs++es).length:=by
  have:=hB.th
  rw[show (us++vs++es).length=(us++ms++es).length by simp only[List.length_append];omega]
  exact this
 refine h _ hf ⟨hf.lt hB.hD,fun j v hv=>?_,World.there_setCells hth2 D _ vs⟩
 rw[Nat.zero_add]
 rcases Nat.lt_or_ge j us.length with q|q
 ·have hr:(w.setCells D us.length vs).rangeAt D 0 us:=World.rangeAt_setCells_apart (fun i u hu=>hB.rd i u (by rw[List.append_assoc,List.getElem?_append_left (List.getElem?_eq_some_iff.1 hu).1];exact hu)) D us.length vs (.inr (.inl (by omega)))
  have:=hr j v (by rw[List.append_assoc,List.getElem?_append_left q]at hv;exact hv)
  rwa [Nat.zero_add]at this
 ·rw[List.append_assoc,List.getElem?_append_right q]at hv
  rcases Nat.lt_or_ge (j-us.length) vs.length with q2|q2
  ·rw[List.getElem?_append_left q2]at hv
   have:=World.rangeAt_setCells_same w D us.length vs hth (j-us.length) v hv
   rwa [show us.length+(j-us.length)=j by omega]at this
  ·rw[List.getElem?_append_right q2]at hv
   have hr:(w.setCells D us.length vs).rangeAt D (us.length+vs.length) es:=World.rangeAt_setCells_apart (fun i u hu=>by
    have:=hB.rd (us.length+vs.length+i) u (by rw[List.getElem?_append_right (by simp only[List.length_append];omega)];simp only[List.length_append];rw[show us.length+vs.length+i-(us.length+ms.length)=i by omega];exact hu)
    rwa [Nat.zero_add]at this) D us.length vs (.inr (.inr (by omega)))
   have:=hr (j-us.length-vs.length) v hv
   rwa [show us.length+vs.length+(j-us.length-vs.length)=j by omega]at this
end
mutual
theorem InT.mono {α:Type} (S:Shp α) {A A':Nat→Prop} {w:World} (hA:∀k,A k→k<w.heap.size→A' k) (hok:∀a,S.ok A w a→S.ok A' w a):∀{t:Tr α},InT S A w t→InT S A' w t
 | .mk a l,h=>by
   rw[InT]at h ⊢
   refine⟨hok a h.1,⟨h.2.1.1,h.2.1.2.1,fun hl=>?_⟩,InTs.mono S hA hok h.2.2⟩
   obtain⟨R,off,e,hR,hlt,hc⟩:=h.2.1.2.2 hl
   exact⟨R,off,e,hA R hR hlt,hlt,hc⟩
theorem InTs.mono {α:Type} (S:Shp α) {A A':Nat→Prop} {w:World} (hA:∀k,A k→k<w.heap.size→A' k) (hok:∀a,S.ok A w a→S.ok A' w a):∀{l:List (Tr α)},InTs S A w l→InTs S A' w l
 | [],_=>trivial
 | c::r,h=>by
   rw[InTs]at h ⊢
   exact⟨InT.mono S hA hok h.1,InTs.mono S hA hok h.2⟩
end
theorem InC.mono {A A':Nat→Prop} {w:World} (hA:∀k,A k→k<w.heap.size→A' k) {t:Cnd} (h:InC A w t):InC A' w t:=InT.mono cdS hA (fun _ h=>h) h
theorem TxA.mono {A A':Nat→Prop} {w:World} (hA:∀k,A k→k<w.heap.size→A' k) {ao:Option Addr} {cap:Nat} {l:List (List UInt8)} (h:TxA A w ao cap l):TxA A' w ao cap l:=by
 refine⟨h.1,h.2.1,h.2.2.1,fun hl=>?_⟩
 obtain⟨R,off,e,hR,hr⟩:=h.2.2.2 hl
 exact⟨R,off,e,hA R hR hr.1,hr⟩
theorem InQ.mono {A A':Nat→Prop} {w:World} (hA:∀k,A k→k<w.heap.size→A' k) {t:Qry} (h:InQ A w t):InQ A' w t:=
 InT.mono qnS hA (fun a h=>⟨h.1.mono hA,h.2.1.mono hA,h.2.2.1.mono hA,h.2.2.2⟩) h
theorem Kp.frm {A S:Nat→Prop} {w w':World} (hF:Frm S w w') (hS:∀k,A k→¬S k):Kp A w w':=⟨hF.size,fun R o hA hR=>hF.cel hR (hS R hA) o⟩
theorem RdT.one {α:Type} {S:Shp α} {A:Nat→Prop} {w:World} (a:Tr α) (Y:Nat) (hA:A Y) (hY:Y<w.heap.size) (hr:w.rangeAt Y 0 (S.vals a)):RdT S A w (some ⟨Y,0,none⟩) 1 [a]:=by
 refine⟨Nat.le_refl _,by decide,fun _=>⟨Y,0,rfl,hA,hY,fun i hi=>?_⟩⟩
 have hi:i<1:=hi
 obtain rfl:i=0:=by omega
 simpa using hr
theorem RdT.two {α:Type} {S:Shp α} {A:Nat→Prop} {w:World} (a b:Tr α) (Y:Nat) (hA:A Y) (hY:Y<w.heap.size) (hr:w.rangeAt Y 0 (S.vals a++S.vals b)):RdT S A w (some ⟨Y,0,none⟩) 2 [a,b]:=by
 have hl:(S.vals a).length=S.C:=S.len _ _
 refine⟨Nat.le_refl _,by decide,fun _=>⟨Y,0,rfl,hA,hY,fun i hi=>?_⟩⟩
 have hi:i<2:=hi
 rcases (show i=0∨i=1 by omega)with rfl|rfl
 ·intro j v hv
  have hv:(S.vals a)[j]? = some v:=hv
  have:=hr j v (by rw[List.getElem?_append_left (List.getElem?_eq_some_iff.1 hv).1];exact hv)
  simpa using this
 ·intro j v hv
  have hv:(S.vals b)[j]? = some v:=hv
  have:=hr (S.C+j) v (by rw[List.getElem?_append_right (by omega),show S.C+j-(S.vals a).length=j by omega];exact hv)
  simpa using this
theorem bs_zero:Bs []:=by unfold Bs;simp
theorem bi_zero:Bi 0:=by unfold Bi;omega
theorem opD_ok {A:Nat→Prop} {w:World} {k:Int} (hk:Bi k) (ao:Option Addr) (cap:Nat):cdS.ok A w ⟨opD k,ao,cap⟩:=⟨bs_zero,bs_zero,bs_zero,hk,bi_zero,bi_zero⟩
def opC1 (k:Int) (Y:Nat) (a:Cnd):Cnd:=.mk ⟨opD k,some ⟨Y,0,none⟩,1⟩ [a]
def opC2 (k:Int) (Y:Nat) (a b:Cnd):Cnd:=.mk ⟨opD k,some ⟨Y,0,none⟩,2⟩ [a,b]
theorem InC.op1 {A:Nat→Prop} {w:World} {k:Int} (hk:Bi k) {a:Cnd} (ha:InC A w a) (Y:Nat) (hA:A Y) (hY:Y<w.heap.size) (hr:w.rangeAt Y 0 (cdS.vals a)):InC A w (opC1 k Y a):=by
 unfold InC opC1
 rw[InT]
 exact⟨opD_ok hk _ _,RdT.one a Y hA hY hr,by rw[InTs,InTs];exact⟨ha,trivial⟩⟩
theorem InC.op2 {A:Nat→Prop} {w:World} {k:Int} (hk:Bi k) {a b:Cnd} (ha:InC A w a) (hb:InC A w b) (Y:Nat) (hA:A Y) (hY:Y<w.heap.size) (hr:w.rangeAt Y 0 (cdS.vals a++cdS.vals b)):InC A w (opC2 k Y a b):=by
 unfold InC opC2
 rw[InT]
 exact⟨opD_ok hk _ _,RdT.two a b Y hA hY hr,by rw[InTs,InTs,InTs];exact⟨ha,hb,trivial⟩⟩
theorem map_op1 (k:Int) (Y:Nat) (a:Cnd):mapT CdA.d (opC1 k Y a) = .mk (opD k) [mapT CdA.d a]:=by unfold opC1;rw[mapT,mapTs,mapTs]
theorem map_op2 (k:Int) (Y:Nat) (a b:Cnd):mapT CdA.d (opC2 k Y a b) = .mk (opD k) [mapT CdA.d a,mapT CdA.d b]:=by unfold opC2;rw[mapT,mapTs,mapTs,mapTs]
theorem bs1_c (a:Cnd) (w:World):(Instr.buildSlice 25 1 #[(0,.agg (cdS.vals a).toArray)]).run Tryz.prog w = .ok (.slice (some ⟨w.heap.size,0,none⟩) 1 1) (w.alloc (.cells (cdS.vals a).toArray 27)):=by kernel_rfl
theorem bs2_c (a b:Cnd) (w:World):(Instr.buildSlice 25 2 #[(0,.agg (cdS.vals a).toArray),(1,.agg (cdS.vals b).toArray)]).run Tryz.prog w = .ok (.slice (some ⟨w.heap.size,0,none⟩) 2 2) (w.alloc (.cells (cdS.vals a++cdS.vals b).toArray 27)):=by kernel_rfl
theorem bd2_c (k:Int) (Y:Nat) (a b:Cnd) (w:World):(Instr.build 27 #[(0,.int .i64 k),(4,.slice (some ⟨Y,0,none⟩) 2 2)]).run Tryz.prog w = .ok (.agg (cdS.vals (opC2 k Y a b)).toArray) w:=by kernel_rfl
theorem ld_c {D:Nat} {t:Cnd} {w:World} (h:BxT D (cdS.vals t) w):(Instr.loadAt 27 (.pointer (some ⟨D,0,none⟩))).run Tryz.prog w = .ok (.agg (cdS.vals t).toArray) w:=run_loadAt_mid w D 0 27 (cdS.vals t) _ h.rd Tryz.underlying27 rfl (info_c t)
theorem st_int (D o:Nat) (n:Int) (w:World) (h1:(w.cell? ⟨D,o,none⟩).isSome=true) (h2:w.frozen? ⟨D,o,none⟩=false):(Instr.storeAt 3 (.pointer (some ⟨D,o,none⟩)) (.int .i64 n)).run Tryz.prog w = .ok () (w.setCell ⟨D,o,none⟩ (.int .i64 n)):=by
 obtain⟨u,hu⟩:=Option.isSome_iff_exists.1 h1
 simp[go_sem,hu,h2]
theorem st_str (D o:Nat) (s:ByteArray) (w:World) (h1:(w.cell? ⟨D,o,none⟩).isSome=true) (h2:w.frozen? ⟨D,o,none⟩=false):(Instr.storeAt 9 (.pointer (some ⟨D,o,none⟩)) (.string s)).run Tryz.prog w = .ok () (w.setCell ⟨D,o,none⟩ (.string s)):=by
 obtain⟨u,hu⟩:=Option.isSome_iff_exists.1 h1
 simp[go_sem,hu,h2]
def CdV (b0:Nat) (c:Tr CdD) (v:Value) (w:World):Prop:=∃t:Cnd,v = .agg (cdS.vals t).toArray∧InC (fun k=>b0≤k) w t∧mapT CdA.d t=c
theorem results_c9 {fn:Func} {tmps:Array Value} {w:World} {a:Tmp} {t:TypeId} {v:Value} {p:Addr} (h:fn.results = #[.cell a t]) (hp:tmps.getD a undef = .pointer (some p)) (h1:(loadVar t p).run Tryz.prog w = .ok v w):(results fn tmps).run Tryz.prog w = .ok v w:=by
 unfold results
 rw[h]
 have hp2:tmps[a]?.getD undef = .pointer (some p):=by rw[←hp];simp
 simp[hp2,h1,asAddr]
end Go.Proofs.YtlmeinikknoeeaaGreatDoor
namespace Go.Proofs.YtlmeinikknoeeaaGreatDoor
set_option maxRecDepth 100000
set_option maxHeartbeats 2000000
set_option linter.unusedVariables false
set_option linter.unnecessarySimpa false
set_option linter.unusedSimpArgs false
open Go.RowKit
theorem fm1_c (t:Cnd) (b:Bool) (w:World) (h:∀wx,Ext w wx→Calls Tryz.prog 131 #[.agg (cdS.vals t).toArray] wx fun e w'=>e = .returned (.bool b)∧Ext wx w') :
  Calls Tryz.prog 202 #[.agg (cdS.vals t).toArray] w fun e w'=>e = .returned (.bool (!b))∧Ext w w':=by
 have hB:=BxT.new w (cdS.vals t) 27
 have HB:=Lib.hid hB
 have hE0:Ext w (w.alloc (.cells (cdS.vals t).toArray 27)):=(Ext.refl w).alloc _
 have H:=Lib.hid (h _ hE0)
 clear hB h
 go_enter Tryz.func202,Tryz.ntmps202
 go_wp2_with (first
  | ((with_reducible show wpList _ _ _ (⟨some 3,.load _ _,_,_,_,_⟩::_) _ _);refine wpl_load rfl 27 _ rfl w.heap.size 0 rfl (cdS.vals t) _ HB.out.rd Tryz.underlying27 rfl (info_c t) ?_)
  | (go_at_call 131;(with_reducible refine H.out.mono ?_);rintro e w1 ⟨rfl,hE⟩))
 go_ret
 exact⟨by simp,hE0.trans hE⟩
theorem idxC_c (p:Cnd→Bool) (l:List Cnd) (A:Nat→Prop) (ao:Option Addr) (cap:Nat) (w:World) (hR:RdT cdS A w ao cap l)
  (h:∀x∈l,∀wx,Ext w wx→Calls Tryz.prog 202 #[.agg (cdS.vals x).toArray] wx fun e w'=>e = .returned (.bool (p x))∧Ext wx w') :
  Calls Tryz.prog 257 #[.slice ao l.length cap,.func (.func 202) #[] #[]] w fun e w'=>(∃z:Int,e = .returned (.int .i64 z)∧decide (0≤z)=l.any p)∧Ext w w':=by
 obtain⟨hlen,hcap,hrd⟩:=hR
 unfold maxLen at hcap
 have HL:=Lib.hid hrd
 have HC:=Lib.hid h
 have hcf:∀xs w',(callFunc 202 xs).run Tryz.prog w' = .ok (.enter 202 xs) w':=fun _ _=>by kernel_rfl
 obtain⟨G,hG⟩:∃G,G=l.any p:=⟨_,rfl⟩
 have HP:=Lib.hid hG
 rw[←hG]
 clear hG hrd h
 go_enter Tryz.func257,Tryz.ntmps257
 go_wp2_with fail
 go_loopw [8] (fun i wr=>∃j:Nat,j≤l.length∧i = .int .i64 (j:Int)∧Hid ((l.take j).any p=false)∧Ext w wr) (fun i _=>l.length-(intOf i).toNat)
 case atStart=>exact⟨0,Nat.zero_le _,rfl,rfl,Ext.refl _⟩
 case round=>
  obtain⟨j,hj,rfl,Hall,hE⟩:=hrel
  by_cases hlt:j<l.length
  ·obtain⟨R2,of2,rfl,-,hR0,hc⟩:=HL.out (by rintro rfl;simp at hlt)
   have HV:Hid (wr.rangeAt R2 (of2+j*7) (cdS.vals l[j])):=fun k v hv=>(hE.cells _ _ hR0).trans (hc j hlt k v hv)
   have Hs:Hid ((l.take (j+1)).any p=((l.take j).any p||p l[j])):=by rw[Hid,List.take_succ_eq_append_getElem hlt,List.any_append];simp
   have hmem:l[j]∈l:=List.getElem_mem _
   have HK:=Lib.hid (HC.out _ hmem wr hE)
   obtain⟨x,hx⟩:∃x,x=l[j]:=⟨_,rfl⟩
   rw[←hx]at HV Hs hmem HK
   clear hx hc
   rcases Bool.eq_false_or_eq_true (p x)with hq|hq
   ·have HT:Hid (G=true):=by rw[Hid,HP.out,List.any_eq_true];exact⟨_,hmem,hq⟩
    rw[hq]at HK
    clear hq hmem
    go_wp2_with (first
     | ((with_reducible show wpList _ _ _ (⟨some 15,.load _ _,_,_,_,_⟩::_) _ _);refine wpl_load rfl 27 _ rfl R2 (of2+j*7) rfl (cdS.vals x) _ HV.out Tryz.underlying27 rfl (info_c x) ?_)
     | (go_at_call 202;(with_reducible refine HK.out.mono ?_);rintro e w1 ⟨rfl,hE1⟩))
    go_ret
    exact⟨⟨(j:Int),rfl,by rw[HT.out];simp⟩,hE.trans hE1⟩
   ·have Hn:Hid ((l.take (j+1)).any p=false):=by rw[Hid,Hs.out,Hall.out,hq];rfl
    rw[hq]at HK
    clear hq hmem
    go_wp2_with (first
     | ((with_reducible show wpList _ _ _ (⟨some 15,.load _ _,_,_,_,_⟩::_) _ _);refine wpl_load rfl 27 _ rfl R2 (of2+j*7) rfl (cdS.vals x) _ HV.out Tryz.underlying27 rfl (info_c x) ?_)
     | (go_at_call 202;(with_reducible refine HK.out.mono ?_);rintro e w1 ⟨rfl,hE1⟩))
    go_roundw
    case rel=>exact⟨j+1,by omega,by go_num,Hn,hE.trans hE1⟩
    case measure=>simp[intOf];omega
  ·obtain rfl:j=l.length:=by omega
   have HV:Hid (G=false):=by rw[Hid,HP.out];have:=Hall.out;rwa [List.take_length]at this
   go_wp2_with fail
   go_ret
   exact⟨⟨-1,rfl,by rw[HV.out];rfl⟩,hE⟩
theorem conC_c (p:Cnd→Bool) (l:List Cnd) (A:Nat→Prop) (ao:Option Addr) (cap:Nat) (b:Bool) (w:World) (hR:RdT cdS A w ao cap l)
  (h:∀x∈l,∀wx,Ext w wx→Calls Tryz.prog 202 #[.agg (cdS.vals x).toArray] wx fun e w'=>e = .returned (.bool (p x))∧Ext wx w') (hb:l.any p=b) :
  Calls Tryz.prog 201 #[.slice ao l.length cap,.func (.func 202) #[] #[]] w fun e w'=>e = .returned (.bool b)∧Ext w w':=by
 have HC:=Lib.hid (idxC_c p l A ao cap w hR h)
 rw[hb]at HC
 clear hR hb h
 go_enter Tryz.func201,Tryz.ntmps201
 go_wp2_with (first
  | (go_at_call 257;(with_reducible refine HC.out.mono ?_);rintro e w1 ⟨⟨z,rfl,hz⟩,hE1⟩))
 all_goals
  go_ret
  exact⟨by rw[←hz];rfl,hE1⟩
theorem fmdPs_any:∀l:List (Tr CdD),fmdPs l = !(l.any fun x=>!fmdP x)
 | []=>rfl
 | c::r=>by rw[fmdPs,fmdPs_any r,List.any_cons];cases fmdP c<;>simp
theorem qformed_c:∀(n:Nat) (t:Cnd),szC t≤n→∀(A:Nat→Prop) (w:World),InC A w t→Rsv w→
  Calls Tryz.prog 131 #[.agg (cdS.vals t).toArray] w fun e w'=>e = .returned (.bool (fmdP (mapT CdA.d t)))∧Ext w w'
 | 0,t,hn,_,_,_,_=>by have:=szC_pos t;omega
 | n+1,.mk a l,hn,A,w,hI,hw=>by
   have hR:=hI.parts.2.1
   have hok:=hI.parts.1
   have HR:=Lib.hid hR
   have hE0:Ext w (w.alloc (.cells (cdS.vals (.mk a l)).toArray 27)):=(Ext.refl w).alloc _
   have hB:=BxT.new w (cdS.vals (.mk a l)) 27
   have HK:Hid (∀x∈l,∀wx,Ext w wx→Calls Tryz.prog 202 #[.agg (cdS.vals x).toArray] wx fun e w'=>e = .returned (.bool (!fmdP (mapT CdA.d x)))∧Ext wx w'):=fun x hx wx hE=>by
    have hxs:szC x≤n:=by
     have:=szC_lt (t:=.mk a l) (show x∈(Tr.mk a l).l from hx)
     omega
    refine fm1_c x _ wx fun wy hEy=>?_
    exact qformed_c n x hxs A wy (InC.ext (hI.parts.2.2 x hx) (hE.trans hEy)) (hw.ext (hE.trans hEy))
   obtain⟨⟨k,col,oth,vk,vn,vs⟩,ao,cap⟩:=a
   obtain⟨hb1,hb2,-,-,-,-⟩:=hok
   have c0:(w.alloc (.cells (cdS.vals (.mk ⟨⟨k,col,oth,vk,vn,vs⟩,ao,cap⟩ l)).toArray 27)).cell? ⟨w.heap.size,0,none⟩=some (.int .i64 k):=hB.at 0 _ rfl
   have c1:(w.alloc (.cells (cdS.vals (.mk ⟨⟨k,col,oth,vk,vn,vs⟩,ao,cap⟩ l)).toArray 27)).cell? ⟨w.heap.size,1,none⟩=some (.string ⟨col.toArray⟩):=hB.at 1 _ rfl
   have c2:(w.alloc (.cells (cdS.vals (.mk ⟨⟨k,col,oth,vk,vn,vs⟩,ao,cap⟩ l)).toArray 27)).cell? ⟨w.heap.size,2,none⟩=some (.string ⟨oth.toArray⟩):=hB.at 2 _ rfl
   have c6:(w.alloc (.cells (cdS.vals (.mk ⟨⟨k,col,oth,vk,vn,vs⟩,ao,cap⟩ l)).toArray 27)).cell? ⟨w.heap.size,6,none⟩=some (.slice ao l.length cap):=hB.at 6 _ rfl
   have HW:=Lib.hid (hw.ext hE0)
   have HB1:Hid (col.length≤9223372036854775806):=hb1
   have HB2:Hid (oth.length≤9223372036854775806):=hb2
   obtain⟨G,hG⟩:∃G,fmdP (mapT CdA.d (.mk ⟨⟨k,col,oth,vk,vn,vs⟩,ao,cap⟩ l))=G:=⟨_,rfl⟩
   rw[hG]
   rw[mapT,fmdP]at hG
   simp only at hG
   by_cases h12:k=1∨k=2
   ·rw[if_pos h12]at hG
    obtain⟨q,hq⟩:∃q,nmQ col=q:=⟨_,rfl⟩
    obtain⟨r,hr⟩:∃r,nmQ oth=r:=⟨_,rfl⟩
    have Hq:=Lib.hid hq
    have Hr:=Lib.hid hr
    rw[hq,hr]at hG
    by_cases ho:oth = []
    ·have ho2:(oth == [])=true:=by rw[ho];rfl
     obtain rfl:q=G:=by rw[←hG,decide_eq_true ho];simp
     clear hG hq hr HK HR hI hR hb1 hb2 hB hw ho
     rcases h12 with rfl|rfl
     all_goals
      cases q
      all_goals
       go_enter Tryz.func131,Tryz.ntmps131
       go_wp2_with (first
        | (go_at_call 169;(with_reducible refine(qname_c col _ _ HB1.out HW.out Hq.out).mono ?_);rintro e w1 ⟨rfl,rfl⟩))
       go_ret
       exact⟨rfl,hE0⟩
    ·have ho2:(oth == [])=false:=by rw[beq_eq_false_iff_ne];exact ho
     have hG:(q&&r)=G:=by rw[←hG,decide_eq_false ho];simp
     clear hq hr HK HR hI hR hb1 hb2 hB hw ho
     subst hG
     rcases h12 with rfl|rfl
     all_goals
      cases q
      all_goals
       cases r
       all_goals
        go_enter Tryz.func131,Tryz.ntmps131
        go_wp2_with (first
         | (go_at_call 169;(with_reducible refine(qname_c col _ _ HB1.out HW.out Hq.out).mono ?_);rintro e w1 ⟨rfl,rfl⟩)
         | (go_at_call 169;(with_reducible refine(qname_c oth _ _ HB2.out HW.out Hr.out).mono ?_);rintro e w1 ⟨rfl,rfl⟩))
        go_ret
        exact⟨rfl,hE0⟩
   ·rw[if_neg h12,mapTs_map,fmdPs_any,List.any_map]at hG
    have k1:(k==1)=false:=by rw[beq_eq_false_iff_ne];exact fun e=>h12 (.inl e)
    have k2:(k==2)=false:=by rw[beq_eq_false_iff_ne];exact fun e=>h12 (.inr e)
    obtain⟨b,hb⟩:∃b,(l.any ((fun x=>!fmdP x) ∘ mapT CdA.d))=b:=⟨_,rfl⟩
    have hRR:=RdT.kp cdS (Kp.ext hE0) HR.out
    have HC:=Lib.hid (conC_c _ l A ao cap b _ hRR (fun x hx wx hE=>HK.out x hx wx (hE0.trans hE)) hb)
    rw[hb]at hG
    clear hb HK HR hI hR hb1 hb2 hB hw h12 hRR
    subst hG
    go_enter Tryz.func131,Tryz.ntmps131
    go_wp2_with (first
     | (go_at_call 201;(with_reducible refine HC.out.mono ?_);rintro e w1 ⟨rfl,hE⟩))
    go_ret
    exact⟨rfl,hE0.trans hE⟩
end Go.Proofs.YtlmeinikknoeeaaGreatDoor
namespace Go.Proofs.YtlmeinikknoeeaaGreatDoor
set_option maxRecDepth 100000
set_option linter.unusedVariables false
set_option linter.unnecessarySimpa false
set_option linter.unusedSimpArgs false
open Go.RowKit
theorem idxK_c (F:Value) (w:World):Calls Tryz.prog 166 #[.slice none 0 0,F] w fun e w'=>e = .returned (.int .i64 (-1))∧Ext w w':=by
 go_enter Tryz.func166,Tryz.ntmps166
 go_wp2_with fail
 go_loopw [8] (fun i wr=>i = .int .i64 0∧Ext w wr) (fun i _=>0)
 case atStart=>exact⟨rfl,Ext.refl _⟩
 case round=>
  obtain⟨rfl,hE⟩:=hrel
  go_wp2_with fail
  go_ret
  exact⟨rfl,hE⟩
theorem vfind_c (s:List UInt8) (w:World):Calls Tryz.prog 240 #[.slice none 0 0,.string ⟨s.toArray⟩] w fun e w'=>e = .returned (.int .i64 (-1))∧Ext w w':=by
 have hmf:∀(fn:Fn) (first cap:Array Value) (w:World),(Instr.makeFunc fn first cap).run Tryz.prog w = .ok (.func fn first cap) w:=fun _ _ _ _=>rfl
 go_enter Tryz.func240,Tryz.ntmps240
 go_wp2_with (first
  | (go_at_call 166;(with_reducible refine(idxK_c _ _).mono ?_);rintro e w1 ⟨rfl,hE⟩))
 go_ret
 exact⟨rfl,((Ext.refl w).alloc _).trans hE⟩
set_option maxHeartbeats 2000000 in
theorem vtyped_c:∀(n:Nat) (t:Cnd),szC t≤n→∀(A:Nat→Prop) (w:World),InC A w t→
  Calls Tryz.prog 165 #[.agg (cdS.vals t).toArray,.slice none 0 0] w fun e w'=>(∃z:Int,e = .returned (.int .i64 z)∧z≠1)∧Ext w w'
 | 0,t,hn,_,_,_=>by have:=szC_pos t;omega
 | n+1,.mk a l,hn,A,w,hI=>by
   have hR:=hI.parts.2.1
   have hE0:Ext w (w.alloc (.cells (cdS.vals (.mk a l)).toArray 27)):=(Ext.refl w).alloc _
   have hB:=BxT.new w (cdS.vals (.mk a l)) 27
   have HK:Hid (∀x∈l,∀wx,Ext w wx→Calls Tryz.prog 165 #[.agg (cdS.vals x).toArray,.slice none 0 0] wx fun e w'=>(∃z:Int,e = .returned (.int .i64 z)∧z≠1)∧Ext wx w'):=fun x hx wx hE=>by
    have hxs:szC x≤n:=by
     have:=szC_lt (t:=.mk a l) (show x∈(Tr.mk a l).l from hx)
     omega
    exact vtyped_c n x hxs A wx (InC.ext (hI.parts.2.2 x hx) hE)
   obtain⟨⟨k,col,oth,vk,vn,vs⟩,ao,cap⟩:=a
   have c0:(w.alloc (.cells (cdS.vals (.mk ⟨⟨k,col,oth,vk,vn,vs⟩,ao,cap⟩ l)).toArray 27)).cell? ⟨w.heap.size,0,none⟩=some (.int .i64 k):=hB.at 0 _ rfl
   have c1:(w.alloc (.cells (cdS.vals (.mk ⟨⟨k,col,oth,vk,vn,vs⟩,ao,cap⟩ l)).toArray 27)).cell? ⟨w.heap.size,1,none⟩=some (.string ⟨col.toArray⟩):=hB.at 1 _ rfl
   have c6:(w.alloc (.cells (cdS.vals (.mk ⟨⟨k,col,oth,vk,vn,vs⟩,ao,cap⟩ l)).toArray 27)).cell? ⟨w.heap.size,6,none⟩=some (.slice ao l.length cap):=hB.at 6 _ rfl
   by_cases h12:k=1∨k=2
   ·clear HK hI hR hB
    rcases h12 with rfl|rfl
    all_goals
     go_enter Tryz.func165,Tryz.ntmps165
     go_wp2_with (first
      | (go_at_call 240;(with_reducible refine(vfind_c _ _).mono ?_);rintro e w1 ⟨rfl,hE⟩))
     go_ret
     exact⟨⟨7,rfl,by decide⟩,hE0.trans hE⟩
   ·have k1:(k==1)=false:=by rw[beq_eq_false_iff_ne];exact fun e=>h12 (.inl e)
    have k2:(k==2)=false:=by rw[beq_eq_false_iff_ne];exact fun e=>h12 (.inr e)
    obtain⟨hlen,hcap,hrd⟩:=hR
    unfold maxLen at hcap
    have hlen:l.length≤cap:=hlen
    have hcap:cap≤9223372036854775807:=hcap
    have HL:=Lib.hid hrd
    clear hI hB h12 hrd
    go_enter Tryz.func165,Tryz.ntmps165
    go_wp2_with fail
    go_loopw [52] (fun i wr=>∃j:Nat,j≤l.length∧i = .int .i64 (j:Int)∧Ext w wr) (fun i _=>l.length-(intOf i).toNat)
    case atStart=>exact⟨0,Nat.zero_le _,rfl,hE0⟩
    case round=>
     obtain⟨j,hj,rfl,hE⟩:=hrel
     by_cases hlt:j<l.length
     ·obtain⟨R2,of2,e2,-,hR0,hc⟩:=HL.out (by rintro rfl;simp at hlt)
      have e2:ao=some ⟨R2,of2,none⟩:=e2
      subst e2
      have HV:Hid (wr.rangeAt R2 (of2+j*7) (cdS.vals l[j])):=fun k v hv=>(hE.cells _ _ hR0).trans (hc j hlt k v hv)
      have hmem:l[j]∈l:=List.getElem_mem _
      have HKx:=Lib.hid (HK.out _ hmem)
      obtain⟨x,hx⟩:∃x,x=l[j]:=⟨_,rfl⟩
      rw[←hx]at HV hmem HKx
      clear hx hc hmem HK
      go_wp2_with (first
       | ((with_reducible show wpList _ _ _ (⟨some 55,.load _ _,_,_,_,_⟩::_) _ _);refine wpl_elem rfl rfl rfl 27 _ _ _ rfl rfl rfl R2 (of2+j*7) rfl (cdS.vals x) zeroC _ HV.out Tryz.underlying27 rfl (info_c x) (vals_one_c x) rfl alloc_c rfl rfl ?_;intro W hEW hBW)
       | ((with_reducible show wpList _ _ _ (⟨some 56,.load _ _,_,_,_,_⟩::_) _ _);refine wpl_load rfl 27 _ rfl wr.heap.size 0 rfl (cdS.vals x) _ hBW.2 Tryz.underlying27 rfl (info_c x) ?_)
       | (go_at_call 165;(with_reducible refine(HKx.out _ (hE.trans hEW)).mono ?_);rintro e w1 ⟨⟨z,rfl,hz⟩,hE1⟩;rcases Decidable.em (z=0)with hz0|hz0;subst hz0))
      ·go_roundw
       case rel=>exact⟨j+1,by omega,by go_num,(hE.trans hEW).trans hE1⟩
       case measure=>simp[intOf];omega
      ·have hz1:(z != 0)=true:=by simpa using hz0
       go_wp2_with fail
       go_ret
       exact⟨⟨z,rfl,hz⟩,(hE.trans hEW).trans hE1⟩
     ·obtain rfl:j=l.length:=by omega
      go_wp2_with fail
      go_ret
      exact⟨⟨0,rfl,by decide⟩,hE⟩
end Go.Proofs.YtlmeinikknoeeaaGreatDoor
namespace Go.Proofs.YtlmeinikknoeeaaGreatDoor
set_option linter.unusedVariables false
set_option linter.unnecessarySimpa false
set_option linter.unusedSimpArgs false
open Go.RowKit Go.Maps
theorem wpList_insert_own {H:Type} {P:Program} (w:World) {ops:Array Oper} {rest:List Oper} {o:Oper} {a:Act} {Q:Exit→Act→World→Prop}
  (hg:o.guard=none) (m x v:Operand) (t:TypeId) (hop:o.op=Op.insert t m x v)
  (k e:TypeId) (K:Keyed P k) (ht:P.underlying t=some (.map k e)) (R:Value→Option (DataW H×List MemPlace)) (b n:Nat) (D:DataW H)
  (hm:a.eval m = .map (some b)) (hown:w.ownsMap P k R b n D) (hn:n<maxLen) (key val:Value) (kl:Lit) (hx:a.eval x=key) (hv:a.eval v=val) (hkey:keyOf P k key=some kl)
  (d:DataW H) (ps:List MemPlace) (hval:R val=some (d,ps))
  (hK:∀w',w'.ownsMap P k R b (n+1) (D.put kl d)→w.grownBy w' (some b)→wpList P ops Q rest (a.put o.dst undef) w') :
  wpList P ops Q (o::rest) a w:=by
 refine wpList_plain hg fun K' hK'=>?_
 obtain⟨w',hrun,r1,r2⟩:=hown.update K ht hn hkey hval
 unfold Oper.wp
 simp[execOp,hop,hm,hx,hv,hrun,Result.andThen]
 exact hK' _ _ (hK w' r1 r2)
end Go.Proofs.YtlmeinikknoeeaaGreatDoor
