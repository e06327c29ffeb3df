/- Queries: the parser in memory; what stands between the words group and of. -/
import Derived.Test.YtlmeinikknoeeaaGreatDoorQ27
import Derived.Test.YtlmeinikknoeeaaGreatDoorQ16
namespace Go.Proofs.YtlmeinikknoeeaaGreatDoor
set_option linter.unusedVariables false
set_option linter.unnecessarySimpa false
set_option linter.unusedSimpArgs false
open Go.RowKit
def gqA (k:Int) (cs:List (List UInt8)) (ca:Option Addr) (cc:Nat) (ns:List (List UInt8)) (na:Option Addr) (nc:Nat) (fn:Int):Qry:=.mk ⟨k,[],cs,ca,cc,ns,na,nc,lfC CdD.zero,0,fn,0,0,none,0⟩ []
def ApS (b:Nat) (s:List UInt8) (x:Value) (w:World):Prop:=∃Y,x = .slice (some ⟨Y,0,none⟩) 1 1∧b≤Y∧Y<w.heap.size∧w.cell? ⟨Y,0,none⟩=some (.string ⟨s.toArray⟩)
def ApR (base:Nat) (Q:List (List UInt8)) (x:Value) (w:World):Prop:=∃no nc,x = .slice no Q.length nc∧w.ownsRow base 9 1 (.slice no Q.length nc) Q.length (sv Q)
theorem ApS.frm {b:Nat} {s:List UInt8} {x:Value} {S:Nat→Prop} {w w':World} (h:ApS b s x w) (hF:Frm S w w') (hS:∀k,S k→k<b):ApS b s x w':=by
 obtain⟨Y,h1,h2,h3,h4⟩:=h
 exact⟨Y,h1,h2,hF.lt h3,(hF.cel h3 (fun e=>by have:=hS _ e;omega) _).trans h4⟩
theorem ApR.frm {base:Nat} {Q:List (List UInt8)} {x:Value} {S:Nat→Prop} {w w':World} (h:ApR base Q x w) (hF:Frm S w w') (hS:∀k,S k→k<base):ApR base Q x w':=by
 obtain⟨no,nc,h1,h2⟩:=h
 exact⟨no,nc,h1,own_frmZ h2 hF (fun k h3 _ e=>by have:=hS _ e;omega)⟩
theorem ApR.mk {base:Nat} {P:List (List UInt8)} {s:List UInt8} {v:Value} {w:World} (h:w.ownsRow base 9 1 v (P.length+1) (sv P ++ [.string ⟨s.toArray⟩])):ApR base (P ++ [s]) v w:=by
 obtain⟨no,nc,rfl⟩:=own_slice h
 refine⟨no,nc,by rw[List.length_append];rfl,?_⟩
 rw[sv_app,List.length_append]
 exact h
theorem ap_cell {Y:Nat} {x:Value} {w:World} (h:w.cell? ⟨Y,0,none⟩=some x):∀j u,[x][j]? = some u→w.cell? ((⟨Y,0,none⟩:Addr).add j)=some u:=by
 intro j u hu
 cases j with
 | zero=>injection hu with hu;subst hu;rw[Addr.add_mid];exact h
 | succ j=>cases hu
theorem bs1_s (s:List UInt8) (w:World):(Instr.buildSlice 22 1 #[(0,.string ⟨s.toArray⟩)]).run Tryz.prog w = .ok (.slice (some ⟨w.heap.size,0,none⟩) 1 1) (w.alloc (.cells #[.string ⟨s.toArray⟩] 9)):=by kernel_rfl
theorem fa_q2 (D:Nat) (w:World):(Instr.fieldAt 32 (.pointer (some ⟨D,0,none⟩)) 2).run Tryz.prog w = .ok (.pointer (some ⟨D,2,none⟩)) w:=by kernel_rfl
theorem fa_q3 (D:Nat) (w:World):(Instr.fieldAt 32 (.pointer (some ⟨D,0,none⟩)) 3).run Tryz.prog w = .ok (.pointer (some ⟨D,3,none⟩)) w:=by kernel_rfl
theorem fa_q6 (D:Nat) (w:World):(Instr.fieldAt 32 (.pointer (some ⟨D,0,none⟩)) 6).run Tryz.prog w = .ok (.pointer (some ⟨D,12,none⟩)) w:=by kernel_rfl
theorem fa_t0 (D:Nat) (w:World):(Instr.fieldAt 140 (.pointer (some ⟨D,0,none⟩)) 0).run Tryz.prog w = .ok (.pointer (some ⟨D,0,none⟩)) w:=by kernel_rfl
theorem fa_t1 (D:Nat) (w:World):(Instr.fieldAt 140 (.pointer (some ⟨D,0,none⟩)) 1).run Tryz.prog w = .ok (.pointer (some ⟨D,1,none⟩)) w:=by kernel_rfl
theorem ld_sl (D o:Nat) (v:Value) (w:World) (h:w.cell? ⟨D,o,none⟩=some v):(Instr.loadAt 22 (.pointer (some ⟨D,o,none⟩))).run Tryz.prog w = .ok v w:=by simp[go_sem,h]
theorem ld_int (D o:Nat) (v:Value) (w:World) (h:w.cell? ⟨D,o,none⟩=some v):(Instr.loadAt 3 (.pointer (some ⟨D,o,none⟩))).run Tryz.prog w = .ok v w:=by simp[go_sem,h]
theorem ld_str (D o:Nat) (v:Value) (w:World) (h:w.cell? ⟨D,o,none⟩=some v):(Instr.loadAt 9 (.pointer (some ⟨D,o,none⟩))).run Tryz.prog w = .ok v w:=by simp[go_sem,h]
theorem st_sl (D o:Nat) (so:Option Addr) (n c:Nat) (w:World) (h1:(w.cell? ⟨D,o,none⟩).isSome=true) (h2:w.frozen? ⟨D,o,none⟩=false):(Instr.storeAt 22 (.pointer (some ⟨D,o,none⟩)) (.slice so n c)).run Tryz.prog w = .ok () (w.setCell ⟨D,o,none⟩ (.slice so n c)):=by
 obtain⟨u,hu⟩:=Option.isSome_iff_exists.1 h1
 simp[go_sem,hu,h2]
theorem st_slq (D o:Nat) (so:Option Addr) (n c:Nat) (w:World) (h1:(w.cell? ⟨D,o,none⟩).isSome=true) (h2:w.frozen? ⟨D,o,none⟩=false):(Instr.storeAt 30 (.pointer (some ⟨D,o,none⟩)) (.slice so n c)).run Tryz.prog w = .ok () (w.setCell ⟨D,o,none⟩ (.slice so n c)):=by
 obtain⟨u,hu⟩:=Option.isSome_iff_exists.1 h1
 simp[go_sem,hu,h2]
def zeroT:List Value:=[.int .i64 0,.string ⟨#[]⟩,.int .i64 0,.int .i64 0,.string ⟨#[]⟩,.int .i64 0,.int .i64 0]
theorem alloc_t (w:World):(Instr.alloc 140 true (.tuple #[])).run Tryz.prog w = .ok (.pointer (some ⟨w.heap.size,0,none⟩)) (w.alloc (.cells zeroT.toArray 140)):=by kernel_rfl
theorem info_t (t:TkD):(Tryz.prog.info? 140).map (·.size)=some (tkC t).length:=by rw[show (tkC t).length=7 by rfl];kernel_rfl
theorem vals_one_t (t:TkD):(tkC t).all (·.oneCell')=true:=rfl
theorem gs_st1Z {P:Program} {op:Oper} {a:Act} {w:World} {Q:Exit→Act→World→Prop} {K:Act→World→Prop} (hd:op.dst=none) (ty:TypeId) (x y:Operand) (ho:op.op = .store ty x y) (D o:Nat) (vs:List Value) (v:Value) (hx:a.eval x = .pointer (some ⟨D,o,none⟩)) (hy:a.eval y=v)
  (hB:BxT D vs w) (hl:o<vs.length) (hrun:∀w:World,(w.cell? ⟨D,o,none⟩).isSome=true→w.frozen? ⟨D,o,none⟩=false→(Instr.storeAt ty (.pointer (some ⟨D,o,none⟩)) v).run P w = .ok () (w.setCell ⟨D,o,none⟩ v))
  (h:∀W,Frm (fun k=>k=D) w W→BxT D (vs.set o v) W→K (a.put none undef) W):op.wp P a w K Q:=
 gs_storeOZ hd ho hx hy (hrun w (by rw[hB.at o _ (List.getElem?_eq_getElem hl)];rfl) (hB.fz o hl)) (h _ (Frm.setCell (Frm.refl (fun k=>k=D) w) (p:=⟨D,o,none⟩) (.inl rfl) v) (hB.set o v hl))
def PRD {α:Type} (D:Nat) (L:List TkD) (ao:Option Addr) (cap B:Nat) (w:World) (V:α→Value→World→Prop) (r:Rs α) (e:Ending) (w':World):Prop:=
 Frm (fun k=>k=B∨k=D) w w'∧match r with
  | .ok a j=>∃v,e = .returned v∧V a v w'∧Psr L ao cap B j w'
  | .bad l c er=>e = .panicked [{v:=flV l c er,recovered:=false}]
theorem PRD.no {α:Type} {D:Nat} {L:List TkD} {ao:Option Addr} {cap B:Nat} {w W':World} {V:α→Value→World→Prop} {r:Rs α} {l c er:Int} (hr:r = .bad l c er) (hF:Frm (fun k=>k=B∨k=D) w W'):PRD D L ao cap B w V r (.panicked [{v:=flV l c er,recovered:=false}]) W':=by
 subst hr
 exact⟨hF,rfl⟩
theorem PRD.fin {α:Type} {D:Nat} {L:List TkD} {ao:Option Addr} {cap B j:Nat} {w W':World} {V:α→Value→World→Prop} {r:Rs α} {a:α} {v:Value} (hr:r = .ok a j) (hP:Psr L ao cap B j W') (hF:Frm (fun k=>k=B∨k=D) w W') (hv:V a v W'):PRD D L ao cap B w V r (.returned v) W':=by
 subst hr
 exact⟨hF,v,rfl,hv,hP⟩
def FnO (x:Value) (w:World):Prop:=∃M,x = .map (some M)∧MpM M 4 fnP w
theorem FnO.ext {x:Value} {w w':World} (h:FnO x w) (hE:Ext w w'):FnO x w':=by
 obtain⟨M,h1,h2⟩:=h
 exact⟨M,h1,h2.ext hE⟩
def GrV (D b0:Nat) (g:List (List UInt8)×Int×List (List UInt8)) (v:Value) (w:World):Prop:=∃ca cc na nc,v = .tuple #[]∧BxT D (qnS.vals (gqA 9 g.1 ca cc g.2.2 na nc g.2.1)) w∧TxA (fun k=>b0≤k) w ca cc g.1∧TxA (fun k=>b0≤k) w na nc g.2.2
def grP2 (L:List TkD) (cs:List (List UInt8)) (i:Nat):Rs (List (List UInt8)×Int×List (List UInt8)):=(pkP L i).bind fun u i=>
    if u.k≠1∨fnP u.tx=0 then wrP L 3 i else(if fnP u.tx=1 then .ok [] (i+1)else(naP L (i+1)).bind fun s j=>.ok [s] j).bind fun ns i=>(exP L wAs i).bind fun _ i=>(naP L i).bind fun s i=>.ok (cs,fnP u.tx,ns ++ [s]) i
def grP3 (L:List TkD) (cs:List (List UInt8)) (f:Int) (ns:List (List UInt8)) (i:Nat):Rs (List (List UInt8)×Int×List (List UInt8)):=(exP L wAs i).bind fun _ i=>(naP L i).bind fun s i=>.ok (cs,f,ns ++ [s]) i
theorem grP_1 {L:List TkD} {i:Nat} {t:TkD} (hi:L[i]? = some t) (h:t.k≠1∨fnP t.tx=0):grP L i=(nasP L i).bind fun cs i=>grP2 L cs i:=by
 unfold grP
 rw[pkP_at hi]
 show((if _ then _ else _:Rs _).bind _:Rs _)=_
 rw[if_pos h]
 rfl
theorem grP_2 {L:List TkD} {i:Nat} {t:TkD} (hi:L[i]? = some t) (h:¬(t.k≠1∨fnP t.tx=0)):grP L i=grP2 L [] i:=by
 unfold grP
 rw[pkP_at hi]
 show((if _ then _ else _:Rs _).bind _:Rs _)=_
 rw[if_neg h]
 rfl
def GrC (D:Nat) (L:List TkD) (ao:Option Addr) (cap B:Nat) (w:World) (G:Rs (List (List UInt8)×Int×List (List UInt8))) (W:World):Prop:=
 ∃cs ca cc i1,grP2 L cs i1=G∧Psr L ao cap B i1 W∧BxT D (qnS.vals (gqA 9 cs ca cc [] none 0 0)) W∧TxA (fun k=>w.heap.size≤k) W ca cc cs∧Frm (fun k=>k=B∨k=D) w W
def GrD (D:Nat) (L:List TkD) (ao:Option Addr) (cap B:Nat) (w:World) (b0:Nat) (cs:List (List UInt8)) (ca:Option Addr) (cc:Nat) (f:Int) (G:Rs (List (List UInt8)×Int×List (List UInt8))) (W:World):Prop:=
 ∃ns na nc i2,grP3 L cs f ns i2=G∧Psr L ao cap B i2 W∧BxT D (qnS.vals (gqA 9 cs ca cc ns na nc f)) W∧TxA (fun k=>w.heap.size≤k∧k<b0) W ca cc cs∧W.ownsRow b0 9 1 (.slice na ns.length nc) ns.length (sv ns)∧(∀x∈ns,nmQ x=true)∧ns.length≤1∧Frm (fun k=>k=B∨k=D) w W∧b0≤W.heap.size
section
variable {L:List TkD} {ao:Option Addr} {cap B:Nat}
set_option maxRecDepth 100000 in
set_option maxHeartbeats 8000000 in
theorem group_c {i D:Nat} {w:World} (h:Psr L ao cap B i w) (hBD:B<D) (hD:BxT D (qnS.vals (gqA 9 [] none 0 [] none 0 0)) w) :
  Calls Tryz.prog 115 #[.pointer (some ⟨B,0,none⟩),.pointer (some ⟨D,0,none⟩)] w (PRD D L ao cap B w (GrV D w.heap.size) (grP L i)):=by
 have hBl:=h.hB
 have hDl:=hD.hD
 have hl7:=h.hl
 cases hi:L[i]? with
 | none=>
   have HB:Hid (grP L i = .bad 0 0 4):=by rw[Hid];unfold grP pkP;rw[hi];rfl
   have HP:=Lib.hid (peek_no h (h.end hi))
   clear hi
   go_enter Tryz.func115,Tryz.ntmps115
   go_wp2_with (first
    | (go_at_call 107;(with_reducible refine HP.out.mono ?_);rintro x w1 ⟨rfl,hE⟩))
   exact⟨rfl,PRD.no HB.out (Frm.of_ext hE)⟩
 | some t=>
   have HP:=Lib.hid (peek_ok h t hi)
   have ht:=(h.bdt hi).1
   unfold Bs at ht
   have Hi:=Lib.hid hi
   have HD:=Lib.hid hD
   obtain⟨bq,hbq⟩:∃bq,bq=decide (t.k≠1∨fnP t.tx=0):=⟨_,rfl⟩
   have HQ:=Lib.hid hbq
   obtain⟨G,hG⟩:∃G,grP L i=G:=⟨_,rfl⟩
   have HG:=Lib.hid hG
   rw[hG]
   clear hi hD hbq hG
   go_enter Tryz.func115,Tryz.ntmps115
   go_wp2_with (first
    | (go_at_call 107;(with_reducible refine HP.out.mono ?_);rintro x w1 ⟨rfl,hE1⟩)
    | ((with_reducible show wpList _ _ _ (⟨some 4,.alloc _,_,_,_,_⟩::_) _ _);refine wpl_new rfl 140 zeroT rfl alloc_t ?_;intro WT hET hRT hzT)
    | ((with_reducible show wpList _ _ _ (⟨none,.store _ (.tmp 4) _,_,_,_,_⟩::_) _ _);refine wpl_st rfl 140 _ _ rfl w1.heap.size zeroT (tkC t) rfl rfl hRT rfl (info_t t) (vals_one_t t) ?_;intro WU hFU hRU))
   have hz1:=hE1.size
   have hEU:Ext w WU:=Frm.far (hE1.trans hET) hFU (fun k h1 e=>by omega)
   have HU:=Lib.hid hEU
   have HRU:=Lib.hid hRU
   clear hFU hRU hRT hET hE1 hEU HP
   generalize w1.heap.size=T at *
   go_frame
   go_cut [17]from 8 to 17 (fun x wx=>x = .bool bq∧Ext WU wx)
   case first=>
    by_cases hk:t.k=1
    ·have k1:(t.k != 1)=false:=by rw[hk];rfl
     have hb:(fnP t.tx==0)=bq:=by
      rw[HQ.out,Bool.eq_iff_iff,beq_iff_eq,decide_eq_true_eq]
      exact⟨.inr,fun q=>q.resolve_left (fun q=>q hk)⟩
     have hRU0:=Lib.hid (HRU.out.at 0 _ rfl)
     have hRU1:=Lib.hid (HRU.out.at 1 _ rfl)
     refine wp_region_growG [8,9,10,11,12,13,14,15,16,17] [fun x _=>x = .pointer (some ⟨T,0,none⟩),fun x _=>x = .int .i64 t.k,fun x _=>x = .bool false,fun x _=>x = .bool false,FnO,fun x _=>x = .pointer (some ⟨T,1,none⟩),fun x _=>x = .string ⟨t.tx.toArray⟩,fun x _=>x = .int .i64 (fnP t.tx),fun x _=>x = .bool bq,fun x _=>x = .bool bq] 0 (by kernel_rfl) (by kernel_rfl) (by kernel_rfl) (by kernel_rfl) ?_ ?_ ?_ ?_
     ·intro Rl hRl
      simp only[List.mem_cons,List.not_mem_nil,or_false]at hRl
      rcases hRl with rfl|rfl|rfl|rfl|rfl|rfl|rfl|rfl|rfl|rfl
      all_goals first
       | exact fun _ _ _ h _=>h
       | exact fun _ _ _ h hE=>FnO.ext h hE
     ·refine⟨?_,?_,?_,?_,?_,?_,?_,?_,?_,?_,trivial⟩
      all_goals
       intro j b hjb v w h
       first
        | (cases hjb;done)
        | (cases hjb;exact h)
     ·refine⟨?_,?_,?_,?_,?_,?_,?_,?_,?_,?_,trivial⟩
      all_goals intro a wv hE hF hD K hK
      ·exact gs_valZ rfl (yr_fieldZ rfl ((hF 4 (fr_ofZ rfl)).trans rfl) (fa_t0 T wv)) (hK _ _ rfl (Ext.refl _))
      ·have u:a.eval (.tmp 8) = .pointer (some ⟨T,0,none⟩):=hD 0 (by kernel_rfl)
       exact gs_valZ rfl (yr_loadZ rfl u (ld_int T 0 _ wv ((HRU.out.ext hE).at 0 _ rfl))) (hK _ _ rfl (Ext.refl _))
      ·have u:a.eval (.tmp 9) = .int .i64 t.k:=hD 1 (by kernel_rfl)
       exact gs_valZ rfl (yr_neiZ rfl u rfl k1) (hK _ _ rfl (Ext.refl _))
      ·have u:a.eval (.tmp 10) = .bool false:=hD 2 (by kernel_rfl)
       exact gs_valZ rfl (yr_moveZ rfl u) (hK _ _ rfl (Ext.refl _))
      ·refine gs_callZ rfl (yr_callZ rfl rfl (show(#[]:Array Operand).map a.eval = #[] by simp) (by kernel_rfl)) (funs_c wv) ?_
       rintro e w' ⟨M,rfl,hM,hE2⟩
       exact .inl ⟨_,rfl,hK _ _ ⟨M,rfl,hM⟩ hE2⟩
      ·exact gs_valZ rfl (yr_fieldZ rfl ((hF 4 (fr_ofZ rfl)).trans rfl) (fa_t1 T wv)) (hK _ _ rfl (Ext.refl _))
      ·have u:a.eval (.tmp 13) = .pointer (some ⟨T,1,none⟩):=hD 5 (by kernel_rfl)
       exact gs_valZ rfl (yr_loadZ rfl u (ld_str T 1 _ wv ((HRU.out.ext hE).at 1 _ rfl))) (hK _ _ rfl (Ext.refl _))
      ·obtain⟨M,u1,hM⟩:FnO (a.eval (.tmp 12)) wv:=hD 4 (by kernel_rfl)
       have u2:a.eval (.tmp 14) = .string ⟨t.tx.toArray⟩:=hD 6 (by kernel_rfl)
       exact gs_valZ rfl (yr_lookZ rfl u1 u2 (hM.look t.tx ht _ rfl)) (hK _ _ rfl (Ext.refl _))
      ·have u:a.eval (.tmp 15) = .int .i64 (fnP t.tx):=hD 7 (by kernel_rfl)
       exact gs_valZ rfl (yr_eqiZ rfl u rfl hb) (hK _ _ rfl (Ext.refl _))
      ·have u:a.eval (.tmp 11) = .bool false:=hD 3 (by kernel_rfl)
       have u2:a.eval (.tmp 16) = .bool bq:=hD 8 (by kernel_rfl)
       exact gs_valZ rfl (yr_pickZ (b:=false) rfl u u2) (hK _ _ rfl (Ext.refl _))
     ·intro vals wz hEz hRz
      obtain⟨-,-,-,-,-,-,-,-,-,h9,-⟩:=hRz
      have e17:vals 9 = .bool bq:=h9
      refine wpAny_done (by kernel_rfl) ?_ _
      simp only[putF,Act.put,List.length_cons,List.length_nil,List.getD_cons_zero,List.getD_cons_succ,List.setIfInBounds_toArray,List.set_cons_zero,List.set_cons_succ,Nat.reduceAdd,e17]
      clear e17 hk k1 hb
      go_wp2_with fail
      go_meet
      case rel=>exact⟨rfl,hEz⟩
    ·have k1:(t.k != 1)=true:=by rw[bne_iff_ne];exact hk
     have c0:=HRU.out.at 0 _ rfl
     have hbt:bq=true:=by rw[HQ.out];exact decide_eq_true (.inl hk)
     subst hbt
     clear hk
     go_wp2_with fail
     go_quiet (fail)
     go_wp2_with fail
     go_meet
     case rel=>exact⟨rfl,(Ext.refl _).drewN _⟩
   case rest=>
    obtain⟨rfl,hEc⟩:=hcut
    have Hc:=Lib.hid (HU.out.trans hEc)
    clear hEc
    go_upto_if 17 with fail
    go_cut [4]from 18 to 22 (fun x wx=>x = .pointer (some ⟨T,0,none⟩)∧Hid (GrC D L ao cap B w G wx))
    case first=>
     cases bq with
     | true=>
       have HT:Hid (t.k≠1∨fnP t.tx=0):=(of_decide_eq_true HQ.out.symm:t.k≠1∨fnP t.tx=0)
       cases hn:nasP L i with
       | bad l c e=>
         have HB:Hid (G = .bad l c e):=by rw[Hid,←HG.out,grP_1 Hi.out HT.out,hn];rfl
         have HN:=pnames_c (h.ext Hc.out)
         rw[hn]at HN
         have HN:=Lib.hid HN
         clear hn
         go_wp2_with (first
          | (go_at_call 112;(with_reducible refine HN.out.mono ?_);rintro x w4 ⟨hF4,rfl⟩))
         exact⟨rfl,PRD.no HB.out ((Frm.of_ext Hc.out).trans (hF4.mono (fun x _ e=>.inl e)))⟩
       | ok cs i1=>
         have HG2:Hid (grP2 L cs i1=G):=by rw[Hid,←HG.out,grP_1 Hi.out HT.out,hn];rfl
         have HN:=pnames_c (h.ext Hc.out)
         rw[hn]at HN
         have HN:=Lib.hid HN
         clear hn
         have hzc:=Hc.out.size
         go_wp2_with (first
          | (go_at_call 112;(with_reducible refine HN.out.mono ?_);rintro x w4 ⟨hF4,v4,rfl,⟨ca,cc,rfl,hT4⟩,hP4⟩)
          | ((with_reducible show wpList _ _ _ (⟨none,.store _ (.tmp 22) _,_,_,_,_⟩::_) _ _);refine wpl_st1 rfl 22 _ _ rfl D 2 (qnS.vals (gqA 9 [] none 0 [] none 0 0)) (.slice ca cs.length cc) rfl rfl ((HD.out.ext Hc.out).frm hF4 (fun e=>by omega)) (by show 2<16;omega) (st_sl D 2 _ _ _) ?_;intro W5 hF5 hR5))
         have hcs:GrC D L ao cap B w G W5:=⟨cs,ca,cc,i1,HG2.out,hP4.frm hF5 (fun x e=>by omega),hR5,(hT4.mono (fun k h1 _=>by omega)).kp (Kp.frm hF5 (fun k h1 e=>by omega)),((Frm.of_ext Hc.out).trans (hF4.mono (fun x _ e=>.inl e))).trans (hF5.mono (fun x _ e=>.inr e))⟩
         go_wp2_with fail
         go_meet
         case rel=>exact⟨rfl,hcs⟩
     | false=>
       have HT:Hid (¬(t.k≠1∨fnP t.tx=0)):=(of_decide_eq_false HQ.out.symm:¬(t.k≠1∨fnP t.tx=0))
       have HG2:Hid (grP2 L [] i=G):=by rw[Hid,←HG.out,grP_2 Hi.out HT.out]
       have hcs:GrC D L ao cap B w G wc:=⟨[],none,0,i,HG2.out,h.ext Hc.out,HD.out.ext Hc.out,TxA.nil _ _,Frm.of_ext Hc.out⟩
       go_wp2_with fail
       go_meet
       case rel=>exact⟨rfl,hcs⟩
    case rest=>
     obtain⟨rfl,hcs⟩:=hcut
     obtain⟨cs,ca,cc,i1,hg2,hP,hR,hT,hF⟩:=hcs.out
     have HG2:=Lib.hid hg2;have HPc:=Lib.hid hP;have HRc:=Lib.hid hR;have HTc:=Lib.hid hT;have HFc:=Lib.hid hF
     have hzc:=hF.size
     clear hg2 hP hR hT hF hcs Hc HRU HU HG Hi HQ HD
     obtain⟨i0,hi0,hz0,hz1,hz2⟩:=info_parts infoStrZ
     have Hi:=Lib.hid hi0;have Hz0:=Lib.hid hz0;have Hz1:=Lib.hid hz1;have Hz2:=Lib.hid hz2
     clear hi0 hz0 hz1 hz2
     cases hu:L[i1]? with
     | none=>
       have HB:Hid (G = .bad 0 0 4):=by rw[Hid,←HG2.out];unfold grP2 pkP;rw[hu];rfl
       have HP:=Lib.hid (peek_no HPc.out (HPc.out.end hu))
       clear hu
       go_wp2_with (first
        | (go_at_call 107;(with_reducible refine HP.out.mono ?_);rintro x wE ⟨rfl,hEE⟩))
       exact⟨rfl,PRD.no HB.out (HFc.out.trans (Frm.of_ext hEE))⟩
     | some u=>
       have HP:=Lib.hid (peek_ok HPc.out u hu)
       have hut:=(HPc.out.bdt hu).1
       unfold Bs at hut
       have hul:=HPc.out.lt2 hu
       have Hu:=Lib.hid hu
       clear hu
       obtain⟨bk,hbk2⟩:∃bk,bk=decide (u.k=1):=⟨_,rfl⟩
       have huk:(u.k==1)=bk:=by rw[hbk2,Bool.eq_iff_iff,beq_iff_eq,decide_eq_true_eq]
       have Hbk:=Lib.hid hbk2
       clear hbk2
       go_upto_if 27 with(first
        | (go_at_call 107;(with_reducible refine HP.out.mono ?_);rintro x wE ⟨rfl,hEE⟩)
        | ((with_reducible show wpList _ _ _ (⟨some 5,.alloc _,_,_,_,_⟩::_) _ _);refine wpl_new rfl 140 zeroT rfl alloc_t ?_;intro WT hET hRT hzT)
        | ((with_reducible show wpList _ _ _ (⟨none,.store _ (.tmp 5) _,_,_,_,_⟩::_) _ _);refine wpl_st rfl 140 _ _ rfl wE.heap.size zeroT (tkC u) rfl rfl hRT rfl (info_t u) (vals_one_t u) ?_;intro WU hFU hRU;have ct0:=hRU.at 0 _ rfl))
       have hEU:Ext wc WU:=Frm.far (hEE.trans hET) hFU (fun k h1 e=>by have:=hEE.size;omega)
       have hzE:=hEE.size
       generalize hT5:wE.heap.size=T5 at *
       have HT5:=Lib.hid hRU
       have HP5:=Lib.hid (HPc.out.ext hEU)
       have HR5:=Lib.hid (HRc.out.ext hEU)
       have HTx5:=Lib.hid (HTc.out.ext hEU)
       have HF5:=Lib.hid (HFc.out.trans (Frm.of_ext hEU))
       have hzU:=hEU.size
       have c12:=HR5.out.at 12 _ rfl
       clear hEU hRU hFU hRT hET hEE HPc HRc HTc HFc HP ct0
       cases bk with
       | false=>
         have hku:¬u.k=1:=of_decide_eq_false Hbk.out.symm
         have HB:Hid (G = .bad u.ln u.cl 3):=by rw[Hid,←HG2.out];unfold grP2;rw[pkP_at Hu.out];exact(if_pos (.inl hku)).trans (wrP_at Hu.out 3)
         have HW:=Lib.hid (wrong_ok 3 HP5.out u Hu.out)
         clear hku
         go_wp2_with (first
          | (go_at_call 106;(with_reducible refine HW.out.mono ?_);rintro x wG ⟨rfl,hEG⟩))
         exact⟨rfl,PRD.no HB.out (HF5.out.trans (Frm.of_ext hEG))⟩
       | true=>
         have hku:u.k=1:=of_decide_eq_true Hbk.out.symm
         have Hku:=Lib.hid hku
         clear hku c12
         go_wp2_with fail
         refine wp_region_grow [28,29,30,31,32,33,34] [fun x _=>x = .pointer (some ⟨D,0,none⟩),FnO,fun x _=>x = .pointer (some ⟨T5,1,none⟩),fun x _=>x = .string ⟨u.tx.toArray⟩,fun x _=>x = .int .i64 (fnP u.tx),fun x _=>x = .pointer (some ⟨D,0,none⟩),fun x _=>x = .pointer (some ⟨D,12,none⟩)] 1 (by kernel_rfl) (by kernel_rfl) (by kernel_rfl) (by kernel_rfl) ?_ ?_ ?_
         ·intro Rl hRl
          simp only[List.mem_cons,List.not_mem_nil,or_false]at hRl
          rcases hRl with rfl|rfl|rfl|rfl|rfl|rfl|rfl
          all_goals first
           | exact fun _ _ _ h _=>h
           | exact fun _ _ _ h hE=>FnO.ext h hE
         ·refine⟨?_,?_,?_,?_,?_,?_,?_,trivial⟩
          all_goals intro a wv hE hF hD K hK
          ·exact gs_valZ rfl (yr_moveZ rfl ((hF 1 (fr_ofZ rfl)).trans rfl)) (hK _ _ rfl (Ext.refl _))
          ·refine gs_callZ rfl (yr_callZ rfl rfl (show(#[]:Array Operand).map a.eval = #[] by simp) (by kernel_rfl)) (funs_c wv) ?_
           rintro e w' ⟨M,rfl,hM,hE2⟩
           exact .inl ⟨_,rfl,hK _ _ ⟨M,rfl,hM⟩ hE2⟩
          ·exact gs_valZ rfl (yr_fieldZ rfl ((hF 5 (fr_ofZ rfl)).trans rfl) (fa_t1 T5 wv)) (hK _ _ rfl (Ext.refl _))
          ·have u0:a.eval (.tmp 30) = .pointer (some ⟨T5,1,none⟩):=hD 2 (by kernel_rfl)
           exact gs_valZ rfl (yr_loadZ rfl u0 (ld_str T5 1 _ wv ((HT5.out.ext hE).at 1 _ rfl))) (hK _ _ rfl (Ext.refl _))
          ·obtain⟨M,u1,hM⟩:FnO (a.eval (.tmp 29)) wv:=hD 1 (by kernel_rfl)
           have u2:a.eval (.tmp 31) = .string ⟨u.tx.toArray⟩:=hD 3 (by kernel_rfl)
           exact gs_valZ rfl (yr_lookZ rfl u1 u2 (hM.look u.tx hut _ rfl)) (hK _ _ rfl (Ext.refl _))
          ·have u0:a.eval (.tmp 28) = .pointer (some ⟨D,0,none⟩):=hD 0 (by kernel_rfl)
           exact gs_valZ rfl (yr_nilZ rfl u0) (hK _ _ rfl (Ext.refl _))
          ·have u0:a.eval (.tmp 33) = .pointer (some ⟨D,0,none⟩):=hD 5 (by kernel_rfl)
           exact gs_valZ rfl (yr_fieldZ rfl u0 (fa_q6 D wv)) (hK _ _ rfl (Ext.refl _))
         ·intro vals wz hEz hRz
          obtain⟨-,-,-,-,h4,-,h6,-⟩:=hRz
          have e32:vals 4 = .int .i64 (fnP u.tx):=h4
          have e34:vals 6 = .pointer (some ⟨D,12,none⟩):=h6
          simp only[putF,Act.put,List.length_cons,List.length_nil,List.getD_cons_zero,List.getD_cons_succ,List.setIfInBounds_toArray,List.set_cons_zero,List.set_cons_succ,Nat.reduceAdd,e32,e34]
          clear e32 e34
          refine wpAny_opZ (i:=7) (by kernel_rfl) rfl (by rfl) ?_
          refine gs_st1Z rfl 3 _ _ rfl D 12 (qnS.vals (gqA 9 cs ca cc [] none 0 0)) (.int .i64 (fnP u.tx)) rfl rfl (HR5.out.ext hEz) (by show 12<16;omega) (st_int D 12 _) ?_
          intro W7 hF7 hR7
          refine wpAny_done (by kernel_rfl) ?_ _
          simp only[Act.put]
          have HP7:Hid (Psr L ao cap B i1 W7):=(HP5.out.ext hEz).frm hF7 (fun x e=>by omega)
          have HF7:Hid (Frm (fun k=>k=B∨k=D) w W7):=(HF5.out.trans (Frm.of_ext hEz)).trans (hF7.mono (fun x _ e=>.inr e))
          have HTx7:Hid (TxA (fun k=>w.heap.size≤k) W7 ca cc cs):=(HTx5.out.ext hEz).kp (Kp.frm hF7 (fun k h1 e=>by omega))
          have c12:=hR7.at 12 _ rfl
          have HR7:Hid (BxT D (qnS.vals (gqA 9 cs ca cc [] none 0 (fnP u.tx))) W7):=hR7
          clear hF7 hR7 hEz
          by_cases hf0:fnP u.tx=0
          ·have HB:Hid (G = .bad u.ln u.cl 3):=by rw[Hid,←HG2.out];unfold grP2;rw[pkP_at Hu.out];exact(if_pos (.inr hf0)).trans (wrP_at Hu.out 3)
           have HW:=Lib.hid (wrong_ok 3 HP7.out u Hu.out)
           rw[hf0]at c12
           clear hf0
           go_wp2_with (first
            | (go_at_call 106;(with_reducible refine HW.out.mono ?_);rintro x wG ⟨rfl,hEG⟩))
           exact⟨rfl,PRD.no HB.out (HF7.out.trans (Frm.of_ext hEG))⟩
          ·have HG3:Hid (((if fnP u.tx=1 then .ok [] (i1+1)else(naP L (i1+1)).bind fun s j=>.ok [s] j):Rs (List (List UInt8))).bind (fun ns i=>grP3 L cs (fnP u.tx) ns i)=G):=by
            rw[Hid,←HG2.out];unfold grP2;rw[pkP_at Hu.out];exact(if_neg (fun q=>q.elim (fun q=>q Hku.out) hf0)).symm
           obtain⟨f,hf⟩:∃f,f=fnP u.tx:=⟨_,rfl⟩
           rw[←hf]at HG3 HR7 c12 hf0
           rw[←hf]
           have hf1:(f==0)=false:=by rw[beq_eq_false_iff_ne];exact hf0
           obtain⟨bf,hbf⟩:∃bf,(f != 1)=bf:=⟨_,rfl⟩
           have Hbf:=Lib.hid hbf
           have c1:=HP7.out.c1
           have f1:=HP7.out.f1
           have hB7:=HP7.out.hB
           have hne:¬D=B:=by omega
           have hne2:¬B=D:=by omega
           have hx1:(i1:Int)≤70000:=by omega
           have HG8:=Lib.hid (HP7.out.go (Ext.refl _) (j:=i1+1) hul (x:=(i1:Int)+1) (by omega))
           clear hf0 hf Hku
           go_upto_if 53 with fail
           obtain⟨W8,hW8⟩:∃W8,W8=W7.setCell ⟨B,1,none⟩ (.int .i64 ((i1:Int)+1)):=⟨_,rfl⟩
           have HG9:=HG8.out
           rw[←hW8]at HG9 ⊢
           obtain⟨hp8,hf8⟩:=HG9
           have HP8:=Lib.hid hp8
           have HF8:Hid (Frm (fun k=>k=B∨k=D) w W8):=HF7.out.trans (hf8.mono (fun x _ e=>.inl e))
           have HR8:=Lib.hid (HR7.out.frm hf8 (fun e=>by omega))
           have hz8:=hf8.size
           have hzw:=HF7.out.size
           have HTx8:Hid (TxA (fun k=>w.heap.size≤k∧k<W8.heap.size) W8 ca cc cs):=(HTx7.out.kp (Kp.frm hf8 (fun k h1 e=>by omega))).mono (fun k h1 h2=>⟨h1,h2⟩)
           have HOWN8:Hid (W8.ownsRow W8.heap.size 9 1 (.slice none ([]:List (List UInt8)).length 0) ([]:List (List UInt8)).length (sv [])):=World.ownsRow_nil W8 _ _ _
           have hlt8:∀k,(Value.slice none ([]:List (List UInt8)).length 0).ownBlock=some k→W8.heap.size≤k∧k<W8.heap.size:=fun k hk=>HOWN8.out.lt k hk
           have hzz:W8.heap.size≤W8.heap.size:=Nat.le_refl _
           have hb0:w.heap.size≤W8.heap.size:=by omega
           obtain⟨b0,hb0e⟩:∃b0,b0=W8.heap.size:=⟨_,rfl⟩
           rw[←hb0e]at hb0
           rw[show W8.ownsRow W8.heap.size=W8.ownsRow b0 by rw[hb0e]]at HOWN8
           rw[show (fun k=>w.heap.size≤k∧k<W8.heap.size)=(fun k=>w.heap.size≤k∧k<b0) by rw[hb0e]]at HTx8
           have hbz:b0≤W8.heap.size:=by omega
           clear hf8 hp8 hW8 HG8 c1 f1 c12 HR7 HF7 HP7 HTx7 hzz hlt8 hb0e
           go_cut [5]from 54 to 64 (fun x wx=>x = .pointer (some ⟨T5,0,none⟩)∧Hid (GrD D L ao cap B w b0 cs ca cc f G wx))
           case first=>
            cases bf with
            | false=>
              have hfe:f=1:=by simpa using Hbf.out
              have HY2:Hid (grP3 L cs f [] (i1+1)=G):=by
               have:=HG3.out
               rw[if_pos hfe]at this
               exact this
              clear hfe
              go_wp2_with fail
              go_meet
              case rel=>exact⟨rfl,[],none,0,i1+1,HY2.out,HP8.out,HR8.out,HTx8.out,HOWN8.out,(fun x hx=>by cases hx),by simp,HF8.out,hbz⟩
            | true=>
              have hfe:¬f=1:=by simpa using Hbf.out
              have HY1:Hid (((naP L (i1+1)).bind fun s j=>.ok [s] j:Rs (List (List UInt8))).bind (fun ns i=>grP3 L cs f ns i)=G):=by
               have:=HG3.out
               rw[if_neg hfe]at this
               exact this
              clear hfe
              have hbk:∀k,(Value.slice none ([]:List (List UInt8)).length 0).ownBlock=some k→b0≤k∧k<W8.heap.size:=fun k hk=>HOWN8.out.lt k hk
              have HNm:=fun w' (hP:Psr L ao cap B (i1+1) w')=>(pname_c hP)
              have hPl:([]:List (List UInt8)).length≤70000:=by simp
              go_wp2_with fail
              cases hn:naP L (i1+1)with
              | bad l c e=>
                rw[hn]at HNm HY1
                have HNm:=fun w' hP=>Lib.hid (HNm w' hP)
                have HB:Hid (G = .bad l c e):=HY1.out.symm
                clear hn
                refine wp_region_growX [some 54,some 55,some 56,some 57,some 58,some 59,some 60,some 61,some 62,some 63,some 64] [fun x _=>x = .pointer (some ⟨D,0,none⟩),fun x _=>x = .pointer (some ⟨D,0,none⟩),fun x _=>x = .pointer (some ⟨D,0,none⟩),fun x _=>x = .pointer (some ⟨D,3,none⟩),fun x _=>x = .slice none ([]:List (List UInt8)).length 0,fun x _=>x = .pointer (some ⟨B,0,none⟩),fun _ _=>False,fun _ _=>False,fun _ _=>False,fun x _=>x = .pointer (some ⟨D,0,none⟩),fun x _=>x = .pointer (some ⟨D,3,none⟩)] (fun y z=>y=6∧z=B∨y=8∧(Value.slice none ([]:List (List UInt8)).length 0).ownBlock=some z) 1 (by kernel_rfl) (by kernel_rfl) (by kernel_rfl) (by kernel_rfl) ?_ ?_ ?_
                ·refine⟨?_,?_,?_,?_,?_,?_,?_,?_,?_,?_,?_,trivial⟩
                 ·exact fun _ _ _ h _=>h
                 ·exact fun _ _ _ h _=>h
                 ·exact fun _ _ _ h _=>h
                 ·exact fun _ _ _ h _=>h
                 ·exact fun _ _ _ h _=>h
                 ·exact fun _ _ _ h _=>h
                 ·exact fun _ _ _ h _=>h
                 ·exact fun _ _ _ h _=>h
                 ·exact fun _ _ _ h _=>h
                 ·exact fun _ _ _ h _=>h
                 ·exact fun _ _ _ h _=>h
                ·refine⟨?_,?_,?_,?_,?_,?_,?_,?_,?_,?_,?_,trivial⟩
                 ·intro a wv hE hdf hF hD K hK
                  exact gs_valZ rfl (yr_moveZ rfl ((hF 1 (fr_ofOZ rfl)).trans rfl)) (hK _ _ rfl (Frm.refl _ _))
                 ·intro a wv hE hdf hF hD K hK
                  exact gs_valZ rfl (yr_moveZ rfl ((hF 1 (fr_ofOZ rfl)).trans rfl)) (hK _ _ rfl (Frm.refl _ _))
                 ·intro a wv hE hdf hF hD K hK
                  have u:a.eval (.tmp 55) = .pointer (some ⟨D,0,none⟩):=hD 1 (by kernel_rfl)
                  exact gs_valZ rfl (yr_nilZ rfl u) (hK _ _ rfl (Frm.refl _ _))
                 ·intro a wv hE hdf hF hD K hK
                  have u:a.eval (.tmp 56) = .pointer (some ⟨D,0,none⟩):=hD 2 (by kernel_rfl)
                  exact gs_valZ rfl (yr_fieldZ rfl u (fa_q3 D wv)) (hK _ _ rfl (Frm.refl _ _))
                 ·intro a wv hE hdf hF hD K hK
                  have u:a.eval (.tmp 57) = .pointer (some ⟨D,3,none⟩):=hD 3 (by kernel_rfl)
                  have hb:BxT D (qnS.vals (gqA 9 cs ca cc [] none 0 f)) wv:=HR8.out.frm hE (fun⟨y,h1,h2⟩=>by
                   rcases h2 with⟨h2,h3⟩|⟨h2,h3⟩
                   ·omega
                   ·have:=hbk _ h3;omega)
                  exact gs_valZ rfl (yr_loadZ rfl u (ld_sl D 3 _ wv (hb.at 3 _ rfl))) (hK _ _ rfl (Frm.refl _ _))
                 ·intro a wv hE hdf hF hD K hK
                  exact gs_valZ rfl (yr_moveZ rfl ((hF 0 (fr_ofOZ rfl)).trans rfl)) (hK _ _ rfl (Frm.refl _ _))
                 ·intro a wv hE hdf hF hD K hK
                  have hP:Psr L ao cap B (i1+1) wv:=HP8.out.frm hE (fun k ⟨y,h1,h2⟩=>by
                   rcases h2 with⟨h2,h3⟩|⟨h2,h3⟩
                   ·exact absurd h2 h1
                   ·have:=hbk k h3;omega)
                  have hC:=(HNm wv hP).out
                  have u:a.eval (.tmp 59) = .pointer (some ⟨B,0,none⟩):=hD 5 (by kernel_rfl)
                  refine gs_callZ rfl (yr_callZ rfl rfl (show(#[Operand.tmp 59]:Array Operand).map a.eval = #[.pointer (some ⟨B,0,none⟩)] by simp only[List.map_toArray,List.map_cons,List.map_nil,u]) (by kernel_rfl)) hC ?_
                  rintro e w' ⟨hF6,rfl⟩
                  refine .inr ⟨_,rfl,hdf,PRD.no HB.out ((HF8.out.step hE (fun x h1 ⟨y,h0,h2⟩=>?_)).step hF6 (fun x h1 h2=>?_))⟩
                  ·rcases h2 with⟨h2,h3⟩|⟨h2,h3⟩
                   ·exact .inl h3
                   ·have:=hbk x h3;omega
                  ·exact .inl h2
                 ·intro a wv hE hdf hF hD K hK
                  exact(hD 6 (by kernel_rfl)).elim
                 ·intro a wv hE hdf hF hD K hK
                  exact(hD 7 (by kernel_rfl)).elim
                 ·intro a wv hE hdf hF hD K hK
                  have u:a.eval (.tmp 54) = .pointer (some ⟨D,0,none⟩):=hD 0 (by kernel_rfl)
                  exact gs_valZ rfl (yr_nilZ rfl u) (hK _ _ rfl (Frm.refl _ _))
                 ·intro a wv hE hdf hF hD K hK
                  have u:a.eval (.tmp 63) = .pointer (some ⟨D,0,none⟩):=hD 9 (by kernel_rfl)
                  exact gs_valZ rfl (yr_fieldZ rfl u (fa_q3 D wv)) (hK _ _ rfl (Frm.refl _ _))
                ·intro vals wz hEz hRz
                 obtain⟨-,-,-,-,-,-,hc,-⟩:=hRz
                 exact hc.elim
              | ok s j=>
                obtain⟨rfl,hs,-⟩:=naP_ok hn
                have Hs:=Lib.hid hs
                rw[hn]at HNm HY1
                have HNm:=fun w' hP=>Lib.hid (HNm w' hP)
                have HY2:Hid (grP3 L cs f [s] (i1+1+1)=G):=HY1.out
                clear hn hs
                refine wp_region_growX [some 54,some 55,some 56,some 57,some 58,some 59,some 60,some 61,some 62,some 63,some 64] [fun x _=>x = .pointer (some ⟨D,0,none⟩),fun x _=>x = .pointer (some ⟨D,0,none⟩),fun x _=>x = .pointer (some ⟨D,0,none⟩),fun x _=>x = .pointer (some ⟨D,3,none⟩),fun x _=>x = .slice none ([]:List (List UInt8)).length 0,fun x _=>x = .pointer (some ⟨B,0,none⟩),fun x wv=>x = .string ⟨s.toArray⟩∧Psr L ao cap B (i1+1+1) wv,ApS W8.heap.size s,ApR b0 (([]:List (List UInt8)) ++ [s]),fun x _=>x = .pointer (some ⟨D,0,none⟩),fun x _=>x = .pointer (some ⟨D,3,none⟩)] (fun y z=>y=6∧z=B∨y=8∧(Value.slice none ([]:List (List UInt8)).length 0).ownBlock=some z) 1 (by kernel_rfl) (by kernel_rfl) (by kernel_rfl) (by kernel_rfl) ?_ ?_ ?_
                ·refine⟨?_,?_,?_,?_,?_,?_,?_,?_,?_,?_,?_,trivial⟩
                 ·exact fun _ _ _ h _=>h
                 ·exact fun _ _ _ h _=>h
                 ·exact fun _ _ _ h _=>h
                 ·exact fun _ _ _ h _=>h
                 ·exact fun _ _ _ h _=>h
                 ·exact fun _ _ _ h _=>h
                 ·exact fun v w1 w2 h hF=>⟨h.1,h.2.frm hF (fun k ⟨y,h1,h2⟩=>by
                   rcases h2 with⟨h2,h3⟩|⟨h2,h3⟩
                   ·exact absurd h2 h1
                   ·have:=hbk k h3;omega)⟩
                 ·exact fun v w1 w2 h hF=>ApS.frm h hF (fun k ⟨y,h1,h2⟩=>by
                   rcases h2 with⟨h2,h3⟩|⟨h2,h3⟩
                   ·have:=HP8.out.hB;omega
                   ·have:=hbk k h3;omega)
                 ·exact fun v w1 w2 h hF=>ApR.frm h hF (fun k ⟨y,h1,h2⟩=>by
                   rcases h2 with⟨h2,h3⟩|⟨h2,h3⟩
                   ·omega
                   ·exact absurd h2 h1)
                 ·exact fun _ _ _ h _=>h
                 ·exact fun _ _ _ h _=>h
                ·refine⟨?_,?_,?_,?_,?_,?_,?_,?_,?_,?_,?_,trivial⟩
                 ·intro a wv hE hdf hF hD K hK
                  exact gs_valZ rfl (yr_moveZ rfl ((hF 1 (fr_ofOZ rfl)).trans rfl)) (hK _ _ rfl (Frm.refl _ _))
                 ·intro a wv hE hdf hF hD K hK
                  exact gs_valZ rfl (yr_moveZ rfl ((hF 1 (fr_ofOZ rfl)).trans rfl)) (hK _ _ rfl (Frm.refl _ _))
                 ·intro a wv hE hdf hF hD K hK
                  have u:a.eval (.tmp 55) = .pointer (some ⟨D,0,none⟩):=hD 1 (by kernel_rfl)
                  exact gs_valZ rfl (yr_nilZ rfl u) (hK _ _ rfl (Frm.refl _ _))
                 ·intro a wv hE hdf hF hD K hK
                  have u:a.eval (.tmp 56) = .pointer (some ⟨D,0,none⟩):=hD 2 (by kernel_rfl)
                  exact gs_valZ rfl (yr_fieldZ rfl u (fa_q3 D wv)) (hK _ _ rfl (Frm.refl _ _))
                 ·intro a wv hE hdf hF hD K hK
                  have u:a.eval (.tmp 57) = .pointer (some ⟨D,3,none⟩):=hD 3 (by kernel_rfl)
                  have hb:BxT D (qnS.vals (gqA 9 cs ca cc [] none 0 f)) wv:=HR8.out.frm hE (fun⟨y,h1,h2⟩=>by
                   rcases h2 with⟨h2,h3⟩|⟨h2,h3⟩
                   ·omega
                   ·have:=hbk _ h3;omega)
                  exact gs_valZ rfl (yr_loadZ rfl u (ld_sl D 3 _ wv (hb.at 3 _ rfl))) (hK _ _ rfl (Frm.refl _ _))
                 ·intro a wv hE hdf hF hD K hK
                  exact gs_valZ rfl (yr_moveZ rfl ((hF 0 (fr_ofOZ rfl)).trans rfl)) (hK _ _ rfl (Frm.refl _ _))
                 ·intro a wv hE hdf hF hD K hK
                  have hP:Psr L ao cap B (i1+1) wv:=HP8.out.frm hE (fun k ⟨y,h1,h2⟩=>by
                   rcases h2 with⟨h2,h3⟩|⟨h2,h3⟩
                   ·exact absurd h2 h1
                   ·have:=hbk k h3;omega)
                  have hC:=(HNm wv hP).out
                  have u:a.eval (.tmp 59) = .pointer (some ⟨B,0,none⟩):=hD 5 (by kernel_rfl)
                  refine gs_callZ rfl (yr_callZ rfl rfl (show(#[Operand.tmp 59]:Array Operand).map a.eval = #[.pointer (some ⟨B,0,none⟩)] by simp only[List.map_toArray,List.map_cons,List.map_nil,u]) (by kernel_rfl)) hC ?_
                  rintro e w' ⟨hF6,v,rfl,rfl,hP6⟩
                  exact .inl ⟨_,rfl,hK _ _ ⟨rfl,hP6⟩ (hF6.mono (fun x _ e=>.inl ⟨rfl,e⟩))⟩
                 ·intro a wv hE hdf hF hD K hK
                  have u:a.eval (.tmp 60) = .string ⟨s.toArray⟩:=(hD 6 (by kernel_rfl)).1
                  have hz:=hE.size
                  exact gs_mkEZ rfl (yr_bs1Z rfl u (bs1_s s wv)) (hK _ _ ⟨wv.heap.size,rfl,hz,by simp,(BxT.new wv [.string ⟨s.toArray⟩] 9).at 0 _ rfl⟩ (Frm.of_ext ((Ext.refl _).alloc _)))
                 ·intro a wv hE hdf hF hD K hK
                  have u1:a.eval (.tmp 58) = .slice none ([]:List (List UInt8)).length 0:=hD 4 (by kernel_rfl)
                  obtain⟨Y,u2,hY1,hY2,hY3⟩:ApS W8.heap.size s (a.eval (.tmp 61)) wv:=hD 7 (by kernel_rfl)
                  have hown:wv.ownsRow b0 9 1 (.slice none ([]:List (List UInt8)).length 0) ([]:List (List UInt8)).length (sv ([]:List (List UInt8))):=own_frmZ HOWN8.out hE (fun k h5 h6 ⟨y,h1,h2⟩=>by
                   rcases h2 with⟨h2,h3⟩|⟨h2,h3⟩
                   ·omega
                   ·exact absurd h2 h1)
                  have hz:=hE.size
                  refine wp_append_own _ (.tmp 58) (.tmp 61) 22 rfl b0 9 i0 (.string ByteArray.empty) 1 16 Tryz.underlying22 Hi.out Hz0.out Hz1.out Hz2.out rfl (by decide) _ _ _ u1 hown ⟨Y,0,none⟩ 1 1 [.string ⟨s.toArray⟩] u2 rfl (ap_cell hY3) (fun x hx=>by simp at hx;subst hx;rfl) (by unfold maxLen;omega) (by omega) (by omega) ?_
                  intro v' w' hown' hgrow hnil
                  exact hK _ _ (ApR.mk hown') ⟨hgrow.os,hgrow.tape,hgrow.output,hgrow.size,fun k h1 h2=>hgrow.block k h1 (fun e=>h2 (.inr ⟨rfl,e.symm⟩))⟩
                 ·intro a wv hE hdf hF hD K hK
                  have u:a.eval (.tmp 54) = .pointer (some ⟨D,0,none⟩):=hD 0 (by kernel_rfl)
                  exact gs_valZ rfl (yr_nilZ rfl u) (hK _ _ rfl (Frm.refl _ _))
                 ·intro a wv hE hdf hF hD K hK
                  have u:a.eval (.tmp 63) = .pointer (some ⟨D,0,none⟩):=hD 9 (by kernel_rfl)
                  exact gs_valZ rfl (yr_fieldZ rfl u (fa_q3 D wv)) (hK _ _ rfl (Frm.refl _ _))
                ·intro vals wz hEz hRz
                 obtain⟨-,-,-,-,-,-,hc,-,hr,-,hl,-⟩:=hRz
                 obtain⟨-,hcz⟩:vals 6 = .string ⟨s.toArray⟩∧Psr L ao cap B (i1+1+1) wz:=hc
                 obtain⟨no2,nc2,er,hr2⟩:ApR b0 (([]:List (List UInt8)) ++ [s]) (vals 8) wz:=hr
                 have el:vals 10 = .pointer (some ⟨D,3,none⟩):=hl
                 have hAll:∀x,AllS (fun y z=>y=6∧z=B∨y=8∧(Value.slice none ([]:List (List UInt8)).length 0).ownBlock=some z) x→x=B∨b0≤x:=fun x ⟨y,h2⟩=>by
                  rcases h2 with⟨h2,h3⟩|⟨h2,h3⟩
                  ·exact .inl h3
                  ·have:=hbk x h3;omega
                 have hbz:BxT D (qnS.vals (gqA 9 cs ca cc [] none 0 f)) wz:=HR8.out.frm hEz (fun q=>by have:=hAll D q;omega)
                 simp only[putG,putD,Act.put,List.length_cons,List.length_nil,List.getD_cons_zero,List.getD_cons_succ,List.setIfInBounds_toArray,List.set_cons_zero,List.set_cons_succ,Nat.reduceAdd,er,el]
                 refine wpAny_opZ (i:=11) (by kernel_rfl) rfl (by rfl) ?_
                 refine gs_st1Z rfl 22 _ _ rfl D 3 (qnS.vals (gqA 9 cs ca cc [] none 0 f)) (.slice no2 (([]:List (List UInt8)) ++ [s]).length nc2) rfl rfl hbz (by show 3<16;omega) (st_sl D 3 _ _ _) ?_
                 intro WY hFY hRY
                 refine wpAny_done (by kernel_rfl) ?_ _
                 simp only[Act.put]
                 go_wp2_with fail
                 go_meet
                 case rel=>exact⟨rfl,[s],no2,nc2,i1+1+1,HY2.out,hcz.frm hFY (fun x e=>by omega),hRY,(HTx8.out.kp (Kp.frm hEz (fun k h1 e=>by have:=hAll k e;omega))).kp (Kp.frm hFY (fun k h1 e=>by omega)),own_frmZ hr2 hFY (fun k h1 h2 e=>by omega),(fun x hx=>by rw[List.mem_singleton.1 hx];exact Hs.out),by simp,(HF8.out.step hEz (fun x h1 e=>by have:=hAll x e;omega)).trans (hFY.mono (fun x _ e=>.inr e)),by have:=hEz.size;have:=hFY.size;omega⟩
           case rest=>
            obtain⟨rfl,hgd⟩:=hcut
            obtain⟨ns,na,nc,i2,hg3,hp,hr,ht9,ho,hal,hnl,hf9,hbd⟩:=hgd.out
            have HY:=Lib.hid hg3;have HPd:=Lib.hid hp;have HRd:=Lib.hid hr;have HTd:=Lib.hid ht9;have HOd:=Lib.hid ho;have Hal:=Lib.hid hal;have HFd:=Lib.hid hf9
            have hzd:=hf9.size
            clear hg3 hp hr ht9 ho hal hf9 hgd HP8 HR8 HF8 HTx8 HOWN8 HG3 Hu HG2
            cases hx:exP L wAs i2 with
            | bad l c e=>
              have HX:=exp_c HPd.out wAs (by decide)
              rw[hx]at HX
              have HX:=Lib.hid HX
              have HB:Hid (G = .bad l c e):=by rw[Hid,←HY.out];unfold grP3;rw[hx];rfl
              clear hx
              go_wp2_with (first
               | (go_at_call 110;(with_reducible refine HX.out.mono ?_);rintro x wX ⟨hFX,rfl⟩))
              exact⟨rfl,PRD.no HB.out (HFd.out.trans (hFX.mono (fun x _ e=>.inl e)))⟩
            | ok z i3=>
              obtain rfl:=exP_gt hx
              have HX:=exp_c HPd.out wAs (by decide)
              rw[hx]at HX
              have HX:=Lib.hid HX
              have HY2:Hid ((naP L (i2+1)).bind (fun s i=>.ok (cs,f,ns ++ [s]) i)=G):=by rw[Hid,←HY.out];unfold grP3;rw[hx];rfl
              clear hx
              have hpl2:=HPd.out.hl
              go_wp2_with (first
               | (go_at_call 110;(with_reducible refine HX.out.mono ?_);rintro x wX ⟨hFX,vX,rfl,rfl,hPX⟩))
              have HP9:=Lib.hid hPX
              have HF9:Hid (Frm (fun k=>k=B∨k=D) w wX):=HFd.out.trans (hFX.mono (fun x _ e=>.inl e))
              have HR9:=Lib.hid (HRd.out.frm hFX (fun e=>by omega))
              have HTx9:Hid (TxA (fun k=>w.heap.size≤k∧k<b0) wX ca cc cs):=HTd.out.kp (Kp.frm hFX (fun k h1 e=>by omega))
              have HO9:Hid (wX.ownsRow b0 9 1 (.slice na ns.length nc) ns.length (sv ns)):=own_frmZ HOd.out hFX (fun k h1 h2 e=>by omega)
              have hzX:=HF9.out.size
              have hbk:∀k,(Value.slice na ns.length nc).ownBlock=some k→b0≤k∧k<wX.heap.size:=fun k hk=>HO9.out.lt k hk
              have hPl:ns.length≤70000:=by omega
              have HNm:=fun w' (hP:Psr L ao cap B (i2+1) w')=>(pname_c hP)
              have hbX:b0≤wX.heap.size:=by have:=hFX.size;omega
              clear hFX hPX HPd HFd HRd HTd HOd HX
              cases hn:naP L (i2+1)with
              | bad l c e=>
                rw[hn]at HNm HY2
                have HNm:=fun w' hP=>Lib.hid (HNm w' hP)
                have HB:Hid (G = .bad l c e):=HY2.out.symm
                clear hn
                refine wp_region_growX [some 67,some 68,some 69,some 70,some 71,some 72,some 73,some 74,some 75,some 76,some 77] [fun x _=>x = .pointer (some ⟨D,0,none⟩),fun x _=>x = .pointer (some ⟨D,0,none⟩),fun x _=>x = .pointer (some ⟨D,0,none⟩),fun x _=>x = .pointer (some ⟨D,3,none⟩),fun x _=>x = .slice na ns.length nc,fun x _=>x = .pointer (some ⟨B,0,none⟩),fun _ _=>False,fun _ _=>False,fun _ _=>False,fun x _=>x = .pointer (some ⟨D,0,none⟩),fun x _=>x = .pointer (some ⟨D,3,none⟩)] (fun y z=>y=6∧z=B∨y=8∧(Value.slice na ns.length nc).ownBlock=some z) 1 (by kernel_rfl) (by kernel_rfl) (by kernel_rfl) (by kernel_rfl) ?_ ?_ ?_
                ·refine⟨?_,?_,?_,?_,?_,?_,?_,?_,?_,?_,?_,trivial⟩
                 ·exact fun _ _ _ h _=>h
                 ·exact fun _ _ _ h _=>h
                 ·exact fun _ _ _ h _=>h
                 ·exact fun _ _ _ h _=>h
                 ·exact fun _ _ _ h _=>h
                 ·exact fun _ _ _ h _=>h
                 ·exact fun _ _ _ h _=>h
                 ·exact fun _ _ _ h _=>h
                 ·exact fun _ _ _ h _=>h
                 ·exact fun _ _ _ h _=>h
                 ·exact fun _ _ _ h _=>h
                ·refine⟨?_,?_,?_,?_,?_,?_,?_,?_,?_,?_,?_,trivial⟩
                 ·intro a wv hE hdf hF hD K hK
                  exact gs_valZ rfl (yr_moveZ rfl ((hF 1 (fr_ofOZ rfl)).trans rfl)) (hK _ _ rfl (Frm.refl _ _))
                 ·intro a wv hE hdf hF hD K hK
                  exact gs_valZ rfl (yr_moveZ rfl ((hF 1 (fr_ofOZ rfl)).trans rfl)) (hK _ _ rfl (Frm.refl _ _))
                 ·intro a wv hE hdf hF hD K hK
                  have u:a.eval (.tmp 68) = .pointer (some ⟨D,0,none⟩):=hD 1 (by kernel_rfl)
                  exact gs_valZ rfl (yr_nilZ rfl u) (hK _ _ rfl (Frm.refl _ _))
                 ·intro a wv hE hdf hF hD K hK
                  have u:a.eval (.tmp 69) = .pointer (some ⟨D,0,none⟩):=hD 2 (by kernel_rfl)
                  exact gs_valZ rfl (yr_fieldZ rfl u (fa_q3 D wv)) (hK _ _ rfl (Frm.refl _ _))
                 ·intro a wv hE hdf hF hD K hK
                  have u:a.eval (.tmp 70) = .pointer (some ⟨D,3,none⟩):=hD 3 (by kernel_rfl)
                  have hb:BxT D (qnS.vals (gqA 9 cs ca cc ns na nc f)) wv:=HR9.out.frm hE (fun⟨y,h1,h2⟩=>by
                   rcases h2 with⟨h2,h3⟩|⟨h2,h3⟩
                   ·omega
                   ·have:=hbk _ h3;omega)
                  exact gs_valZ rfl (yr_loadZ rfl u (ld_sl D 3 _ wv (hb.at 3 _ rfl))) (hK _ _ rfl (Frm.refl _ _))
                 ·intro a wv hE hdf hF hD K hK
                  exact gs_valZ rfl (yr_moveZ rfl ((hF 0 (fr_ofOZ rfl)).trans rfl)) (hK _ _ rfl (Frm.refl _ _))
                 ·intro a wv hE hdf hF hD K hK
                  have hP:Psr L ao cap B (i2+1) wv:=HP9.out.frm hE (fun k ⟨y,h1,h2⟩=>by
                   rcases h2 with⟨h2,h3⟩|⟨h2,h3⟩
                   ·exact absurd h2 h1
                   ·have:=hbk k h3;omega)
                  have hC:=(HNm wv hP).out
                  have u:a.eval (.tmp 72) = .pointer (some ⟨B,0,none⟩):=hD 5 (by kernel_rfl)
                  refine gs_callZ rfl (yr_callZ rfl rfl (show(#[Operand.tmp 72]:Array Operand).map a.eval = #[.pointer (some ⟨B,0,none⟩)] by simp only[List.map_toArray,List.map_cons,List.map_nil,u]) (by kernel_rfl)) hC ?_
                  rintro e w' ⟨hF6,rfl⟩
                  refine .inr ⟨_,rfl,hdf,PRD.no HB.out ((HF9.out.step hE (fun x h1 ⟨y,h0,h2⟩=>?_)).step hF6 (fun x h1 h2=>?_))⟩
                  ·rcases h2 with⟨h2,h3⟩|⟨h2,h3⟩
                   ·exact .inl h3
                   ·have:=hbk x h3;omega
                  ·exact .inl h2
                 ·intro a wv hE hdf hF hD K hK
                  exact(hD 6 (by kernel_rfl)).elim
                 ·intro a wv hE hdf hF hD K hK
                  exact(hD 7 (by kernel_rfl)).elim
                 ·intro a wv hE hdf hF hD K hK
                  have u:a.eval (.tmp 67) = .pointer (some ⟨D,0,none⟩):=hD 0 (by kernel_rfl)
                  exact gs_valZ rfl (yr_nilZ rfl u) (hK _ _ rfl (Frm.refl _ _))
                 ·intro a wv hE hdf hF hD K hK
                  have u:a.eval (.tmp 76) = .pointer (some ⟨D,0,none⟩):=hD 9 (by kernel_rfl)
                  exact gs_valZ rfl (yr_fieldZ rfl u (fa_q3 D wv)) (hK _ _ rfl (Frm.refl _ _))
                ·intro vals wz hEz hRz
                 obtain⟨-,-,-,-,-,-,hc,-⟩:=hRz
                 exact hc.elim
              | ok s j=>
                obtain⟨rfl,hs,-⟩:=naP_ok hn
                have Hs:=Lib.hid hs
                rw[hn]at HNm HY2
                have HNm:=fun w' hP=>Lib.hid (HNm w' hP)
                have HB:Hid (G = .ok (cs,f,ns ++ [s]) (i2+1+1)):=HY2.out.symm
                clear hn hs
                refine wp_region_growX [some 67,some 68,some 69,some 70,some 71,some 72,some 73,some 74,some 75,some 76,some 77] [fun x _=>x = .pointer (some ⟨D,0,none⟩),fun x _=>x = .pointer (some ⟨D,0,none⟩),fun x _=>x = .pointer (some ⟨D,0,none⟩),fun x _=>x = .pointer (some ⟨D,3,none⟩),fun x _=>x = .slice na ns.length nc,fun x _=>x = .pointer (some ⟨B,0,none⟩),fun x wv=>x = .string ⟨s.toArray⟩∧Psr L ao cap B (i2+1+1) wv,ApS wX.heap.size s,ApR b0 (ns ++ [s]),fun x _=>x = .pointer (some ⟨D,0,none⟩),fun x _=>x = .pointer (some ⟨D,3,none⟩)] (fun y z=>y=6∧z=B∨y=8∧(Value.slice na ns.length nc).ownBlock=some z) 1 (by kernel_rfl) (by kernel_rfl) (by kernel_rfl) (by kernel_rfl) ?_ ?_ ?_
                ·refine⟨?_,?_,?_,?_,?_,?_,?_,?_,?_,?_,?_,trivial⟩
                 ·exact fun _ _ _ h _=>h
                 ·exact fun _ _ _ h _=>h
                 ·exact fun _ _ _ h _=>h
                 ·exact fun _ _ _ h _=>h
                 ·exact fun _ _ _ h _=>h
                 ·exact fun _ _ _ h _=>h
                 ·exact fun v w1 w2 h hF=>⟨h.1,h.2.frm hF (fun k ⟨y,h1,h2⟩=>by
                   rcases h2 with⟨h2,h3⟩|⟨h2,h3⟩
                   ·exact absurd h2 h1
                   ·have:=hbk k h3;omega)⟩
                 ·exact fun v w1 w2 h hF=>ApS.frm h hF (fun k ⟨y,h1,h2⟩=>by
                   rcases h2 with⟨h2,h3⟩|⟨h2,h3⟩
                   ·have:=HP9.out.hB;omega
                   ·have:=hbk k h3;omega)
                 ·exact fun v w1 w2 h hF=>ApR.frm h hF (fun k ⟨y,h1,h2⟩=>by
                   rcases h2 with⟨h2,h3⟩|⟨h2,h3⟩
                   ·omega
                   ·exact absurd h2 h1)
                 ·exact fun _ _ _ h _=>h
                 ·exact fun _ _ _ h _=>h
                ·refine⟨?_,?_,?_,?_,?_,?_,?_,?_,?_,?_,?_,trivial⟩
                 ·intro a wv hE hdf hF hD K hK
                  exact gs_valZ rfl (yr_moveZ rfl ((hF 1 (fr_ofOZ rfl)).trans rfl)) (hK _ _ rfl (Frm.refl _ _))
                 ·intro a wv hE hdf hF hD K hK
                  exact gs_valZ rfl (yr_moveZ rfl ((hF 1 (fr_ofOZ rfl)).trans rfl)) (hK _ _ rfl (Frm.refl _ _))
                 ·intro a wv hE hdf hF hD K hK
                  have u:a.eval (.tmp 68) = .pointer (some ⟨D,0,none⟩):=hD 1 (by kernel_rfl)
                  exact gs_valZ rfl (yr_nilZ rfl u) (hK _ _ rfl (Frm.refl _ _))
                 ·intro a wv hE hdf hF hD K hK
                  have u:a.eval (.tmp 69) = .pointer (some ⟨D,0,none⟩):=hD 2 (by kernel_rfl)
                  exact gs_valZ rfl (yr_fieldZ rfl u (fa_q3 D wv)) (hK _ _ rfl (Frm.refl _ _))
                 ·intro a wv hE hdf hF hD K hK
                  have u:a.eval (.tmp 70) = .pointer (some ⟨D,3,none⟩):=hD 3 (by kernel_rfl)
                  have hb:BxT D (qnS.vals (gqA 9 cs ca cc ns na nc f)) wv:=HR9.out.frm hE (fun⟨y,h1,h2⟩=>by
                   rcases h2 with⟨h2,h3⟩|⟨h2,h3⟩
                   ·omega
                   ·have:=hbk _ h3;omega)
                  exact gs_valZ rfl (yr_loadZ rfl u (ld_sl D 3 _ wv (hb.at 3 _ rfl))) (hK _ _ rfl (Frm.refl _ _))
                 ·intro a wv hE hdf hF hD K hK
                  exact gs_valZ rfl (yr_moveZ rfl ((hF 0 (fr_ofOZ rfl)).trans rfl)) (hK _ _ rfl (Frm.refl _ _))
                 ·intro a wv hE hdf hF hD K hK
                  have hP:Psr L ao cap B (i2+1) wv:=HP9.out.frm hE (fun k ⟨y,h1,h2⟩=>by
                   rcases h2 with⟨h2,h3⟩|⟨h2,h3⟩
                   ·exact absurd h2 h1
                   ·have:=hbk k h3;omega)
                  have hC:=(HNm wv hP).out
                  have u:a.eval (.tmp 72) = .pointer (some ⟨B,0,none⟩):=hD 5 (by kernel_rfl)
                  refine gs_callZ rfl (yr_callZ rfl rfl (show(#[Operand.tmp 72]:Array Operand).map a.eval = #[.pointer (some ⟨B,0,none⟩)] by simp only[List.map_toArray,List.map_cons,List.map_nil,u]) (by kernel_rfl)) hC ?_
                  rintro e w' ⟨hF6,v,rfl,rfl,hP6⟩
                  exact .inl ⟨_,rfl,hK _ _ ⟨rfl,hP6⟩ (hF6.mono (fun x _ e=>.inl ⟨rfl,e⟩))⟩
                 ·intro a wv hE hdf hF hD K hK
                  have u:a.eval (.tmp 73) = .string ⟨s.toArray⟩:=(hD 6 (by kernel_rfl)).1
                  have hz:=hE.size
                  exact gs_mkEZ rfl (yr_bs1Z rfl u (bs1_s s wv)) (hK _ _ ⟨wv.heap.size,rfl,hz,by simp,(BxT.new wv [.string ⟨s.toArray⟩] 9).at 0 _ rfl⟩ (Frm.of_ext ((Ext.refl _).alloc _)))
                 ·intro a wv hE hdf hF hD K hK
                  have u1:a.eval (.tmp 71) = .slice na ns.length nc:=hD 4 (by kernel_rfl)
                  obtain⟨Y,u2,hY1,hY2,hY3⟩:ApS wX.heap.size s (a.eval (.tmp 74)) wv:=hD 7 (by kernel_rfl)
                  have hown:wv.ownsRow b0 9 1 (.slice na ns.length nc) ns.length (sv ns):=own_frmZ HO9.out hE (fun k h5 h6 ⟨y,h1,h2⟩=>by
                   rcases h2 with⟨h2,h3⟩|⟨h2,h3⟩
                   ·omega
                   ·exact absurd h2 h1)
                  have hz:=hE.size
                  refine wp_append_own _ (.tmp 71) (.tmp 74) 22 rfl b0 9 i0 (.string ByteArray.empty) 1 16 Tryz.underlying22 Hi.out Hz0.out Hz1.out Hz2.out rfl (by decide) _ _ _ u1 hown ⟨Y,0,none⟩ 1 1 [.string ⟨s.toArray⟩] u2 rfl (ap_cell hY3) (fun x hx=>by simp at hx;subst hx;rfl) (by unfold maxLen;omega) (by omega) (by omega) ?_
                  intro v' w' hown' hgrow hnil
                  exact hK _ _ (ApR.mk hown') ⟨hgrow.os,hgrow.tape,hgrow.output,hgrow.size,fun k h1 h2=>hgrow.block k h1 (fun e=>h2 (.inr ⟨rfl,e.symm⟩))⟩
                 ·intro a wv hE hdf hF hD K hK
                  have u:a.eval (.tmp 67) = .pointer (some ⟨D,0,none⟩):=hD 0 (by kernel_rfl)
                  exact gs_valZ rfl (yr_nilZ rfl u) (hK _ _ rfl (Frm.refl _ _))
                 ·intro a wv hE hdf hF hD K hK
                  have u:a.eval (.tmp 76) = .pointer (some ⟨D,0,none⟩):=hD 9 (by kernel_rfl)
                  exact gs_valZ rfl (yr_fieldZ rfl u (fa_q3 D wv)) (hK _ _ rfl (Frm.refl _ _))
                ·intro vals wz hEz hRz
                 obtain⟨-,-,-,-,-,-,hc,-,hr,-,hl,-⟩:=hRz
                 obtain⟨-,hcz⟩:vals 6 = .string ⟨s.toArray⟩∧Psr L ao cap B (i2+1+1) wz:=hc
                 obtain⟨no2,nc2,er,hr2⟩:ApR b0 (ns ++ [s]) (vals 8) wz:=hr
                 have el:vals 10 = .pointer (some ⟨D,3,none⟩):=hl
                 have hAll:∀x,AllS (fun y z=>y=6∧z=B∨y=8∧(Value.slice na ns.length nc).ownBlock=some z) x→x=B∨b0≤x:=fun x ⟨y,h2⟩=>by
                  rcases h2 with⟨h2,h3⟩|⟨h2,h3⟩
                  ·exact .inl h3
                  ·have:=hbk x h3;omega
                 have hbz:BxT D (qnS.vals (gqA 9 cs ca cc ns na nc f)) wz:=HR9.out.frm hEz (fun q=>by have:=hAll D q;omega)
                 simp only[putG,putD,Act.put,List.length_cons,List.length_nil,List.getD_cons_zero,List.getD_cons_succ,List.setIfInBounds_toArray,List.set_cons_zero,List.set_cons_succ,Nat.reduceAdd,er,el]
                 refine wpAny_opZ (i:=11) (by kernel_rfl) rfl (by rfl) ?_
                 refine gs_st1Z rfl 22 _ _ rfl D 3 (qnS.vals (gqA 9 cs ca cc ns na nc f)) (.slice no2 (ns ++ [s]).length nc2) rfl rfl hbz (by show 3<16;omega) (st_sl D 3 _ _ _) ?_
                 intro WY hFY hRY
                 refine wpAny_done (by kernel_rfl) ?_ _
                 simp only[Act.put]
                 have hs9:=hEz.size
                 have hsY:=hFY.size
                 go_wp2_with fail
                 go_end0
                 refine PRD.fin HB.out (hcz.frm hFY (fun x e=>by omega)) ((HF9.out.step hEz (fun x h1 e=>by have:=hAll x e;omega)).trans (hFY.mono (fun x _ e=>.inr e))) ⟨ca,cc,no2,nc2,rfl,hRY,((HTx9.out.kp (Kp.frm hEz (fun k h1 e=>by have:=hAll k e;omega))).kp (Kp.frm hFY (fun k h1 e=>by omega))).mono (fun k h1 _=>h1.1),?_⟩
                 refine NmV.of_own (own_frmZ hr2 hFY (fun k h1 h2 e=>by omega)) rfl hb0 (fun x hx=>?_)
                 rcases List.mem_append.1 hx with q|q
                 ·have:=nmQ_len (Hal.out x q);unfold Bs;omega
                 ·rw[List.mem_singleton.1 q];have:=nmQ_len Hs.out;unfold Bs;omega
end
end Go.Proofs.YtlmeinikknoeeaaGreatDoor
