/- Queries: the walks of conds, same. -/
import Derived.Test.YtlmeinikknoeeaaGreatDoorQ43
namespace Go.Proofs.YtlmeinikknoeeaaGreatDoor
set_option maxRecDepth 100000
set_option maxHeartbeats 12000000
set_option linter.unusedVariables false
set_option linter.unnecessarySimpa false
set_option linter.unusedSimpArgs false
open Go.RowKit
theorem yr_eqp2 {o:Oper} {a:Act} {w:World} {x y:Operand} {t2:TypeId} {k n k' n':Int} {b:Bool} (hop:o.op = .binOp .eql 29 x y t2) (hx:a.eval x = .agg #[.int .i64 k,.int .i64 n]) (hy:a.eval y = .agg #[.int .i64 k',.int .i64 n']) (hb:decide (k=k'∧n=n')=b):(execOp a.eval o).run Tryz.prog w = .ok (.value (.bool b)) w:=by
 unfold execOp
 simp only[hop,hx,hy]
 simp[Result.andThen,go_sem,eqGuard]
 rw[←hb]
 by_cases h1:k=k'
 ·by_cases h2:n=n'
  ·simp[h1,h2]
  ·simp[h1,h2]
 ·simp[h1]
section
variable (k:Int) (col oth:List UInt8) (vk vn:Int) (vs:List UInt8) (ao:Option Addr) (cap:Nat) (l:List Cnd) (k':Int) (col' oth':List UInt8) (vk' vn':Int) (vs':List UInt8) (ao':Option Addr) (cap':Nat) (l':List Cnd) (w:World)
theorem cnd_h:∀cWW,cWW=((w.alloc (.cells (cdS.vals (.mk ⟨⟨k,col,oth,vk,vn,vs⟩,ao,cap⟩ l:Cnd)).toArray 27)).alloc (.cells (cdS.vals (.mk ⟨⟨k',col',oth',vk',vn',vs'⟩,ao',cap'⟩ l':Cnd)).toArray 27))→Ext w cWW∧cWW.cell? ⟨w.heap.size,0,none⟩=some (.int .i64 k)∧cWW.cell? ⟨w.heap.size+1,0,none⟩=some (.int .i64 k')∧cWW.cell? ⟨w.heap.size,1,none⟩=some (.string ⟨col.toArray⟩)∧cWW.cell? ⟨w.heap.size+1,1,none⟩=some (.string ⟨col'.toArray⟩)∧cWW.cell? ⟨w.heap.size,2,none⟩=some (.string ⟨oth.toArray⟩)∧cWW.cell? ⟨w.heap.size+1,2,none⟩=some (.string ⟨oth'.toArray⟩)∧cWW.cell? ⟨w.heap.size,3,none⟩=some (.int .i64 vk)∧cWW.cell? ⟨w.heap.size+1,3,none⟩=some (.int .i64 vk')∧cWW.cell? ⟨w.heap.size,4,none⟩=some (.int .i64 vn)∧cWW.cell? ⟨w.heap.size+1,4,none⟩=some (.int .i64 vn')∧cWW.cell? ⟨w.heap.size,5,none⟩=some (.string ⟨vs.toArray⟩)∧cWW.cell? ⟨w.heap.size+1,5,none⟩=some (.string ⟨vs'.toArray⟩)∧cWW.cell? ⟨w.heap.size,6,none⟩=some (.slice ao l.length cap)∧cWW.cell? ⟨w.heap.size+1,6,none⟩=some (.slice ao' l'.length cap'):=by
 rintro _ rfl
 have hE2:=(Ext.refl (w.alloc (.cells (cdS.vals (.mk ⟨⟨k,col,oth,vk,vn,vs⟩,ao,cap⟩ l:Cnd)).toArray 27))).alloc (.cells (cdS.vals (.mk ⟨⟨k',col',oth',vk',vn',vs'⟩,ao',cap'⟩ l':Cnd)).toArray 27)
 have hA:=(BxT.new w (cdS.vals (.mk ⟨⟨k,col,oth,vk,vn,vs⟩,ao,cap⟩ l:Cnd)) 27).ext hE2
 have hB:=BxT.new (w.alloc (.cells (cdS.vals (.mk ⟨⟨k,col,oth,vk,vn,vs⟩,ao,cap⟩ l:Cnd)).toArray 27)) (cdS.vals (.mk ⟨⟨k',col',oth',vk',vn',vs'⟩,ao',cap'⟩ l':Cnd)) 27
 rw[World.size_alloc]at hB
 exact⟨((Ext.refl w).alloc _).trans hE2,hA.at 0 _ rfl,hB.at 0 _ rfl,hA.at 1 _ rfl,hB.at 1 _ rfl,hA.at 2 _ rfl,hB.at 2 _ rfl,hA.at 3 _ rfl,hB.at 3 _ rfl,hA.at 4 _ rfl,hB.at 4 _ rfl,hA.at 5 _ rfl,hB.at 5 _ rfl,hA.at 6 _ rfl,hB.at 6 _ rfl⟩
theorem cnd_w {r:Bool} (hQ:∀wx,Ext w wx→Calls Tryz.prog 177 #[.slice ao l.length cap,.slice ao' l'.length cap',.func (.func 100) #[] #[]] wx fun e w'=>e = .returned (.bool r)∧Ext wx w') :
  Calls Tryz.prog 100 #[.agg (cdS.vals (.mk ⟨⟨k,col,oth,vk,vn,vs⟩,ao,cap⟩ l:Cnd)).toArray,.agg (cdS.vals (.mk ⟨⟨k',col',oth',vk',vn',vs'⟩,ao',cap'⟩ l':Cnd)).toArray] w fun e w'=>e = .returned (.bool (k==k'&&col==col'&&oth==oth'&&decide (vk=vk'∧vn=vn'∧vs=vs')&&r))∧Ext w w':=by
 obtain⟨hE0,a0,b0,a1,b1,a2,b2,a3,b3,a4,b4,a5,b5,a6,b6⟩:=cnd_h k col oth vk vn vs ao cap l k' col' oth' vk' vn' vs' ao' cap' l' w _ rfl
 have HQ:=Lib.hid hQ
 clear hQ
 rcases chn [k==k',col==col',oth==oth',decide (vk=vk'∧vn=vn'∧vs=vs')]with e0|⟨e0,e1|⟨e1,e2|⟨e2,e3|⟨e3,-⟩⟩⟩⟩
 all_goals
  simp only[*,Bool.false_and,Bool.and_false,Bool.true_and]
  go_enter Tryz.func100,Tryz.ntmps100
  go_wp2_with (first
   | ((with_reducible show wpList _ _ _ (⟨some 29,.binOp _ _ _ _ _,_,_,_,_⟩::_) _ _);refine wpl_valO rfl (yr_eqv2 rfl rfl rfl e3) ?_)
   | (go_at_call 177;(with_reducible refine(HQ.out _ hE0).mono ?_);rintro e w1 ⟨rfl,hE3⟩))
  go_ret
  first|exact⟨rfl,hE0.trans hE3⟩|exact⟨rfl,hE0⟩
end
theorem mapT_inj_c {a b:CdA} {l l':List Cnd}:(mapT CdA.d (.mk a l)=mapT CdA.d (.mk b l'))↔(a.d=b.d∧l.map (mapT CdA.d)=l'.map (mapT CdA.d)):=by
 rw[mapT,mapT,mapTs_map,mapTs_map]
 constructor
 ·intro h;injection h with h1 h2;exact⟨h1,h2⟩
 ·rintro⟨h1,h2⟩;rw[h1,h2]
theorem eqC_no {x y:Tr CdD} (h:¬x=y):eqC x y=false:=by rw[←Bool.not_eq_true,eqC_iff];exact h
open Classical in
theorem cnds_c (A B:Nat→Prop):∀(n:Nat) (a b:Cnd),szC a≤n→∀w:World,InC A w a→InC B w b→Calls Tryz.prog 100 #[.agg (cdS.vals a).toArray,.agg (cdS.vals b).toArray] w fun e w'=>e = .returned (.bool (eqC (mapT CdA.d a) (mapT CdA.d b)))∧Ext w w'
 | 0,a,_,hn,_,_,_=>by have:=szC_pos a;omega
 | n+1,.mk ⟨⟨k,col,oth,vk,vn,vs⟩,ao,cap⟩ l,.mk ⟨⟨k',col',oth',vk',vn',vs'⟩,ao',cap'⟩ l',hn,w,hA,hB=>by
   refine cB (cnd_w k col oth vk vn vs ao cap l k' col' oth' vk' vn' vs' ao' cap' l' w (r:=decide (l.map (mapT CdA.d)=l'.map (mapT CdA.d))) (fun wx hE=>eqfC_c l l' A B ao ao' cap cap' _ wx (RdT.kp cdS (Kp.ext hE) hA.parts.2.1) (RdT.kp cdS (Kp.ext hE) hB.parts.2.1) (fun x hx y hy wy hEy=>?_) (by rw[decide_eq_true_eq]))) ?_
   ·have:=szC_lt (t:=.mk ⟨⟨k,col,oth,vk,vn,vs⟩,ao,cap⟩ l) (show x∈(Tr.mk (⟨⟨k,col,oth,vk,vn,vs⟩,ao,cap⟩:CdA) l).l from hx)
    exact cnds_c A B n x y (by omega) wy (InC.ext (hA.parts.2.2 x hx) (hE.trans hEy)) (InC.ext (hB.parts.2.2 y hy) (hE.trans hEy))
   ·rw[Bool.eq_iff_iff,eqC_iff,mapT_inj_c]
    simp only[CdD.mk.injEq,ValD.mk.injEq,Bool.and_eq_true,beq_iff_eq,decide_eq_true_eq,and_assoc]
section
variable (k:Int) (tb:List UInt8) (cols:List (List UInt8)) (ca:Option Addr) (cc:Nat) (nms:List (List UInt8)) (na:Option Addr) (nc:Nat) (cd:Cnd) (rel fn f t:Int) (ao:Option Addr) (cap:Nat) (l:List Qry) (k':Int) (tb':List UInt8) (cols':List (List UInt8)) (ca':Option Addr) (cc':Nat) (nms':List (List UInt8)) (na':Option Addr) (nc':Nat) (cd':Cnd) (rel' fn' f' t':Int) (ao':Option Addr) (cap':Nat) (l':List Qry) (w:World)
theorem sam_h:∀cWW,cWW=((w.alloc (.cells (qnS.vals (.mk ⟨k,tb,cols,ca,cc,nms,na,nc,cd,rel,fn,f,t,ao,cap⟩ l:Qry)).toArray 32)).alloc (.cells (qnS.vals (.mk ⟨k',tb',cols',ca',cc',nms',na',nc',cd',rel',fn',f',t',ao',cap'⟩ l':Qry)).toArray 32))→Ext w cWW∧w.heap.size<cWW.heap.size∧w.heap.size+1<cWW.heap.size∧Hid (∀W,Ext cWW W→W.rangeAt w.heap.size 4 (cdS.vals cd))∧Hid (∀W,Ext cWW W→W.rangeAt (w.heap.size+1) 4 (cdS.vals cd'))∧cWW.cell? ⟨w.heap.size,0,none⟩=some (.int .i64 k)∧cWW.cell? ⟨w.heap.size+1,0,none⟩=some (.int .i64 k')∧cWW.cell? ⟨w.heap.size,1,none⟩=some (.string ⟨tb.toArray⟩)∧cWW.cell? ⟨w.heap.size+1,1,none⟩=some (.string ⟨tb'.toArray⟩)∧cWW.cell? ⟨w.heap.size,2,none⟩=some (.slice ca cols.length cc)∧cWW.cell? ⟨w.heap.size+1,2,none⟩=some (.slice ca' cols'.length cc')∧cWW.cell? ⟨w.heap.size,3,none⟩=some (.slice na nms.length nc)∧cWW.cell? ⟨w.heap.size+1,3,none⟩=some (.slice na' nms'.length nc')∧cWW.cell? ⟨w.heap.size,11,none⟩=some (.int .i64 rel)∧cWW.cell? ⟨w.heap.size+1,11,none⟩=some (.int .i64 rel')∧cWW.cell? ⟨w.heap.size,12,none⟩=some (.int .i64 fn)∧cWW.cell? ⟨w.heap.size+1,12,none⟩=some (.int .i64 fn')∧cWW.cell? ⟨w.heap.size,13,none⟩=some (.int .i64 f)∧cWW.cell? ⟨w.heap.size+1,13,none⟩=some (.int .i64 f')∧cWW.cell? ⟨w.heap.size,14,none⟩=some (.int .i64 t)∧cWW.cell? ⟨w.heap.size+1,14,none⟩=some (.int .i64 t')∧cWW.cell? ⟨w.heap.size,15,none⟩=some (.slice ao l.length cap)∧cWW.cell? ⟨w.heap.size+1,15,none⟩=some (.slice ao' l'.length cap'):=by
 rintro _ rfl
 have hE2:=(Ext.refl (w.alloc (.cells (qnS.vals (.mk ⟨k,tb,cols,ca,cc,nms,na,nc,cd,rel,fn,f,t,ao,cap⟩ l:Qry)).toArray 32))).alloc (.cells (qnS.vals (.mk ⟨k',tb',cols',ca',cc',nms',na',nc',cd',rel',fn',f',t',ao',cap'⟩ l':Qry)).toArray 32)
 have hA:=(BxT.new w (qnS.vals (.mk ⟨k,tb,cols,ca,cc,nms,na,nc,cd,rel,fn,f,t,ao,cap⟩ l:Qry)) 32).ext hE2
 have hB:=BxT.new (w.alloc (.cells (qnS.vals (.mk ⟨k,tb,cols,ca,cc,nms,na,nc,cd,rel,fn,f,t,ao,cap⟩ l:Qry)).toArray 32)) (qnS.vals (.mk ⟨k',tb',cols',ca',cc',nms',na',nc',cd',rel',fn',f',t',ao',cap'⟩ l':Qry)) 32
 rw[World.size_alloc]at hB
 refine⟨((Ext.refl w).alloc _).trans hE2,hA.hD,hB.hD,fun W hE=>bxt_sub (us:=[.int .i64 k,.string ⟨tb.toArray⟩,.slice ca cols.length cc,.slice na nms.length nc]) (es:=[.int .i64 rel,.int .i64 fn,.int .i64 f,.int .i64 t,.slice ao l.length cap]) (hA.ext hE) 4 rfl,fun W hE=>bxt_sub (us:=[.int .i64 k',.string ⟨tb'.toArray⟩,.slice ca' cols'.length cc',.slice na' nms'.length nc']) (es:=[.int .i64 rel',.int .i64 fn',.int .i64 f',.int .i64 t',.slice ao' l'.length cap']) (hB.ext hE) 4 rfl,hA.at 0 _ rfl,hB.at 0 _ rfl,hA.at 1 _ rfl,hB.at 1 _ rfl,hA.at 2 _ rfl,hB.at 2 _ rfl,hA.at 3 _ rfl,hB.at 3 _ rfl,hA.at 11 _ rfl,hB.at 11 _ rfl,hA.at 12 _ rfl,hB.at 12 _ rfl,hA.at 13 _ rfl,hB.at 13 _ rfl,hA.at 14 _ rfl,hB.at 14 _ rfl,hA.at 15 _ rfl,hB.at 15 _ rfl⟩
theorem sam_w {v2 v3 v4 r:Bool} (h2:∀wx,Ext w wx→Calls Tryz.prog 24 #[.slice ca cols.length cc,.slice ca' cols'.length cc'] wx fun e w'=>e = .returned (.bool v2)∧Ext wx w') (h3:∀wx,Ext w wx→Calls Tryz.prog 24 #[.slice na nms.length nc,.slice na' nms'.length nc'] wx fun e w'=>e = .returned (.bool v3)∧Ext wx w') (h4:∀wx,Ext w wx→Calls Tryz.prog 100 #[.agg (cdS.vals cd).toArray,.agg (cdS.vals cd').toArray] wx fun e w'=>e = .returned (.bool v4)∧Ext wx w') (h8:∀wx,Ext w wx→Calls Tryz.prog 101 #[.slice ao l.length cap,.slice ao' l'.length cap',.func (.func 51) #[] #[]] wx fun e w'=>e = .returned (.bool r)∧Ext wx w'):Calls Tryz.prog 51 #[.agg (qnS.vals (.mk ⟨k,tb,cols,ca,cc,nms,na,nc,cd,rel,fn,f,t,ao,cap⟩ l:Qry)).toArray,.agg (qnS.vals (.mk ⟨k',tb',cols',ca',cc',nms',na',nc',cd',rel',fn',f',t',ao',cap'⟩ l':Qry)).toArray] w fun e w'=>e = .returned (.bool (k==k'&&tb==tb'&&v2&&v3&&v4&&rel==rel'&&fn==fn'&&decide (f=f'∧t=t')&&r))∧Ext w w':=by
 obtain⟨hE0,hax,hbx,RA,RB,a0,b0,a1,b1,a2,b2,a3,b3,a11,b11,a12,b12,a13,b13,a14,b14,a15,b15⟩:=sam_h k tb cols ca cc nms na nc cd rel fn f t ao cap l k' tb' cols' ca' cc' nms' na' nc' cd' rel' fn' f' t' ao' cap' l' w _ rfl
 have H2:=Lib.hid h2
 have H3:=Lib.hid h3
 have H4:=Lib.hid h4
 have H8:=Lib.hid h8
 clear h2 h3 h4 h8
 rcases chn [k==k',tb==tb',v2,v3,v4,rel==rel',fn==fn',decide (f=f'∧t=t')]with e0|⟨e0,e1|⟨e1,rfl|⟨rfl,rfl|⟨rfl,rfl|⟨rfl,e5|⟨e5,e6|⟨e6,e7|⟨e7,-⟩⟩⟩⟩⟩⟩⟩⟩
 all_goals
  simp only[*,Bool.false_and,Bool.and_false,Bool.true_and]
  go_enter Tryz.func51,Tryz.ntmps51
  go_wp2_with (first
   | (go_at_call 24;(with_reducible refine(H2.out _ hE0).mono ?_);rintro e w1 ⟨rfl,hX1⟩;have a3_1:=(hX1.cells _ 3 hax).trans a3;have b3_1:=(hX1.cells _ 3 hbx).trans b3;have a11_1:=(hX1.cells _ 11 hax).trans a11;have b11_1:=(hX1.cells _ 11 hbx).trans b11)
   | (go_at_call 24;(with_reducible refine(H3.out _ (hE0.trans hX1)).mono ?_);rintro e w2 ⟨rfl,hX2⟩;have hY2:=hX1.trans hX2)
   | ((with_reducible show wpList _ _ _ (⟨some 33,.load _ _,_,_,_,_⟩::_) _ _);refine wpl_load rfl 27 _ rfl w.heap.size 4 rfl (cdS.vals cd) _ (RA.out _ hY2) Tryz.underlying27 rfl (info_c cd) ?_)
   | ((with_reducible show wpList _ _ _ (⟨some 35,.load _ _,_,_,_,_⟩::_) _ _);refine wpl_load rfl 27 _ rfl (w.heap.size+1) 4 rfl (cdS.vals cd') _ (RB.out _ hY2) Tryz.underlying27 rfl (info_c cd') ?_)
   | (go_at_call 100;(with_reducible refine(H4.out _ (hE0.trans hY2)).mono ?_);rintro e w3 ⟨rfl,hX3⟩;have hY3:=hY2.trans hX3;have a11_3:=(hY3.cells _ 11 hax).trans a11;have b11_3:=(hY3.cells _ 11 hbx).trans b11;have a12_3:=(hY3.cells _ 12 hax).trans a12;have b12_3:=(hY3.cells _ 12 hbx).trans b12;have a13_3:=(hY3.cells _ 13 hax).trans a13;have b13_3:=(hY3.cells _ 13 hbx).trans b13;have a14_3:=(hY3.cells _ 14 hax).trans a14;have b14_3:=(hY3.cells _ 14 hbx).trans b14;have a15_3:=(hY3.cells _ 15 hax).trans a15;have b15_3:=(hY3.cells _ 15 hbx).trans b15)
   | ((with_reducible show wpList _ _ _ (⟨some 57,.binOp _ _ _ _ _,_,_,_,_⟩::_) _ _);refine wpl_valO rfl (yr_eqp2 rfl rfl rfl e7) ?_)
   | (go_at_call 101;(with_reducible refine(H8.out _ (hE0.trans hY3)).mono ?_);rintro e w4 ⟨rfl,hX4⟩))
  go_ret
  first|exact⟨rfl,(hE0.trans hY3).trans hX4⟩|exact⟨rfl,hE0.trans hY3⟩|exact⟨rfl,hE0.trans hY2⟩|exact⟨rfl,hE0.trans hX1⟩|exact⟨rfl,hE0⟩
end
end Go.Proofs.YtlmeinikknoeeaaGreatDoor
namespace Go.Proofs.YtlmeinikknoeeaaGreatDoor
set_option linter.unusedVariables false
set_option linter.unnecessarySimpa false
set_option linter.unusedSimpArgs false
open Go.RowKit
theorem mapT_inj_q {a b:QnA} {l l':List Qry}:(mapT QnA.d (.mk a l)=mapT QnA.d (.mk b l'))↔(a.d=b.d∧l.map (mapT QnA.d)=l'.map (mapT QnA.d)):=by
 rw[mapT,mapT,mapTs_map,mapTs_map]
 constructor
 ·intro h;injection h with h1 h2;exact⟨h1,h2⟩
 ·rintro⟨h1,h2⟩;rw[h1,h2]
open Classical in
theorem same_c (A B:Nat→Prop):∀(n:Nat) (a b:Qry),szC a≤n→∀w:World,InQ A w a→InQ B w b→Calls Tryz.prog 51 #[.agg (qnS.vals a).toArray,.agg (qnS.vals b).toArray] w fun e w'=>e = .returned (.bool (eqQ (mapT QnA.d a) (mapT QnA.d b)))∧Ext w w'
 | 0,a,_,hn,_,_,_=>by have:=szC_pos a;omega
 | n+1,.mk ⟨k,tb,cols,ca,cc,nms,na,nc,cd,rel,fn,f,t,ao,cap⟩ l,.mk ⟨k',tb',cols',ca',cc',nms',na',nc',cd',rel',fn',f',t',ao',cap'⟩ l',hn,w,hA,hB=>by
   obtain⟨ha1,ha2,ha3,-⟩:=hA.parts.1
   obtain⟨hb1,hb2,hb3,-⟩:=hB.parts.1
   have ha1:TxA A w ca cc cols:=ha1
   have ha2:TxA A w na nc nms:=ha2
   have ha3:InC A w cd:=ha3
   have hb1:TxA B w ca' cc' cols':=hb1
   have hb2:TxA B w na' nc' nms':=hb2
   have hb3:InC B w cd':=hb3
   refine cB (sam_w k tb cols ca cc nms na nc cd rel fn f t ao cap l k' tb' cols' ca' cc' nms' na' nc' cd' rel' fn' f' t' ao' cap' l' w (v2:=decide (cols=cols')) (v3:=decide (nms=nms')) (v4:=eqC (mapT CdA.d cd) (mapT CdA.d cd')) (r:=decide (l.map (mapT QnA.d)=l'.map (mapT QnA.d))) (fun wx hE=>eqTx_c cols cols' A B ca ca' cc cc' _ wx (ha1.ext hE) (hb1.ext hE) (by rw[decide_eq_true_eq])) (fun wx hE=>eqTx_c nms nms' A B na na' nc nc' _ wx (ha2.ext hE) (hb2.ext hE) (by rw[decide_eq_true_eq])) (fun wx hE=>cnds_c A B (szC cd) cd cd' (Nat.le_refl _) wx (InC.ext ha3 hE) (InC.ext hb3 hE)) (fun wx hE=>eqfQ_c l l' A B ao ao' cap cap' _ wx (RdT.kp qnS (Kp.ext hE) hA.parts.2.1) (RdT.kp qnS (Kp.ext hE) hB.parts.2.1) (fun x hx y hy wy hEy=>?_) (by rw[decide_eq_true_eq]))) ?_
   ·have:=szC_lt (t:=.mk ⟨k,tb,cols,ca,cc,nms,na,nc,cd,rel,fn,f,t,ao,cap⟩ l) (show x∈(Tr.mk (⟨k,tb,cols,ca,cc,nms,na,nc,cd,rel,fn,f,t,ao,cap⟩:QnA) l).l from hx)
    exact same_c A B n x y (by omega) wy (InQ.ext (hA.parts.2.2 x hx) (hE.trans hEy)) (InQ.ext (hB.parts.2.2 y hy) (hE.trans hEy))
   ·rw[Bool.eq_iff_iff,eqQ_iff,mapT_inj_q]
    simp only[QnA.d,QnD.mk.injEq,Bool.and_eq_true,beq_iff_eq,decide_eq_true_eq,eqC_iff,and_assoc]
set_option maxRecDepth 100000 in
set_option maxHeartbeats 4000000 in
theorem equal_c (A B:Nat→Prop) (a b:Qry) (w:World) (hA:InQ A w a) (hB:InQ B w b) (hw:Rsv w) :
  Calls Tryz.prog 22 #[.agg (qnS.vals a).toArray,.agg (qnS.vals b).toArray] w fun e w'=>e = .returned (.bool (vdQ (mapT QnA.d a)&&vdQ (mapT QnA.d b)&&eqQ (mapT QnA.d a) (mapT QnA.d b)))∧Ext w w':=by
 have hE1:Ext w (w.alloc (.cells (qnS.vals a).toArray 32)):=(Ext.refl w).alloc _
 have hE2:=(Ext.refl (w.alloc (.cells (qnS.vals a).toArray 32))).alloc (.cells (qnS.vals b).toArray 32)
 have hE0:=hE1.trans hE2
 have hXA:=(BxT.new w (qnS.vals a) 32).ext hE2
 have hXB:=BxT.new (w.alloc (.cells (qnS.vals a).toArray 32)) (qnS.vals b) 32
 rw[World.size_alloc]at hXB
 have HA:=Lib.hid hXA
 have HB:=Lib.hid hXB
 have HIA:=Lib.hid hA
 have HIB:=Lib.hid hB
 have HW:=Lib.hid hw
 obtain⟨va,hva⟩:∃v,vdQ (mapT QnA.d a)=v:=⟨_,rfl⟩
 obtain⟨vb,hvb⟩:∃v,vdQ (mapT QnA.d b)=v:=⟨_,rfl⟩
 obtain⟨s,hs⟩:∃v,eqQ (mapT QnA.d a) (mapT QnA.d b)=v:=⟨_,rfl⟩
 rw[hva,hvb,hs]
 have HVa:Hid (∀wx,Ext w wx→Calls Tryz.prog 17 #[.agg (qnS.vals a).toArray] wx fun e w'=>e = .returned (.bool va)∧Ext wx w'):=fun wx hE=>by have:=hval A a wx (InQ.ext hA hE) (hw.ext hE);rwa [hva]at this
 have HVb:Hid (∀wx,Ext w wx→Calls Tryz.prog 17 #[.agg (qnS.vals b).toArray] wx fun e w'=>e = .returned (.bool vb)∧Ext wx w'):=fun wx hE=>by have:=hval B b wx (InQ.ext hB hE) (hw.ext hE);rwa [hvb]at this
 have HS:Hid (∀wx,Ext w wx→Calls Tryz.prog 51 #[.agg (qnS.vals a).toArray,.agg (qnS.vals b).toArray] wx fun e w'=>e = .returned (.bool s)∧Ext wx w'):=fun wx hE=>by have:=same_c A B (szC a) a b (Nat.le_refl _) wx (InQ.ext hA hE) (InQ.ext hB hE);rwa [hs]at this
 clear hva hvb hs hA hB hw hXA hXB hE1 hE2
 rcases chn [va,vb]with rfl|⟨rfl,rfl|⟨rfl,-⟩⟩
 all_goals
  go_enter Tryz.func22,Tryz.ntmps22
  go_wp2_with (first
   | ((with_reducible show wpList _ _ _ (⟨some 5,.load _ _,_,_,_,_⟩::_) _ _);refine wpl_load rfl 32 _ rfl w.heap.size 0 rfl (qnS.vals a) _ HA.out.rd Tryz.underlying32 rfl (info_q a) ?_)
   | ((with_reducible show wpList _ _ _ (⟨some 8,.load _ _,_,_,_,_⟩::_) _ _);refine wpl_load rfl 32 _ rfl (w.heap.size+1) 0 rfl (qnS.vals b) _ (HB.out.ext hX1).rd Tryz.underlying32 rfl (info_q b) ?_)
   | ((with_reducible show wpList _ _ _ (⟨some 12,.load _ _,_,_,_,_⟩::_) _ _);refine wpl_load rfl 32 _ rfl w.heap.size 0 rfl (qnS.vals a) _ (HA.out.ext (hX1.trans hX2)).rd Tryz.underlying32 rfl (info_q a) ?_)
   | ((with_reducible show wpList _ _ _ (⟨some 13,.load _ _,_,_,_,_⟩::_) _ _);refine wpl_load rfl 32 _ rfl (w.heap.size+1) 0 rfl (qnS.vals b) _ (HB.out.ext (hX1.trans hX2)).rd Tryz.underlying32 rfl (info_q b) ?_)
   | (go_at_call 17;(with_reducible refine(HVa.out _ hE0).mono ?_);rintro e w1 ⟨rfl,hX1⟩)
   | (go_at_call 17;(with_reducible refine(HVb.out _ (hE0.trans hX1)).mono ?_);rintro e w2 ⟨rfl,hX2⟩)
   | (go_at_call 51;(with_reducible refine(HS.out _ ((hE0.trans hX1).trans hX2)).mono ?_);rintro e w3 ⟨rfl,hX3⟩))
  go_ret
  first|exact⟨by simp,((hE0.trans hX1).trans hX2).trans hX3⟩|exact⟨rfl,(hE0.trans hX1).trans hX2⟩|exact⟨rfl,hE0.trans hX1⟩
end Go.Proofs.YtlmeinikknoeeaaGreatDoor
namespace Go.Proofs.YtlmeinikknoeeaaGreatDoor
set_option linter.unusedVariables false
set_option linter.unnecessarySimpa false
set_option linter.unusedSimpArgs false
open Go.RowKit
def awA:Cnd:=.mk ⟨⟨1,[97],[],⟨1,1,[]⟩⟩,none,0⟩ []
def awB:Cnd:=.mk ⟨opD 3,none,0⟩ []
def awT:Tr CdD:=.mk (opD 4) [.mk (opD 6) [.mk ⟨1,[97],[],⟨1,1,[]⟩⟩ [],.mk (opD 3) []]]
theorem awA_in (A:Nat→Prop) (w:World):InC A w awA:=by
 unfold awA
 rw[InC,InT]
 refine⟨⟨?_,?_,?_,?_,?_,?_⟩,⟨Nat.le_refl _,by decide,fun h=>absurd rfl h⟩,trivial⟩<;>(first|(unfold Bs;simp)|(unfold Bi;simp))
theorem awB_in (A:Nat→Prop) (w:World):InC A w awB:=by
 unfold awB
 rw[InC,InT]
 exact⟨opD_ok (by unfold Bi;omega) _ _,⟨Nat.le_refl _,by decide,fun h=>absurd rfl h⟩,trivial⟩
theorem aw_cd:cdQ awT=true:=by kernel_rfl
theorem aw_tx:tcX momT [32] awT = [110,111,116,32,40,97,32,61,32,49,32,111,114,32,97,108,119,97,121,115,41]:=by kernel_rfl
def awS:List UInt8:=[103,114,111,117,112,32,97,32,99,111,117,110,116,32,97,115,32,110,32,111,102,32,115,99,97,110,32,116]
def awS1:Tr QnD:=.mk {QnD.zero with k:=1,tb:=[116]} []
def awQ:Tr QnD:=.mk {QnD.zero with k:=9,cols:=[[97]],fn:=1,nms:=[[110]]} [awS1]
theorem aw_pa:paQ untZ awS = .ok awQ 8:=by kernel_rfl
theorem aw_v1:vdQ awS1=true:=by kernel_rfl
def awZ:Cnd:=.mk ⟨CdD.zero,none,0⟩ []
def awSc:Qry:=.mk ⟨1,[116],[],none,0,[],none,0,awZ,0,0,0,0,none,0⟩ []
theorem awZ_in (A:Nat→Prop) (w:World):InC A w awZ:=by
 unfold awZ
 rw[InC,InT]
 refine⟨⟨?_,?_,?_,?_,?_,?_⟩,⟨Nat.le_refl _,by decide,fun h=>absurd rfl h⟩,trivial⟩<;>(first|(unfold Bs;simp[CdD.zero,ValD.zero];done)|(unfold Bi;simp[CdD.zero,ValD.zero];done))
theorem awSc_in (A:Nat→Prop) (w:World):InQ A w awSc:=by
 unfold awSc
 rw[InQ,InT]
 refine⟨⟨TxA.nil A w,TxA.nil A w,awZ_in A w,?_,?_,?_,?_,?_,?_⟩,⟨Nat.le_refl _,by decide,fun h=>absurd rfl h⟩,trivial⟩<;>(first|(unfold Bs;simp;done)|(unfold Bi;simp;done))
theorem awSc_map:mapT QnA.d awSc=awS1:=rfl
set_option maxRecDepth 100000 in
set_option maxHeartbeats 1000000 in
theorem scan_aw (w:World):Calls Tryz.prog 44 #[.string ⟨#[116]⟩] w fun e w'=>e = .returned (.agg (qnS.vals awSc).toArray)∧Ext w w':=by
 go_enter Tryz.func44,Tryz.ntmps44
 go_wp2_with (first
  | ((with_reducible show wpList _ _ _ (⟨some 2,.alloc _,_,_,_,_⟩::_) _ _);refine wpl_new rfl 32 zeroQ rfl alloc_q ?_;intro W1 hE1 hB1 hs1)
  | ((with_reducible show wpList _ _ _ (⟨none,.store _ (.tmp 2) _,_,_,_,_⟩::_) _ _);refine wpl_st rfl 32 _ _ rfl w.heap.size zeroQ (qnS.vals awSc) rfl rfl hB1 rfl (info_q awSc) (vals_one_q awSc) ?_;intro W2 hF2 hB2))
 refine bodyPost_ret (v:=.agg (qnS.vals awSc).toArray) (results_c9 rfl rfl (run_loadVar_mid _ w.heap.size 0 32 _ _ hB2.rd Tryz.underlying32 rfl (info_q awSc))) rfl ⟨rfl,ext_frm ((Frm.of_ext hE1).step hF2 (fun k h1 h2=>by omega))⟩
end Go.Proofs.YtlmeinikknoeeaaGreatDoor
