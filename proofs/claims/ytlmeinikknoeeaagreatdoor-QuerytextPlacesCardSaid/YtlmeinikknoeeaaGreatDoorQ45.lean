/- Queries: the walk of awake. -/
import Derived.Test.YtlmeinikknoeeaaGreatDoorQ44
namespace Go.Proofs.YtlmeinikknoeeaaGreatDoor
set_option linter.unusedVariables false
set_option linter.unnecessarySimpa false
set_option linter.unusedSimpArgs false
open Go.RowKit
theorem yr_eqeO {o:Oper} {a:Act} {w:World} {x y:Operand} {t2:TypeId} {A B:Int} {b:Bool} (hop:o.op = .binOp .eql 37 x y t2) (hx:a.eval x = .int .i64 A) (hy:a.eval y = .int .i64 B) (hb:(A==B)=b):(execOp a.eval o).run Tryz.prog w = .ok (.value (.bool b)) w:=by
 unfold execOp
 simp only[hop,hx,hy]
 simp[Result.andThen,go_sem,eqGuard,hb]
theorem yr_eqsS {o:Oper} {a:Act} {w:World} {x y:Operand} {t2:TypeId} {s:ByteArray} (hop:o.op = .binOp .eql 9 x y t2) (hx:a.eval x = .string s) (hy:a.eval y = .string s):(execOp a.eval o).run Tryz.prog w = .ok (.value (.bool true)) w:=by
 unfold execOp
 simp only[hop,hx,hy]
 simp[Result.andThen,go_sem,eqGuard]
theorem yr_eqpO2 {o:Oper} {a:Act} {w:World} {x y:Operand} {t2:TypeId} {k n k' n':Int} {b:Bool} (hop:o.op = .binOp .eql 50 x y t2) (hx:a.eval x = .agg #[.int .i64 k,.int .i64 n]) (hy:a.eval y = .agg #[.int .i64 k',.int .i64 n']) (hb:decide (k=k'∧n=n')=b):(execOp a.eval o).run Tryz.prog w = .ok (.value (.bool b)) w:=by
 unfold execOp
 simp only[hop,hx,hy]
 simp[Result.andThen,go_sem,eqGuard]
 rw[←hb]
 by_cases h1:k=k'
 ·by_cases h2:n=n'
  ·simp[h1,h2]
  ·simp[h1,h2]
 ·simp[h1]
theorem yr_bldP {o:Oper} {a:Act} {w:World} (hop:o.op = .build 50 #[]):(execOp a.eval o).run Tryz.prog w = .ok (.value (.agg #[.int .i64 0,.int .i64 0])) w:=by
 unfold execOp
 simp only[hop]
 have h:(Instr.build 50 #[]).run Tryz.prog w = .ok (.agg #[.int .i64 0,.int .i64 0]) w:=by kernel_rfl
 simp[h,Result.andThen]
theorem yr_lenQ {a:Act} {w:World} {o:Oper} {x:Operand} {ao:Option Addr} {n c:Nat} (hop:o.op = .call ⟨.builtin .len,#[x],#[30]⟩) (hot:o.type=3) (hx:a.eval x = .slice ao n c):(execOp a.eval o).run Tryz.prog w = .ok (.value (.int .i64 (n:Int))) w:=by
 have hm:(#[x]:Array Operand).map a.eval = #[.slice ao n c]:=by simp[hx]
 unfold execOp
 simp only[hop,resolve,hot,hm]
 simp[go_sem,Tryz.underlying30]
theorem lo_pos (D o:Nat) (k n:Int) (w:World) (h0:w.cell? ⟨D,o,none⟩=some (.int .i64 k)) (h1:w.cell? ⟨D,o+1,none⟩=some (.int .i64 n)):(Instr.loadAt 50 (.pointer (some ⟨D,o,none⟩))).run Tryz.prog w = .ok (.agg #[.int .i64 k,.int .i64 n]) w:=by
 refine run_loadAt_mid w D o 50 [.int .i64 k,.int .i64 n] _ (fun j v hv=>?_) Tryz.underlying50 rfl (by kernel_rfl)
 match j,hv with
 | 0,hv=>injection hv with hv;rw[←hv];exact h0
 | 1,hv=>injection hv with hv;rw[←hv];exact h1
theorem lo_int (D o:Nat) (v:Value) (w:World) (h:w.cell? ⟨D,o,none⟩=some v):(Instr.loadAt 3 (.pointer (some ⟨D,o,none⟩))).run Tryz.prog w = .ok v w:=by simp[go_sem,h]
theorem lo_slq (D o:Nat) (v:Value) (w:World) (h:w.cell? ⟨D,o,none⟩=some v):(Instr.loadAt 30 (.pointer (some ⟨D,o,none⟩))).run Tryz.prog w = .ok v w:=by simp[go_sem,h]
theorem lo_qry (R o:Nat) (t:Qry) (w:World) (h:w.rangeAt R o (qnS.vals t)):(Instr.loadAt 32 (.pointer (some ⟨R,o,none⟩))).run Tryz.prog w = .ok (.agg (qnS.vals t).toArray) w:=run_loadAt_mid w R o 32 (qnS.vals t) _ h Tryz.underlying32 rfl (info_q t)
theorem ix_q0 (B O c:Nat) (w:World):(Instr.indexAt 30 (.slice (some ⟨B,O,none⟩) 1 c) (.int .i64 0)).run Tryz.prog w = .ok (.pointer (some ⟨B,O,none⟩)) w:=by go_simp
theorem fa_qa0 (B:Nat) (w:World):(Instr.fieldAt 32 (.pointer (some ⟨B,0,none⟩)) 0).run Tryz.prog w = .ok (.pointer (some ⟨B,0,none⟩)) w:=by go_simp
theorem fa_qa8 (B:Nat) (w:World):(Instr.fieldAt 32 (.pointer (some ⟨B,0,none⟩)) 8).run Tryz.prog w = .ok (.pointer (some ⟨B,15,none⟩)) w:=by go_simp
theorem alloc_p (w:World):(Instr.alloc 50 true (.tuple #[])).run Tryz.prog w = .ok (.pointer (some ⟨w.heap.size,0,none⟩)) (w.alloc (.cells [.int .i64 0,.int .i64 0].toArray 50)):=by kernel_rfl
theorem aw_shape {t:Qry} (h:mapT QnA.d t=awQ):∃a b,t = .mk a [b]∧a.k=9∧mapT QnA.d b=awS1:=by
 cases t with
 | mk a l=>
   rw[mapT]at h
   unfold awQ at h
   injection h with h1 h2
   have hl:l.length=1:=by rw[←mapTs_len QnA.d l,h2];rfl
   obtain⟨b,rfl⟩:=len1 hl
   refine⟨a,b,rfl,?_,?_⟩
   ·have:=congrArg QnD.k h1;exact this
   ·rw[mapTs,mapTs]at h2
    injection h2
set_option maxRecDepth 100000 in
set_option maxHeartbeats 2000000 in
theorem awake40_c (w:World) (hr:RsvB w.heap.size w) (hm:LmO w):Calls Tryz.prog 12 #[] w fun e w'=>e = .returned (.bool true)∧Ext w w':=by
 have HR:=Lib.hid hr
 have HL:=Lib.hid hm
 have HCt:∀W,Ext w W→BxT w.heap.size (cdS.vals awA++cdS.vals awB) W→∀Y,BxT Y (cdS.vals (opC2 6 w.heap.size awA awB)) W→Hid (Calls Tryz.prog 29 #[.agg (cdS.vals (opC1 4 Y (opC2 6 w.heap.size awA awB))).toArray] W fun e w'=>e = .returned (.tuple #[.string ⟨#[110,111,116,32,40,97,32,61,32,49,32,111,114,32,97,108,119,97,121,115,41]⟩,.int .i64 0])∧Ext W w'):=fun W hE h1 Y h2=>by
  have h:=condtext_c (fun _=>True) (opC1 4 Y (opC2 6 w.heap.size awA awB)) W (InC.op1 (by unfold Bi;omega) (InC.op2 (by unfold Bi;omega) (awA_in _ _) (awB_in _ _) _ trivial h1.hD h1.rd) _ trivial h2.hD h2.rd) (HR.out.rsv.ext hE) (HL.out.ext hE)
  rw[show mapT CdA.d (opC1 4 Y (opC2 6 w.heap.size awA awB))=awT from rfl,if_pos aw_cd,aw_tx]at h
  exact h
 have HPa:∀W,Ext w W→Hid (Calls Tryz.prog 26 #[.string ⟨#[103,114,111,117,112,32,97,32,99,111,117,110,116,32,97,115,32,110,32,111,102,32,115,99,97,110,32,116]⟩] W fun e w'=>Ext W w'∧∃t:Qry,e = .returned (.tuple #[.agg (qnS.vals t).toArray,.agg #[.int .i64 0,.int .i64 0],.int .i64 0])∧InQ (fun k=>W.heap.size≤k) w' t∧mapT QnA.d t=awQ):=fun W hE=>by
  have h:=qparse_c awS W (by decide) ((HR.out.ext hE).up hE.size)
  rw[aw_pa]at h
  exact h
 clear hr hm
 go_enter Tryz.func12,Tryz.ntmps12
 go_wp2_with (first
  | ((with_reducible show wpList _ _ _ (⟨some 10,.buildSlice _ _ _,_,_,_,_⟩::_) _ _);refine wpl_bs2 rfl 25 27 _ _ rfl (.agg (cdS.vals awA).toArray) (.agg (cdS.vals awB).toArray) rfl rfl (cdS.vals awA++cdS.vals awB) (bs2_c awA awB _) ?_;intro W1 hE1 hB1 hs1;have HS1:=Lib.hid hs1;clear hs1)
  | ((with_reducible show wpList _ _ _ (⟨some 12,.buildSlice _ _ _,_,_,_,_⟩::_) _ _);refine wpl_bs1 rfl 25 27 _ rfl (.agg (cdS.vals (opC2 6 w.heap.size awA awB)).toArray) rfl (cdS.vals (opC2 6 w.heap.size awA awB)) (bs1_c _ _) ?_;intro W2 hE2 hB2 hs2;have HS2:=Lib.hid hs2;clear hs2)
  | ((with_reducible show wpList _ _ _ (⟨some 1,.alloc _,_,_,_,_⟩::_) _ _);refine wpl_new rfl 27 zeroC rfl alloc_c ?_;intro W3 hE3 hB3 hs3;have HS3:=Lib.hid hs3;clear hs3)
  | ((with_reducible show wpList _ _ _ (⟨none,.store _ (.tmp 1) _,_,_,_,_⟩::_) _ _);refine wpl_st rfl 27 _ _ rfl W2.heap.size zeroC (cdS.vals (opC1 4 W1.heap.size (opC2 6 w.heap.size awA awB))) rfl rfl hB3 rfl (info_c (opC1 4 W1.heap.size (opC2 6 w.heap.size awA awB))) (vals_one_c (opC1 4 W1.heap.size (opC2 6 w.heap.size awA awB))) ?_;intro W4 hF4 hB4;have hE4:Ext w W4:=ext_frm ((Frm.of_ext ((hE1.trans hE2).trans hE3)).step hF4 (fun k h1 h2=>by have q1:=HS1.out;have q2:=HS2.out;omega));have HC:=HCt W4 hE4 (((hB1.ext hE2).ext hE3).frm hF4 (by have q1:=HS1.out;have q2:=HS2.out;omega)) W1.heap.size ((hB2.ext hE3).frm hF4 (by have q1:=HS1.out;have q2:=HS2.out;omega));have HB4:=Lib.hid hB4;clear hB1 hB2 hB3 hB4 hF4)
  | ((with_reducible show wpList _ _ _ (⟨some 15,.load _ _,_,_,_,_⟩::_) _ _);refine wpl_load rfl 27 _ rfl W2.heap.size 0 rfl (cdS.vals (opC1 4 W1.heap.size (opC2 6 w.heap.size awA awB))) _ HB4.out.rd Tryz.underlying27 rfl (info_c (opC1 4 W1.heap.size (opC2 6 w.heap.size awA awB))) ?_)
  | (go_at_call 29;(with_reducible refine HC.out.mono ?_);rintro e w5 ⟨rfl,hE5⟩;have hE5b:=hE4.trans hE5)
  | (go_at_call 26;(with_reducible refine(HPa w5 hE5b).out.mono ?_);rintro e w6 ⟨hE6,⟨t,rfl,hIt,hmt⟩⟩;have hE6b:=hE5b.trans hE6;have HI:=Lib.hid hIt;have HM:=Lib.hid hmt;clear hIt hmt)
  | ((with_reducible show wpList _ _ _ (⟨some 4,.alloc _,_,_,_,_⟩::_) _ _);refine wpl_new rfl 32 zeroQ rfl alloc_q ?_;intro W7 hE7 hB7 hs7;have HS7:=Lib.hid hs7;clear hs7)
  | ((with_reducible show wpList _ _ _ (⟨some 5,.alloc _,_,_,_,_⟩::_) _ _);refine wpl_new rfl 50 [.int .i64 0,.int .i64 0] rfl alloc_p ?_;intro W8 hE8 hB8 hs8;have HS8:=Lib.hid hs8;clear hs8)
  | ((with_reducible show wpList _ _ _ (⟨none,.store _ (.tmp 4) _,_,_,_,_⟩::_) _ _);refine wpl_st rfl 32 _ _ rfl w6.heap.size zeroQ (qnS.vals t) rfl rfl (hB7.ext hE8) rfl (info_q t) (vals_one_q t) ?_;intro W9 hF9 hB9;have hP9:=hB8.frm hF9 (by have q1:=HS7.out;omega))
  | ((with_reducible show wpList _ _ _ (⟨none,.store _ (.tmp 5) _,_,_,_,_⟩::_) _ _);refine wpl_st rfl 50 _ _ rfl W7.heap.size [.int .i64 0,.int .i64 0] [.int .i64 0,.int .i64 0] rfl rfl hP9 rfl poI rfl ?_;intro W10 hF10 hB10;have hQ10:=hB9.frm hF10 (by have q1:=HS7.out;omega);have HE8:Hid (Ext w W10):=ext_frm (((Frm.of_ext (hE6b.trans (hE7.trans hE8))).step hF9 (fun k h1 h2=>by have:=hE6b.size;omega)).step hF10 (fun k h1 h2=>by have:=hE6b.size;have q1:=HS7.out;omega));have HE6:Hid (Ext w6 W10):=ext_frm (((Frm.of_ext (hE7.trans hE8)).step hF9 (fun k h1 h2=>by omega)).step hF10 (fun k h1 h2=>by have q1:=HS7.out;omega));have HQ:=Lib.hid hQ10;have HP:=Lib.hid hB10;clear hB7 hB8 hB9 hP9 hQ10 hB10 hF9 hF10))
 obtain⟨qa,tb,rfl,hk9,hmb⟩:=aw_shape HM.out
 have hIq:=HI.out
 have hrd:=hIq.parts.2.1
 obtain⟨R,off,eao,-,hR6,hc⟩:=hrd.2.2 (by intro h;cases h)
 have eao:qa.ao=some ⟨R,off,none⟩:=eao
 have hcb0:w6.rangeAt R (off+0*16) (qnS.vals tb):=hc 0 (show 0<1 by decide)
 rw[Nat.zero_mul,Nat.add_zero]at hcb0
 have hIb:InQ (fun k=>w5.heap.size≤k) w6 tb:=hIq.parts.2.2 tb List.mem_cons_self
 obtain⟨D4,hD4e⟩:∃D,D=w6.heap.size:=⟨_,rfl⟩
 obtain⟨D5,hD5e⟩:∃D,D=W7.heap.size:=⟨_,rfl⟩
 obtain⟨cap,hcape⟩:∃c,qa.cap=c:=⟨_,rfl⟩
 have hQ:=HQ.out
 have hP:=HP.out
 have k0:W10.cell? ⟨w6.heap.size,0,none⟩=some (.int .i64 9):=by rw[←hk9];exact hQ.at 0 _ rfl
 have k15:W10.cell? ⟨w6.heap.size,15,none⟩=some (.slice (some ⟨R,off,none⟩) 1 cap):=by rw[←eao,←hcape];exact hQ.at 15 _ rfl
 have p0:W10.cell? ⟨W7.heap.size,0,none⟩=some (.int .i64 0):=hP.at 0 _ rfl
 have p1:W10.cell? ⟨W7.heap.size,0+1,none⟩=some (.int .i64 0):=hP.at 1 _ rfl
 have hD4:=hQ.hD
 have hD5:=hP.hD
 rw[←hD4e]at k0 k15 hD4 ⊢
 rw[←hD5e]at p0 p1 hD5 ⊢
 have hR:=HE6.out.lt hR6
 have hcb:W10.rangeAt R off (qnS.vals tb):=fun j v hv=>(HE6.out.cells _ _ hR6).trans (hcb0 j v hv)
 have HEq:Hid (∀W,Ext W10 W→Calls Tryz.prog 22 #[.agg (qnS.vals tb).toArray,.agg (qnS.vals awSc).toArray] W fun e w'=>e = .returned (.bool true)∧Ext W w'):=fun W hE=>by
  have h:=equal_c _ (fun _=>True) tb awSc W (InQ.ext hIb (HE6.out.trans hE)) (awSc_in _ _) (HR.out.rsv.ext (HE8.out.trans hE))
  rw[hmb,awSc_map,aw_v1,(eqQ_iff awS1 awS1).2 rfl]at h
  exact h
 clear hQ hP hIq hrd hc hcb0 hIb eao hk9 hmb hD4e hD5e hcape
 refine wp_region_growK [24,25,26,27,28,29,30,31,32,33,34,35,36,37,38,39,40,41,42,43,44,45,46,47,48,49,50,51,52,53,54,55,56,57,0] [fun x _=>x = .int .i64 0,fun x _=>x = .bool true,fun x _=>x = .bool true,fun x _=>x = .string ⟨#[110,111,116,32,40,97,32,61,32,49,32,111,114,32,97,108,119,97,121,115,41]⟩,fun x _=>x = .bool true,fun x _=>x = .bool true,fun x _=>x = .bool true,fun x _=>x = .int .i64 0,fun x _=>x = .bool true,fun x _=>x = .bool true,fun x _=>x = .bool true,fun x _=>x = .agg #[.int .i64 0,.int .i64 0],fun x _=>x = .agg #[.int .i64 0,.int .i64 0],fun x _=>x = .bool true,fun x _=>x = .bool true,fun x _=>x = .bool true,fun x _=>x = .pointer (some ⟨D4,0,none⟩),fun x _=>x = .int .i64 9,fun x _=>x = .bool true,fun x _=>x = .bool true,fun x _=>x = .bool true,fun x _=>x = .pointer (some ⟨D4,15,none⟩),fun x _=>x = .slice (some ⟨R,off,none⟩) 1 cap,fun x _=>x = .int .i64 1,fun x _=>x = .bool true,fun x _=>x = .bool true,fun x _=>x = .bool true,fun x _=>x = .pointer (some ⟨D4,15,none⟩),fun x _=>x = .slice (some ⟨R,off,none⟩) 1 cap,fun x _=>x = .pointer (some ⟨R,off,none⟩),fun x _=>x = .agg (qnS.vals tb).toArray,fun x _=>x = .agg (qnS.vals awSc).toArray,fun x _=>x = .bool true,fun x _=>x = .bool true,fun x _=>x = .bool true] 0 (by kernel_rfl) (by kernel_rfl) (by kernel_rfl) (by kernel_rfl) ?_ ?_ ?_
 ·intro Rl hRl
  simp only[List.mem_cons,List.not_mem_nil,or_false]at hRl
  rcases hRl with rfl|rfl|rfl|rfl|rfl|rfl|rfl|rfl|rfl|rfl|rfl|rfl|rfl|rfl|rfl|rfl|rfl|rfl|rfl|rfl|rfl|rfl|rfl|rfl|rfl|rfl|rfl|rfl|rfl|rfl|rfl|rfl|rfl|rfl|rfl
  all_goals exact fun _ _ _ h _=>h
 ·refine⟨?_,?_,?_,?_,?_,?_,?_,?_,?_,?_,?_,?_,?_,?_,?_,?_,?_,?_,?_,?_,?_,?_,?_,?_,?_,?_,?_,?_,?_,?_,?_,?_,?_,?_,?_,trivial⟩
  ·refine .inl ⟨by intro j b hjb v w h;first|(cases hjb;done)|(cases hjb;exact h),?_⟩
   intro a wv hE hF hD K hK
   exact gs_valZ rfl (yr_moveZ rfl ((hF 3 (fr_ofZ rfl)).trans rfl)) (hK _ _ rfl (Ext.refl _))
  ·refine .inl ⟨by intro j b hjb v w h;first|(cases hjb;done)|(cases hjb;exact h),?_⟩
   intro a wv hE hF hD K hK
   have u24:a.eval (.tmp 24) = .int .i64 0:=hD 0 (by kernel_rfl)
   exact gs_valZ rfl (yr_eqeO rfl u24 rfl (by decide)) (hK _ _ rfl (Ext.refl _))
  ·refine .inl ⟨by intro j b hjb v w h;first|(cases hjb;done)|(cases hjb;exact h),?_⟩
   intro a wv hE hF hD K hK
   have u25:a.eval (.tmp 25) = .bool true:=hD 1 (by kernel_rfl)
   exact gs_valZ rfl (yr_moveZ rfl u25) (hK _ _ rfl (Ext.refl _))
  ·refine .inl ⟨by intro j b hjb v w h;first|(cases hjb;done)|(cases hjb;exact h),?_⟩
   intro a wv hE hF hD K hK
   exact gs_valZ rfl (yr_moveZ rfl ((hF 2 (fr_ofZ rfl)).trans rfl)) (hK _ _ rfl (Ext.refl _))
  ·refine .inl ⟨by intro j b hjb v w h;first|(cases hjb;done)|(cases hjb;exact h),?_⟩
   intro a wv hE hF hD K hK
   have u27:a.eval (.tmp 27) = .string ⟨#[110,111,116,32,40,97,32,61,32,49,32,111,114,32,97,108,119,97,121,115,41]⟩:=hD 3 (by kernel_rfl)
   exact gs_valZ rfl (yr_eqsS rfl u27 rfl) (hK _ _ rfl (Ext.refl _))
  ·refine .inl ⟨by intro j b hjb v w h;first|(cases hjb;done)|(cases hjb;exact h),?_⟩
   intro a wv hE hF hD K hK
   have u26:a.eval (.tmp 26) = .bool true:=hD 2 (by kernel_rfl)
   have u28:a.eval (.tmp 28) = .bool true:=hD 4 (by kernel_rfl)
   exact gs_valZ rfl (yr_pickZ (b:=true) rfl u26 u28) (hK _ _ rfl (Ext.refl _))
  ·refine .inl ⟨by intro j b hjb v w h;first|(cases hjb;done)|(cases hjb;exact h),?_⟩
   intro a wv hE hF hD K hK
   have u29:a.eval (.tmp 29) = .bool true:=hD 5 (by kernel_rfl)
   exact gs_valZ rfl (yr_moveZ rfl u29) (hK _ _ rfl (Ext.refl _))
  ·refine .inl ⟨by intro j b hjb v w h;first|(cases hjb;done)|(cases hjb;exact h),?_⟩
   intro a wv hE hF hD K hK
   exact gs_valZ rfl (yr_moveZ rfl ((hF 6 (fr_ofZ rfl)).trans rfl)) (hK _ _ rfl (Ext.refl _))
  ·refine .inl ⟨by intro j b hjb v w h;first|(cases hjb;done)|(cases hjb;exact h),?_⟩
   intro a wv hE hF hD K hK
   have u31:a.eval (.tmp 31) = .int .i64 0:=hD 7 (by kernel_rfl)
   exact gs_valZ rfl (yr_eqeO rfl u31 rfl (by decide)) (hK _ _ rfl (Ext.refl _))
  ·refine .inl ⟨by intro j b hjb v w h;first|(cases hjb;done)|(cases hjb;exact h),?_⟩
   intro a wv hE hF hD K hK
   have u30:a.eval (.tmp 30) = .bool true:=hD 6 (by kernel_rfl)
   have u32:a.eval (.tmp 32) = .bool true:=hD 8 (by kernel_rfl)
   exact gs_valZ rfl (yr_pickZ (b:=true) rfl u30 u32) (hK _ _ rfl (Ext.refl _))
  ·refine .inl ⟨by intro j b hjb v w h;first|(cases hjb;done)|(cases hjb;exact h),?_⟩
   intro a wv hE hF hD K hK
   have u33:a.eval (.tmp 33) = .bool true:=hD 9 (by kernel_rfl)
   exact gs_valZ rfl (yr_moveZ rfl u33) (hK _ _ rfl (Ext.refl _))
  ·refine .inl ⟨by intro j b hjb v w h;first|(cases hjb;done)|(cases hjb;exact h),?_⟩
   intro a wv hE hF hD K hK
   exact gs_valZ rfl (yr_loadZ rfl ((hF 5 (fr_ofZ rfl)).trans rfl) (lo_pos D5 0 0 0 wv ((hE.cells _ _ hD5).trans p0) ((hE.cells _ _ hD5).trans p1))) (hK _ _ rfl (Ext.refl _))
  ·refine .inl ⟨by intro j b hjb v w h;first|(cases hjb;done)|(cases hjb;exact h),?_⟩
   intro a wv hE hF hD K hK
   exact gs_valZ rfl (yr_bldP rfl) (hK _ _ rfl (Ext.refl _))
  ·refine .inl ⟨by intro j b hjb v w h;first|(cases hjb;done)|(cases hjb;exact h),?_⟩
   intro a wv hE hF hD K hK
   have u35:a.eval (.tmp 35) = .agg #[.int .i64 0,.int .i64 0]:=hD 11 (by kernel_rfl)
   have u36:a.eval (.tmp 36) = .agg #[.int .i64 0,.int .i64 0]:=hD 12 (by kernel_rfl)
   exact gs_valZ rfl (yr_eqpO2 rfl u35 u36 (by decide)) (hK _ _ rfl (Ext.refl _))
  ·refine .inl ⟨by intro j b hjb v w h;first|(cases hjb;done)|(cases hjb;exact h),?_⟩
   intro a wv hE hF hD K hK
   have u34:a.eval (.tmp 34) = .bool true:=hD 10 (by kernel_rfl)
   have u37:a.eval (.tmp 37) = .bool true:=hD 13 (by kernel_rfl)
   exact gs_valZ rfl (yr_pickZ (b:=true) rfl u34 u37) (hK _ _ rfl (Ext.refl _))
  ·refine .inl ⟨by intro j b hjb v w h;first|(cases hjb;done)|(cases hjb;exact h),?_⟩
   intro a wv hE hF hD K hK
   have u38:a.eval (.tmp 38) = .bool true:=hD 14 (by kernel_rfl)
   exact gs_valZ rfl (yr_moveZ rfl u38) (hK _ _ rfl (Ext.refl _))
  ·refine .inl ⟨by intro j b hjb v w h;first|(cases hjb;done)|(cases hjb;exact h),?_⟩
   intro a wv hE hF hD K hK
   exact gs_valZ rfl (yr_fieldZ rfl ((hF 4 (fr_ofZ rfl)).trans rfl) (fa_qa0 D4 wv)) (hK _ _ rfl (Ext.refl _))
  ·refine .inl ⟨by intro j b hjb v w h;first|(cases hjb;done)|(cases hjb;exact h),?_⟩
   intro a wv hE hF hD K hK
   have u40:a.eval (.tmp 40) = .pointer (some ⟨D4,0,none⟩):=hD 16 (by kernel_rfl)
   exact gs_valZ rfl (yr_loadZ rfl u40 (lo_int D4 0 _ wv ((hE.cells _ _ hD4).trans k0))) (hK _ _ rfl (Ext.refl _))
  ·refine .inl ⟨by intro j b hjb v w h;first|(cases hjb;done)|(cases hjb;exact h),?_⟩
   intro a wv hE hF hD K hK
   have u41:a.eval (.tmp 41) = .int .i64 9:=hD 17 (by kernel_rfl)
   exact gs_valZ rfl (yr_eqiZ rfl u41 rfl (by decide)) (hK _ _ rfl (Ext.refl _))
  ·refine .inl ⟨by intro j b hjb v w h;first|(cases hjb;done)|(cases hjb;exact h),?_⟩
   intro a wv hE hF hD K hK
   have u39:a.eval (.tmp 39) = .bool true:=hD 15 (by kernel_rfl)
   have u42:a.eval (.tmp 42) = .bool true:=hD 18 (by kernel_rfl)
   exact gs_valZ rfl (yr_pickZ (b:=true) rfl u39 u42) (hK _ _ rfl (Ext.refl _))
  ·refine .inl ⟨by intro j b hjb v w h;first|(cases hjb;done)|(cases hjb;exact h),?_⟩
   intro a wv hE hF hD K hK
   have u43:a.eval (.tmp 43) = .bool true:=hD 19 (by kernel_rfl)
   exact gs_valZ rfl (yr_moveZ rfl u43) (hK _ _ rfl (Ext.refl _))
  ·refine .inl ⟨by intro j b hjb v w h;first|(cases hjb;done)|(cases hjb;exact h),?_⟩
   intro a wv hE hF hD K hK
   exact gs_valZ rfl (yr_fieldZ rfl ((hF 4 (fr_ofZ rfl)).trans rfl) (fa_qa8 D4 wv)) (hK _ _ rfl (Ext.refl _))
  ·refine .inl ⟨by intro j b hjb v w h;first|(cases hjb;done)|(cases hjb;exact h),?_⟩
   intro a wv hE hF hD K hK
   have u45:a.eval (.tmp 45) = .pointer (some ⟨D4,15,none⟩):=hD 21 (by kernel_rfl)
   exact gs_valZ rfl (yr_loadZ rfl u45 (lo_slq D4 15 _ wv ((hE.cells _ _ hD4).trans k15))) (hK _ _ rfl (Ext.refl _))
  ·refine .inl ⟨by intro j b hjb v w h;first|(cases hjb;done)|(cases hjb;exact h),?_⟩
   intro a wv hE hF hD K hK
   have u46:a.eval (.tmp 46) = .slice (some ⟨R,off,none⟩) 1 cap:=hD 22 (by kernel_rfl)
   exact gs_valZ rfl (yr_lenQ rfl rfl u46) (hK _ _ rfl (Ext.refl _))
  ·refine .inl ⟨by intro j b hjb v w h;first|(cases hjb;done)|(cases hjb;exact h),?_⟩
   intro a wv hE hF hD K hK
   have u47:a.eval (.tmp 47) = .int .i64 1:=hD 23 (by kernel_rfl)
   exact gs_valZ rfl (yr_eqiZ rfl u47 rfl (by decide)) (hK _ _ rfl (Ext.refl _))
  ·refine .inl ⟨by intro j b hjb v w h;first|(cases hjb;done)|(cases hjb;exact h),?_⟩
   intro a wv hE hF hD K hK
   have u44:a.eval (.tmp 44) = .bool true:=hD 20 (by kernel_rfl)
   have u48:a.eval (.tmp 48) = .bool true:=hD 24 (by kernel_rfl)
   exact gs_valZ rfl (yr_pickZ (b:=true) rfl u44 u48) (hK _ _ rfl (Ext.refl _))
  ·refine .inl ⟨by intro j b hjb v w h;first|(cases hjb;done)|(cases hjb;exact h),?_⟩
   intro a wv hE hF hD K hK
   have u49:a.eval (.tmp 49) = .bool true:=hD 25 (by kernel_rfl)
   exact gs_valZ rfl (yr_moveZ rfl u49) (hK _ _ rfl (Ext.refl _))
  ·refine .inl ⟨by intro j b hjb v w h;first|(cases hjb;done)|(cases hjb;exact h),?_⟩
   intro a wv hE hF hD K hK
   exact gs_valZ rfl (yr_fieldZ rfl ((hF 4 (fr_ofZ rfl)).trans rfl) (fa_qa8 D4 wv)) (hK _ _ rfl (Ext.refl _))
  ·refine .inl ⟨by intro j b hjb v w h;first|(cases hjb;done)|(cases hjb;exact h),?_⟩
   intro a wv hE hF hD K hK
   have u51:a.eval (.tmp 51) = .pointer (some ⟨D4,15,none⟩):=hD 27 (by kernel_rfl)
   exact gs_valZ rfl (yr_loadZ rfl u51 (lo_slq D4 15 _ wv ((hE.cells _ _ hD4).trans k15))) (hK _ _ rfl (Ext.refl _))
  ·refine .inl ⟨by intro j b hjb v w h;first|(cases hjb;done)|(cases hjb;exact h),?_⟩
   intro a wv hE hF hD K hK
   have u52:a.eval (.tmp 52) = .slice (some ⟨R,off,none⟩) 1 cap:=hD 28 (by kernel_rfl)
   exact gs_valZ rfl (yr_idxO rfl u52 rfl (ix_q0 R off cap wv)) (hK _ _ rfl (Ext.refl _))
  ·refine .inl ⟨by intro j b hjb v w h;first|(cases hjb;done)|(cases hjb;exact h),?_⟩
   intro a wv hE hF hD K hK
   have u53:a.eval (.tmp 53) = .pointer (some ⟨R,off,none⟩):=hD 29 (by kernel_rfl)
   exact gs_valZ rfl (yr_loadZ rfl u53 (lo_qry R off tb wv (fun j v hv=>(hE.cells _ _ hR).trans (hcb j v hv)))) (hK _ _ rfl (Ext.refl _))
  ·refine .inl ⟨by intro j b hjb v w h;first|(cases hjb;done)|(cases hjb;exact h),?_⟩
   intro a wv hE hF hD K hK
   exact gs_callZ rfl (yr_callZ rfl rfl (show(#[Operand.const (.string ⟨#[116]⟩)]:Array Operand).map a.eval = #[.string ⟨#[116]⟩] by simp only[List.map_toArray,List.map_cons,List.map_nil]<;>rfl) (by kernel_rfl)) (scan_aw wv) (fun e w' h=>.inl ⟨_,h.1,hK _ _ rfl h.2⟩)
  ·refine .inl ⟨by intro j b hjb v w h;first|(cases hjb;done)|(cases hjb;exact h),?_⟩
   intro a wv hE hF hD K hK
   have u54:a.eval (.tmp 54) = .agg (qnS.vals tb).toArray:=hD 30 (by kernel_rfl)
   have u55:a.eval (.tmp 55) = .agg (qnS.vals awSc).toArray:=hD 31 (by kernel_rfl)
   exact gs_callZ rfl (yr_callZ rfl rfl (show(#[Operand.tmp 54,Operand.tmp 55]:Array Operand).map a.eval = #[.agg (qnS.vals tb).toArray,.agg (qnS.vals awSc).toArray] by simp only[List.map_toArray,List.map_cons,List.map_nil,u54,u55]<;>rfl) (by kernel_rfl)) (HEq.out wv hE) (fun e w' h=>.inl ⟨_,h.1,hK _ _ rfl h.2⟩)
  ·refine .inl ⟨by intro j b hjb v w h;first|(cases hjb;done)|(cases hjb;exact h),?_⟩
   intro a wv hE hF hD K hK
   have u50:a.eval (.tmp 50) = .bool true:=hD 26 (by kernel_rfl)
   have u56:a.eval (.tmp 56) = .bool true:=hD 32 (by kernel_rfl)
   exact gs_valZ rfl (yr_pickZ (b:=true) rfl u50 u56) (hK _ _ rfl (Ext.refl _))
  ·refine .inl ⟨by intro j b hjb v w h;first|(cases hjb;done)|(cases hjb;exact h),?_⟩
   intro a wv hE hF hD K hK
   have u57:a.eval (.tmp 57) = .bool true:=hD 33 (by kernel_rfl)
   exact gs_valZ rfl (yr_assignZ rfl u57) (hK _ _ rfl (Ext.refl _))
 intro vals w9 hE9 hR9
 obtain⟨-,-,-,-,-,-,-,-,-,-,-,-,-,-,-,-,-,-,-,-,-,-,-,-,-,-,-,-,-,-,-,-,-,-,h2,-⟩:=hR9
 have e2:vals 34 = .bool true:=h2
 refine wpAny_done (by kernel_rfl) ?_ _
 simp only[putF,Act.put,List.length_cons,List.length_nil,List.getD_cons_zero,List.getD_cons_succ,List.setIfInBounds_toArray,List.set_cons_zero,List.set_cons_succ,Nat.reduceAdd,e2]
 clear e2 h2
 go_wp2_with fail
 go_ret
 exact⟨rfl,HE8.out.trans hE9⟩
end Go.Proofs.YtlmeinikknoeeaaGreatDoor
