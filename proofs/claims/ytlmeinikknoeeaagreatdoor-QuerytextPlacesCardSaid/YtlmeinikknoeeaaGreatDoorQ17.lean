/- Queries: the walk of value.formed: a comparison. -/
import Derived.Test.YtlmeinikknoeeaaGreatDoorQ08
import Derived.Test.YtlmeinikknoeeaaGreatDoorQ15
import Derived.Test.YtlmeinikknoeeaaGreatDoorQ16
import Derived.Test.YtlmeinikknoeeaaGreatDoorQ06
namespace Go.Proofs.YtlmeinikknoeeaaGreatDoor
set_option linter.unusedVariables false
set_option linter.unnecessarySimpa false
set_option linter.unusedSimpArgs false
open Go.RowKit
theorem fa_c1 (B:Nat) (w:World):(Instr.fieldAt 27 (.pointer (some ⟨B,0,none⟩)) 1).run Tryz.prog w = .ok (.pointer (some ⟨B,1,none⟩)) w:=by go_simp
theorem fa_c2 (B:Nat) (w:World):(Instr.fieldAt 27 (.pointer (some ⟨B,0,none⟩)) 2).run Tryz.prog w = .ok (.pointer (some ⟨B,2,none⟩)) w:=by go_simp
theorem fa_c3 (B:Nat) (w:World):(Instr.fieldAt 27 (.pointer (some ⟨B,0,none⟩)) 3).run Tryz.prog w = .ok (.pointer (some ⟨B,3,none⟩)) w:=by go_simp
theorem lo_str (D o:Nat) (v:Value) (w:World) (h:w.cell? ⟨D,o,none⟩=some v):(Instr.loadAt 9 (.pointer (some ⟨D,o,none⟩))).run Tryz.prog w = .ok v w:=by simp[go_sem,h]
theorem lo_val (D o:Nat) (k n:Int) (s:List UInt8) (w:World) (h0:w.cell? ⟨D,o,none⟩=some (.int .i64 k)) (h1:w.cell? ⟨D,o+1,none⟩=some (.int .i64 n)) (h2:w.cell? ⟨D,o+2,none⟩=some (.string ⟨s.toArray⟩)) :
  (Instr.loadAt 24 (.pointer (some ⟨D,o,none⟩))).run Tryz.prog w = .ok (.agg #[.int .i64 k,.int .i64 n,.string ⟨s.toArray⟩]) w:=by
 refine run_loadAt_mid w D o 24 [.int .i64 k,.int .i64 n,.string ⟨s.toArray⟩] _ (fun j v hv=>?_) Tryz.underlying24 rfl (by kernel_rfl)
 match j,hv with
 | 0,hv=>injection hv with hv;rw[←hv];exact h0
 | 1,hv=>injection hv with hv;rw[←hv];exact h1
 | 2,hv=>injection hv with hv;rw[←hv];exact h2
theorem yr_eqsO {o:Oper} {a:Act} {w:World} {x y:Operand} {t2:TypeId} {A:List UInt8} {b:Bool} (hop:o.op = .binOp .eql 9 x y t2) (hx:a.eval x = .string ⟨A.toArray⟩) (hy:a.eval y = .string ⟨#[]⟩) (hb:(A == [])=b):(execOp a.eval o).run Tryz.prog w = .ok (.value (.bool b)) w:=by
 unfold execOp
 simp only[hop,hx,hy]
 simp[Result.andThen,go_sem,eqGuard]
 rw[←hb]
 cases A<;>rfl
theorem yr_nesO {o:Oper} {a:Act} {w:World} {x y:Operand} {t2:TypeId} {A:List UInt8} {b:Bool} (hop:o.op = .binOp .neq 9 x y t2) (hx:a.eval x = .string ⟨A.toArray⟩) (hy:a.eval y = .string ⟨#[]⟩) (hb:(A != [])=b):(execOp a.eval o).run Tryz.prog w = .ok (.value (.bool b)) w:=by
 unfold execOp
 simp only[hop,hx,hy]
 simp[Result.andThen,go_sem,eqGuard]
 rw[←hb]
 cases A<;>rfl
theorem yr_nebO {o:Oper} {a:Act} {w:World} {x y:Operand} {t2:TypeId} {A B b:Bool} (hop:o.op = .binOp .neq 4 x y t2) (hx:a.eval x = .bool A) (hy:a.eval y = .bool B) (hb:(A != B)=b):(execOp a.eval o).run Tryz.prog w = .ok (.value (.bool b)) w:=by
 unfold execOp
 simp only[hop,hx,hy]
 simp[Result.andThen,go_sem,eqGuard]
 rw[←hb]
 cases A<;>cases B<;>rfl
theorem yr_nevO {o:Oper} {a:Act} {w:World} {x y:Operand} {t2:TypeId} {k n:Int} {s:List UInt8} {b:Bool} (hop:o.op = .binOp .neq 24 x y t2) (hx:a.eval x = .agg #[.int .i64 k,.int .i64 n,.string ⟨s.toArray⟩]) (hy:a.eval y = .agg #[.int .i64 0,.int .i64 0,.string ⟨#[]⟩]) (hb:(!decide (k=0∧n=0∧s = []))=b):(execOp a.eval o).run Tryz.prog w = .ok (.value (.bool b)) w:=by
 unfold execOp
 simp only[hop,hx,hy]
 simp[Result.andThen,go_sem,eqGuard]
 rw[←hb]
 by_cases h1:k=0
 ·by_cases h2:n=0
  ·by_cases h3:s = []
   ·simp[h1,h2,h3]
   ·simp[h1,h2,h3]
  ·simp[h1,h2]
 ·simp[h1]
def bv {a b:Bool} (_:a=b):Bool:=b
set_option maxRecDepth 100000 in
set_option maxHeartbeats 40000000 in
theorem vf_w {ob vb nz:Bool} {o:Option Nat} {k:Int} {col oth:List UInt8} {vk vn:Int} {vs:List UInt8} {ao:Option Addr} {cap:Nat} {l:List Cnd} (d n N:Nat) (w:World) (hk:k=1∨k=2) (hn:n<60) (hd:d≤12) (hN:BxT N [.int .i64 (n:Int)] w) (hs:Bs vs) (hc:((col == [])=true∧(oth == [])=ob∧vlQ ⟨vk,vn,vs⟩=vb∧(!decide (vk=0∧vn=0∧vs = []))=nz∧o=none)∨((col == [])=false∧(oth == [])=true∧vlQ ⟨vk,vn,vs⟩=false∧(!decide (vk=0∧vn=0∧vs = []))=nz∧o=none)∨((col == [])=false∧(oth == [])=false∧vlQ ⟨vk,vn,vs⟩=true∧(!decide (vk=0∧vn=0∧vs = []))=nz∧o=none)∨((col == [])=false∧(oth == [])=false∧vlQ ⟨vk,vn,vs⟩=false∧(!decide (vk=0∧vn=0∧vs = []))=true∧o=none)∨((col == [])=false∧(oth == [])=true∧vlQ ⟨vk,vn,vs⟩=true∧(!decide (vk=0∧vn=0∧vs = []))=nz∧((l.length:Int) != 0)=true∧o=none)∨((col == [])=false∧(oth == [])=false∧vlQ ⟨vk,vn,vs⟩=false∧(!decide (vk=0∧vn=0∧vs = []))=false∧((l.length:Int) != 0)=true∧o=none)∨((col == [])=false∧(oth == [])=true∧vlQ ⟨vk,vn,vs⟩=true∧(!decide (vk=0∧vn=0∧vs = []))=nz∧l = []∧o=some (n+1))∨((col == [])=false∧(oth == [])=false∧vlQ ⟨vk,vn,vs⟩=false∧(!decide (vk=0∧vn=0∧vs = []))=false∧l = []∧o=some (n+1))) :
  Calls Tryz.prog 164 #[.agg (cdS.vals (.mk ⟨⟨k,col,oth,vk,vn,vs⟩,ao,cap⟩ l)).toArray,.int .i64 (d:Int),.pointer (some ⟨N,0,none⟩)] w (FmV N w o):=by
 obtain⟨h1,h2,h3,h4,hF⟩:=fo_start ⟨⟨k,col,oth,vk,vn,vs⟩,ao,cap⟩ l N n w hN
 have hM:=Lib.hid (fo_mid ⟨⟨k,col,oth,vk,vn,vs⟩,ao,cap⟩ l N n w hN)
 have n0:=h1.at 0 _ rfl
 have nf:=h1.fz 0 (by simp)
 have nl:=h1.hD
 have n1:=h3.at 0 _ rfl
 have c0:((w.alloc (.cells (cdS.vals (.mk ⟨⟨k,col,oth,vk,vn,vs⟩,ao,cap⟩ l)).toArray 27)).setCell ⟨N,0,none⟩ (.int .i64 ((n:Int)+1))).cell? ⟨w.heap.size,0,none⟩=some (.int .i64 k):=h4.at 0 _ rfl
 clear h1 h2 h3 h4 hN hF
 have e1:decide ((60:Int)<(n:Int)+1)=false:=by rw[decide_eq_false_iff_not];omega
 have e2:decide ((12:Int)<(d:Int))=false:=by rw[decide_eq_false_iff_not];omega
 have Hs:=Lib.hid hs
 clear hs
 rcases hc with⟨hcb,hob,hv,hnz,rfl⟩|⟨hcb,hob,hv,hnz,rfl⟩|⟨hcb,hob,hv,hnz,rfl⟩|⟨hcb,hob,hv,hnz,rfl⟩|⟨hcb,hob,hv,hnz,hl,rfl⟩|⟨hcb,hob,hv,hnz,hl,rfl⟩|⟨hcb,hob,hv,hnz,hl,rfl⟩|⟨hcb,hob,hv,hnz,hl,rfl⟩
 all_goals rcases hk with rfl|rfl
 all_goals
  try (have HL:=Lib.hid hl;clear hl)
  go_enter Tryz.func164,Tryz.ntmps164
  go_wp2_with fail
  obtain⟨m1,m2,m3,m4,m5⟩:=hM.out
  clear n0 nf nl n1 c0 hM
  unfold foW at m1 m2 m3 m4
  generalize ((w.alloc (.cells (cdS.vals (.mk ⟨⟨_,col,oth,vk,vn,vs⟩,ao,cap⟩ l)).toArray 27)).setCell ⟨N,0,none⟩ (.int .i64 ((n:Int)+1))).alloc (.cells #[.int .i64 0,.int .i64 0,.string ⟨#[]⟩] 24)=W2 at m1 m2 m3 m4 ⊢
  have c1:W2.cell? ⟨w.heap.size,1,none⟩=some (.string ⟨col.toArray⟩):=m1.at 1 _ rfl
  have c2:W2.cell? ⟨w.heap.size,2,none⟩=some (.string ⟨oth.toArray⟩):=m1.at 2 _ rfl
  have c3:W2.cell? ⟨w.heap.size,3,none⟩=some (.int .i64 vk):=m1.at 3 _ rfl
  have c4:W2.cell? ⟨w.heap.size,4,none⟩=some (.int .i64 vn):=m1.at 4 _ rfl
  have c5:W2.cell? ⟨w.heap.size,5,none⟩=some (.string ⟨vs.toArray⟩):=m1.at 5 _ rfl
  have z0:=m2.at 0 _ rfl
  have z1:=m2.at 1 _ rfl
  have z2:=m2.at 2 _ rfl
  have hbx:=m1.hD
  have hzx:=m2.hD
  have hnb:(oth != []) = !bv hob:=by show(!(oth == []))=_;exact congrArg not hob
  refine wp_region_growK [30,31,32,33,34,35,36,37,38,39,40,41,42,43,44,45,46,47,48,49,50,51,52] [fun x _=>x=(.pointer (some ⟨w.heap.size,1,none⟩)),fun x _=>x=(.string ⟨col.toArray⟩),fun x _=>x=(.bool (bv hcb)),fun x _=>x=(.bool (bv hcb)),fun x _=>x=(bif bv hcb then undef else .pointer (some ⟨w.heap.size,2,none⟩)),fun x _=>x=(bif bv hcb then undef else .string ⟨oth.toArray⟩),fun x _=>x=(bif bv hcb then undef else .bool (bv hob)),fun x _=>x=(bif bv hcb then undef else .pointer (some ⟨w.heap.size,3,none⟩)),fun x _=>x=(bif bv hcb then undef else .agg #[.int .i64 vk,.int .i64 vn,.string ⟨vs.toArray⟩]),fun x _=>x=(bif bv hcb then undef else .bool (bv hv)),fun x _=>x=(bif bv hcb then undef else .bool (bv hob != bv hv)),fun x _=>x=(.bool (bv hcb||(bv hob != bv hv))),fun x _=>x=(.bool (bv hcb||(bv hob != bv hv))),fun x _=>x=(bif (bv hcb||(bv hob != bv hv))then undef else .pointer (some ⟨w.heap.size,2,none⟩)),fun x _=>x=(bif (bv hcb||(bv hob != bv hv))then undef else .string ⟨oth.toArray⟩),fun x _=>x=(bif (bv hcb||(bv hob != bv hv))then undef else .bool (!bv hob)),fun x _=>x=(bif (bv hcb||(bv hob != bv hv))then undef else .bool (!bv hob)),fun x _=>x=(bif (bv hcb||(bv hob != bv hv))||bv hob then undef else .pointer (some ⟨w.heap.size,3,none⟩)),fun x _=>x=(bif (bv hcb||(bv hob != bv hv))||bv hob then undef else .agg #[.int .i64 vk,.int .i64 vn,.string ⟨vs.toArray⟩]),fun x _=>x=(bif (bv hcb||(bv hob != bv hv))||bv hob then undef else .agg #[.int .i64 0,.int .i64 0,.string ⟨#[]⟩]),fun x _=>x=(bif (bv hcb||(bv hob != bv hv))||bv hob then undef else .bool (bv hnz)),fun x _=>x=(bif (bv hcb||(bv hob != bv hv))then undef else .bool ((!bv hob)&&bv hnz)),fun x _=>x=(.bool ((bv hcb||(bv hob != bv hv))||((!bv hob)&&bv hnz)))] 0 (by kernel_rfl) (by kernel_rfl) (by kernel_rfl) (by kernel_rfl) ?_ ?_ ?_
  ·intro Rl hRl
   simp only[List.mem_cons,List.not_mem_nil,or_false]at hRl
   rcases hRl with rfl|rfl|rfl|rfl|rfl|rfl|rfl|rfl|rfl|rfl|rfl|rfl|rfl|rfl|rfl|rfl|rfl|rfl|rfl|rfl|rfl|rfl|rfl
   all_goals exact fun _ _ _ h _=>h
  ·refine⟨?_,?_,?_,?_,?_,?_,?_,?_,?_,?_,?_,?_,?_,?_,?_,?_,?_,?_,?_,?_,?_,?_,?_,trivial⟩
   ·first|exact .inr ⟨_,_,rfl,fun v w h=>by first|exact .inl h|exact .inr h,fun w=>rfl⟩|(refine .inl ⟨by intro j b hjb v w h;first|(cases hjb;done)|(cases hjb;exact h),?_⟩;intro a wv hE hF hD K hK;exact gs_valZ rfl (yr_fieldZ rfl ((hF 3 (fr_ofZ rfl)).trans rfl) (fa_c1 w.heap.size wv)) (hK _ _ rfl (Ext.refl _)))
   ·first|exact .inr ⟨_,_,rfl,fun v w h=>by first|exact .inl h|exact .inr h,fun w=>rfl⟩|(refine .inl ⟨by intro j b hjb v w h;first|(cases hjb;done)|(cases hjb;exact h),?_⟩;intro a wv hE hF hD K hK;have u30:a.eval (.tmp 30) = .pointer (some ⟨w.heap.size,1,none⟩):=hD 0 (by kernel_rfl);exact gs_valZ rfl (yr_loadZ rfl u30 (lo_str w.heap.size _ _ wv ((hE.cells _ _ hbx).trans c1))) (hK _ _ rfl (Ext.refl _)))
   ·first|exact .inr ⟨_,_,rfl,fun v w h=>by first|exact .inl h|exact .inr h,fun w=>rfl⟩|(refine .inl ⟨by intro j b hjb v w h;first|(cases hjb;done)|(cases hjb;exact h),?_⟩;intro a wv hE hF hD K hK;have u31:a.eval (.tmp 31) = .string ⟨col.toArray⟩:=hD 1 (by kernel_rfl);exact gs_valZ rfl (yr_eqsO rfl u31 rfl hcb) (hK _ _ rfl (Ext.refl _)))
   ·first|exact .inr ⟨_,_,rfl,fun v w h=>by first|exact .inl h|exact .inr h,fun w=>rfl⟩|(refine .inl ⟨by intro j b hjb v w h;first|(cases hjb;done)|(cases hjb;exact h),?_⟩;intro a wv hE hF hD K hK;have u32:a.eval (.tmp 32) = .bool (bv hcb):=hD 2 (by kernel_rfl);exact gs_valZ rfl (yr_moveZ rfl u32) (hK _ _ rfl (Ext.refl _)))
   ·first|exact .inr ⟨_,_,rfl,fun v w h=>by first|exact .inl h|exact .inr h,fun w=>rfl⟩|(refine .inl ⟨by intro j b hjb v w h;first|(cases hjb;done)|(cases hjb;exact h),?_⟩;intro a wv hE hF hD K hK;exact gs_valZ rfl (yr_fieldZ rfl ((hF 3 (fr_ofZ rfl)).trans rfl) (fa_c2 w.heap.size wv)) (hK _ _ rfl (Ext.refl _)))
   ·first|exact .inr ⟨_,_,rfl,fun v w h=>by first|exact .inl h|exact .inr h,fun w=>rfl⟩|(refine .inl ⟨by intro j b hjb v w h;first|(cases hjb;done)|(cases hjb;exact h),?_⟩;intro a wv hE hF hD K hK;have u34:a.eval (.tmp 34) = .pointer (some ⟨w.heap.size,2,none⟩):=hD 4 (by kernel_rfl);exact gs_valZ rfl (yr_loadZ rfl u34 (lo_str w.heap.size _ _ wv ((hE.cells _ _ hbx).trans c2))) (hK _ _ rfl (Ext.refl _)))
   ·first|exact .inr ⟨_,_,rfl,fun v w h=>by first|exact .inl h|exact .inr h,fun w=>rfl⟩|(refine .inl ⟨by intro j b hjb v w h;first|(cases hjb;done)|(cases hjb;exact h),?_⟩;intro a wv hE hF hD K hK;have u35:a.eval (.tmp 35) = .string ⟨oth.toArray⟩:=hD 5 (by kernel_rfl);exact gs_valZ rfl (yr_eqsO rfl u35 rfl hob) (hK _ _ rfl (Ext.refl _)))
   ·first|exact .inr ⟨_,_,rfl,fun v w h=>by first|exact .inl h|exact .inr h,fun w=>rfl⟩|(refine .inl ⟨by intro j b hjb v w h;first|(cases hjb;done)|(cases hjb;exact h),?_⟩;intro a wv hE hF hD K hK;exact gs_valZ rfl (yr_fieldZ rfl ((hF 3 (fr_ofZ rfl)).trans rfl) (fa_c3 w.heap.size wv)) (hK _ _ rfl (Ext.refl _)))
   ·first|exact .inr ⟨_,_,rfl,fun v w h=>by first|exact .inl h|exact .inr h,fun w=>rfl⟩|(refine .inl ⟨by intro j b hjb v w h;first|(cases hjb;done)|(cases hjb;exact h),?_⟩;intro a wv hE hF hD K hK;have u37:a.eval (.tmp 37) = .pointer (some ⟨w.heap.size,3,none⟩):=hD 7 (by kernel_rfl);exact gs_valZ rfl (yr_loadZ rfl u37 (lo_val w.heap.size 3 vk vn vs wv ((hE.cells _ _ hbx).trans c3) ((hE.cells _ _ hbx).trans c4) ((hE.cells _ _ hbx).trans c5))) (hK _ _ rfl (Ext.refl _)))
   ·first|exact .inr ⟨_,_,rfl,fun v w h=>by first|exact .inl h|exact .inr h,fun w=>rfl⟩|(refine .inl ⟨by intro j b hjb v w h;first|(cases hjb;done)|(cases hjb;exact h),?_⟩;intro a wv hE hF hD K hK;have u38:a.eval (.tmp 38) = .agg #[.int .i64 vk,.int .i64 vn,.string ⟨vs.toArray⟩]:=hD 8 (by kernel_rfl);have q0:a.eval (.tmp 38) = .agg #[.int .i64 vk,.int .i64 vn,.string ⟨vs.toArray⟩]:=u38;exact gs_callZ rfl (yr_callZ rfl rfl (show(#[Operand.tmp 38]:Array Operand).map a.eval = #[.agg #[.int .i64 vk,.int .i64 vn,.string ⟨vs.toArray⟩]] by simp only[List.map_toArray,List.map_cons,List.map_nil,q0]<;>rfl) (by kernel_rfl)) (vvalid_c vk vn vs _ wv Hs.out hv) (fun e w' h=>.inl ⟨_,h.1,hK _ _ rfl h.2⟩))
   ·first|exact .inr ⟨_,_,rfl,fun v w h=>by first|exact .inl h|exact .inr h,fun w=>rfl⟩|(refine .inl ⟨by intro j b hjb v w h;first|(cases hjb;done)|(cases hjb;exact h),?_⟩;intro a wv hE hF hD K hK;have u36:a.eval (.tmp 36) = .bool (bv hob):=hD 6 (by kernel_rfl);have u39:a.eval (.tmp 39) = .bool (bv hv):=hD 9 (by kernel_rfl);exact gs_valZ rfl (yr_nebO rfl u36 u39 rfl) (hK _ _ rfl (Ext.refl _)))
   ·first|exact .inr ⟨_,_,rfl,fun v w h=>by first|exact .inl h|exact .inr h,fun w=>rfl⟩|(refine .inl ⟨by intro j b hjb v w h;first|(cases hjb;done)|(cases hjb;exact h),?_⟩;intro a wv hE hF hD K hK;first|(have u33:a.eval (.tmp 33) = .bool true:=hD 3 (by kernel_rfl);exact gs_valZ rfl (yr_pickZ (b:=true) rfl u33 rfl) (hK _ _ rfl (Ext.refl _)))|(have u33:a.eval (.tmp 33) = .bool false:=hD 3 (by kernel_rfl);have u40:a.eval (.tmp 40) = .bool (bv hob != bv hv):=hD 10 (by kernel_rfl);exact gs_valZ rfl (yr_pickZ (b:=false) rfl u33 u40) (hK _ _ rfl (Ext.refl _))))
   ·first|exact .inr ⟨_,_,rfl,fun v w h=>by first|exact .inl h|exact .inr h,fun w=>rfl⟩|(refine .inl ⟨by intro j b hjb v w h;first|(cases hjb;done)|(cases hjb;exact h),?_⟩;intro a wv hE hF hD K hK;have u41:a.eval (.tmp 41) = .bool (bv hcb||(bv hob != bv hv)):=hD 11 (by kernel_rfl);exact gs_valZ rfl (yr_moveZ rfl u41) (hK _ _ rfl (Ext.refl _)))
   ·first|exact .inr ⟨_,_,rfl,fun v w h=>by first|exact .inl h|exact .inr h,fun w=>rfl⟩|(refine .inl ⟨by intro j b hjb v w h;first|(cases hjb;done)|(cases hjb;exact h),?_⟩;intro a wv hE hF hD K hK;exact gs_valZ rfl (yr_fieldZ rfl ((hF 3 (fr_ofZ rfl)).trans rfl) (fa_c2 w.heap.size wv)) (hK _ _ rfl (Ext.refl _)))
   ·first|exact .inr ⟨_,_,rfl,fun v w h=>by first|exact .inl h|exact .inr h,fun w=>rfl⟩|(refine .inl ⟨by intro j b hjb v w h;first|(cases hjb;done)|(cases hjb;exact h),?_⟩;intro a wv hE hF hD K hK;have u43:a.eval (.tmp 43) = .pointer (some ⟨w.heap.size,2,none⟩):=hD 13 (by kernel_rfl);exact gs_valZ rfl (yr_loadZ rfl u43 (lo_str w.heap.size _ _ wv ((hE.cells _ _ hbx).trans c2))) (hK _ _ rfl (Ext.refl _)))
   ·first|exact .inr ⟨_,_,rfl,fun v w h=>by first|exact .inl h|exact .inr h,fun w=>rfl⟩|(refine .inl ⟨by intro j b hjb v w h;first|(cases hjb;done)|(cases hjb;exact h),?_⟩;intro a wv hE hF hD K hK;have u44:a.eval (.tmp 44) = .string ⟨oth.toArray⟩:=hD 14 (by kernel_rfl);exact gs_valZ rfl (yr_nesO rfl u44 rfl hnb) (hK _ _ rfl (Ext.refl _)))
   ·first|exact .inr ⟨_,_,rfl,fun v w h=>by first|exact .inl h|exact .inr h,fun w=>rfl⟩|(refine .inl ⟨by intro j b hjb v w h;first|(cases hjb;done)|(cases hjb;exact h),?_⟩;intro a wv hE hF hD K hK;have u45:a.eval (.tmp 45) = .bool (!bv hob):=hD 15 (by kernel_rfl);exact gs_valZ rfl (yr_moveZ rfl u45) (hK _ _ rfl (Ext.refl _)))
   ·first|exact .inr ⟨_,_,rfl,fun v w h=>by first|exact .inl h|exact .inr h,fun w=>rfl⟩|(refine .inl ⟨by intro j b hjb v w h;first|(cases hjb;done)|(cases hjb;exact h),?_⟩;intro a wv hE hF hD K hK;exact gs_valZ rfl (yr_fieldZ rfl ((hF 3 (fr_ofZ rfl)).trans rfl) (fa_c3 w.heap.size wv)) (hK _ _ rfl (Ext.refl _)))
   ·first|exact .inr ⟨_,_,rfl,fun v w h=>by first|exact .inl h|exact .inr h,fun w=>rfl⟩|(refine .inl ⟨by intro j b hjb v w h;first|(cases hjb;done)|(cases hjb;exact h),?_⟩;intro a wv hE hF hD K hK;have u47:a.eval (.tmp 47) = .pointer (some ⟨w.heap.size,3,none⟩):=hD 17 (by kernel_rfl);exact gs_valZ rfl (yr_loadZ rfl u47 (lo_val w.heap.size 3 vk vn vs wv ((hE.cells _ _ hbx).trans c3) ((hE.cells _ _ hbx).trans c4) ((hE.cells _ _ hbx).trans c5))) (hK _ _ rfl (Ext.refl _)))
   ·first|exact .inr ⟨_,_,rfl,fun v w h=>by first|exact .inl h|exact .inr h,fun w=>rfl⟩|(refine .inl ⟨by intro j b hjb v w h;first|(cases hjb;done)|(cases hjb;exact h),?_⟩;intro a wv hE hF hD K hK;exact gs_valZ rfl (yr_loadZ rfl ((hF 7 (fr_ofZ rfl)).trans rfl) (lo_val (w.heap.size+1) 0 0 0 [] wv ((hE.cells _ _ hzx).trans z0) ((hE.cells _ _ hzx).trans z1) ((hE.cells _ _ hzx).trans z2))) (hK _ _ rfl (Ext.refl _)))
   ·first|exact .inr ⟨_,_,rfl,fun v w h=>by first|exact .inl h|exact .inr h,fun w=>rfl⟩|(refine .inl ⟨by intro j b hjb v w h;first|(cases hjb;done)|(cases hjb;exact h),?_⟩;intro a wv hE hF hD K hK;have u48:a.eval (.tmp 48) = .agg #[.int .i64 vk,.int .i64 vn,.string ⟨vs.toArray⟩]:=hD 18 (by kernel_rfl);have u49:a.eval (.tmp 49) = .agg #[.int .i64 0,.int .i64 0,.string ⟨#[]⟩]:=hD 19 (by kernel_rfl);exact gs_valZ rfl (yr_nevO rfl u48 u49 hnz) (hK _ _ rfl (Ext.refl _)))
   ·first|exact .inr ⟨_,_,rfl,fun v w h=>by first|exact .inl h|exact .inr h,fun w=>rfl⟩|(refine .inl ⟨by intro j b hjb v w h;first|(cases hjb;done)|(cases hjb;exact h),?_⟩;intro a wv hE hF hD K hK;first|(have u46:a.eval (.tmp 46) = .bool true:=hD 16 (by kernel_rfl);have u50:a.eval (.tmp 50) = .bool (bv hnz):=hD 20 (by kernel_rfl);exact gs_valZ rfl (yr_pickZ (b:=true) rfl u46 u50) (hK _ _ rfl (Ext.refl _)))|(have u46:a.eval (.tmp 46) = .bool false:=hD 16 (by kernel_rfl);exact gs_valZ rfl (yr_pickZ (b:=false) rfl u46 rfl) (hK _ _ rfl (Ext.refl _))))
   ·first|exact .inr ⟨_,_,rfl,fun v w h=>by first|exact .inl h|exact .inr h,fun w=>rfl⟩|(refine .inl ⟨by intro j b hjb v w h;first|(cases hjb;done)|(cases hjb;exact h),?_⟩;intro a wv hE hF hD K hK;first|(have u42:a.eval (.tmp 42) = .bool true:=hD 12 (by kernel_rfl);exact gs_valZ rfl (yr_pickZ (b:=true) rfl u42 rfl) (hK _ _ rfl (Ext.refl _)))|(have u42:a.eval (.tmp 42) = .bool false:=hD 12 (by kernel_rfl);have u51:a.eval (.tmp 51) = .bool ((!bv hob)&&bv hnz):=hD 21 (by kernel_rfl);exact gs_valZ rfl (yr_pickZ (b:=false) rfl u42 u51) (hK _ _ rfl (Ext.refl _))))
  intro vals w2 hE2 hR2
  obtain⟨-,-,-,-,-,-,-,-,-,-,-,-,-,-,-,-,-,-,-,-,-,-,h52,-⟩:=hR2
  have e52:vals 22 = .bool ((bv hcb||(bv hob != bv hv))||((!bv hob)&&bv hnz)):=h52
  refine wpAny_done (by kernel_rfl) ?_ _
  simp only[putF,Act.put,List.length_cons,List.length_nil,List.getD_cons_zero,List.getD_cons_succ,List.setIfInBounds_toArray,List.set_cons_zero,List.set_cons_succ,Nat.reduceAdd,e52,bv,Bool.true_or,Bool.false_or,Bool.or_true,Bool.or_false,Bool.not_true,Bool.not_false,Bool.true_and,Bool.false_and,bne_self_eq_false,Bool.true_bne,Bool.false_bne]
  clear e52 h52
  have d6:w2.cell? ⟨w.heap.size,6,none⟩=some (.slice ao l.length cap):=(hE2.cells _ _ hbx).trans (m1.at 6 _ rfl)
  have M4:=Lib.hid m4
  have M3:=Lib.hid m3
  clear m1 m2 m3 m4 c1 c2 c3 c4 c5 z0 z1 z2
 all_goals first
  | (have hl1:((l.length:Int) != 0)=true:=HL.out;go_wp2_with fail;go_ret;exact⟨M4.out.trans (Frm.of_ext hE2),rfl⟩)
  | (go_wp2_with fail;go_ret;exact⟨M4.out.trans (Frm.of_ext hE2),rfl⟩;done)
  | skip
 all_goals
  obtain rfl:l = []:=HL.out
  go_wp2_with fail
  go_loopw [85] (fun i wr=>i = .int .i64 0∧wr=w2) (fun i _=>0)
  case atStart=>exact⟨rfl,rfl⟩
  case round=>
   obtain⟨rfl,rfl⟩:=hrel
   go_wp2_with fail
   go_ret
   exact⟨M4.out.trans (Frm.of_ext hE2),rfl,M3.out.ext hE2⟩
end Go.Proofs.YtlmeinikknoeeaaGreatDoor
namespace Go.Proofs.YtlmeinikknoeeaaGreatDoor
set_option maxRecDepth 100000
set_option maxHeartbeats 12000000
set_option linter.unusedVariables false
set_option linter.unnecessarySimpa false
set_option linter.unusedSimpArgs false
open Go.RowKit
theorem wpl_valO {P:Program} {ops:Array Oper} {rest:List Oper} {op:Oper} {a:Act} {w:World} {Q:Exit→Act→World→Prop} {v:Value} (hw:Region.wanted op (yielded ops a.tmps)=true)
  (hrun:(execOp a.eval op).run P w = .ok (.value v) w) (h:wpList P ops Q rest (a.put op.dst v) w):wpList P ops Q (op::rest) a w:=by
 unfold wpList
 rw[if_pos hw]
 left
 unfold Oper.wp
 rw[hrun]
 exact h
theorem fo_f {k:Int} {col oth:List UInt8} {vk vn:Int} {vs:List UInt8} {ao:Option Addr} {cap:Nat} {l:List Cnd} {d n N:Nat} {w:World} (hn:n<60) (hd:d≤12) (hN:BxT N [.int .i64 (n:Int)] w):∀W0 W1 W2,W0=(w.alloc (.cells (cdS.vals (.mk ⟨⟨k,col,oth,vk,vn,vs⟩,ao,cap⟩ l)).toArray 27))→W1=W0.setCell ⟨N,0,none⟩ (.int .i64 ((n:Int)+1))→W2=W1.alloc (.cells #[.int .i64 0,.int .i64 0,.string ⟨#[]⟩] 24)→
  W0.cell? ⟨N,0,none⟩=some (.int .i64 (n:Int))∧W0.frozen? ⟨N,0,none⟩=false∧N<W0.heap.size∧W1.cell? ⟨N,0,none⟩=some (.int .i64 ((n+1:Nat):Int))∧W1.cell? ⟨w.heap.size,0,none⟩=some (.int .i64 k)∧decide ((60:Int)<(n:Int)+1)=false∧decide ((12:Int)<(d:Int))=false∧
  W2.cell? ⟨w.heap.size,0,none⟩=some (.int .i64 k)∧W2.cell? ⟨w.heap.size,1,none⟩=some (.string ⟨col.toArray⟩)∧W2.cell? ⟨w.heap.size,2,none⟩=some (.string ⟨oth.toArray⟩)∧W2.cell? ⟨w.heap.size,3,none⟩=some (.int .i64 vk)∧W2.cell? ⟨w.heap.size,4,none⟩=some (.int .i64 vn)∧W2.cell? ⟨w.heap.size,5,none⟩=some (.string ⟨vs.toArray⟩)∧W2.cell? ⟨w.heap.size,6,none⟩=some (.slice ao l.length cap)∧W2.cell? ⟨w.heap.size+1,0,none⟩=some (.int .i64 0)∧W2.cell? ⟨w.heap.size+1,1,none⟩=some (.int .i64 0)∧W2.cell? ⟨w.heap.size+1,2,none⟩=some (.string ⟨#[]⟩)∧Hid (BxT w.heap.size (cdS.vals (.mk ⟨⟨k,col,oth,vk,vn,vs⟩,ao,cap⟩ l)) W2∧BxT (w.heap.size+1) [.int .i64 0,.int .i64 0,.string ⟨#[]⟩] W2∧BxT N [.int .i64 ((n+1:Nat):Int)] W2∧Frm (fun k=>k=N) w W2∧N<w.heap.size):=by
 rintro _ _ _ rfl rfl rfl
 obtain⟨h1,h2,h3,h4,hF⟩:=fo_start ⟨⟨k,col,oth,vk,vn,vs⟩,ao,cap⟩ l N n w hN
 have hM:=fo_mid ⟨⟨k,col,oth,vk,vn,vs⟩,ao,cap⟩ l N n w hN
 exact⟨h1.at 0 _ rfl,h1.fz 0 (by simp),h1.hD,h3.at 0 _ rfl,h4.at 0 _ rfl,by rw[decide_eq_false_iff_not];omega,by rw[decide_eq_false_iff_not];omega,hM.1.at 0 _ rfl,hM.1.at 1 _ rfl,hM.1.at 2 _ rfl,hM.1.at 3 _ rfl,hM.1.at 4 _ rfl,hM.1.at 5 _ rfl,hM.1.at 6 _ rfl,hM.2.1.at 0 _ rfl,hM.2.1.at 1 _ rfl,hM.2.1.at 2 _ rfl,hM⟩
theorem vform_o {k:Int} {col oth:List UInt8} {vk vn:Int} {vs:List UInt8} {ao:Option Addr} {cap:Nat} {l:List Cnd} (d n N:Nat) (w:World) (hk:¬(1≤k∧k≤6)) (hn:n<60) (hd:d≤12) (hN:BxT N [.int .i64 (n:Int)] w) :
  Calls Tryz.prog 164 #[.agg (cdS.vals (.mk ⟨⟨k,col,oth,vk,vn,vs⟩,ao,cap⟩ l)).toArray,.int .i64 (d:Int),.pointer (some ⟨N,0,none⟩)] w (FmV N w none):=by
 obtain⟨n0,nf,nl,n1,c0,e1,e2,d0,d1,d2,d3,d4,d5,d6,z0,z1,z2,HM⟩:=fo_f (k:=k) (col:=col) (oth:=oth) (vk:=vk) (vn:=vn) (vs:=vs) (ao:=ao) (cap:=cap) (l:=l) hn hd hN _ _ _ rfl rfl rfl
 clear hN d0 d1 d2 d3 d4 d5 d6 z0 z1 z2
 have k1:(k==1)=false:=by rw[beq_eq_false_iff_ne];omega
 have k2:(k==2)=false:=by rw[beq_eq_false_iff_ne];omega
 have k3:(k==3)=false:=by rw[beq_eq_false_iff_ne];omega
 have k4:(k==4)=false:=by rw[beq_eq_false_iff_ne];omega
 have k5:(k==5)=false:=by rw[beq_eq_false_iff_ne];omega
 have k6:(k==6)=false:=by rw[beq_eq_false_iff_ne];omega
 clear hk
 go_enter Tryz.func164,Tryz.ntmps164
 go_wp2_with fail
 go_ret
 exact⟨HM.out.2.2.2.1,rfl⟩
theorem vform_n {k:Int} {col oth:List UInt8} {vk vn:Int} {vs:List UInt8} {ao:Option Addr} {cap:Nat} {l:List Cnd} (d n N:Nat) (w:World) (hk:k=3∨k=4∨k=5∨k=6) (hn:n<60) (hd:d≤12) (hN:BxT N [.int .i64 (n:Int)] w) (hc:(col == [])=false∨((col == [])=true∧(oth == [])=false)∨((col == [])=true∧(oth == [])=true∧(!decide (vk=0∧vn=0∧vs = []))=true)) :
  Calls Tryz.prog 164 #[.agg (cdS.vals (.mk ⟨⟨k,col,oth,vk,vn,vs⟩,ao,cap⟩ l)).toArray,.int .i64 (d:Int),.pointer (some ⟨N,0,none⟩)] w (FmV N w none):=by
 obtain⟨n0,nf,nl,n1,c0,e1,e2,d0,d1,d2,d3,d4,d5,d6,z0,z1,z2,HM⟩:=fo_f (k:=k) (col:=col) (oth:=oth) (vk:=vk) (vn:=vn) (vs:=vs) (ao:=ao) (cap:=cap) (l:=l) hn hd hN _ _ _ rfl rfl rfl
 clear hN
 rcases hc with hc|⟨hc,ho⟩|⟨hc,ho,hnz⟩
 all_goals rcases hk with rfl|rfl|rfl|rfl
 all_goals
  go_enter Tryz.func164,Tryz.ntmps164
  go_wp2_with (first
   | ((with_reducible show wpList _ _ _ (⟨some 70,.binOp _ _ _ _ _,_,_,_,_⟩::_) _ _);refine wpl_valO rfl (yr_nevO rfl rfl rfl hnz) ?_))
  go_ret
  exact⟨HM.out.2.2.2.1,rfl⟩
end Go.Proofs.YtlmeinikknoeeaaGreatDoor
