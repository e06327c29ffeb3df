/- Queries: the walks of QuerytextPlaces. -/
import Derived.Test.YtlmeinikknoeeaaGreatDoorQ45
namespace Go.Proofs.YtlmeinikknoeeaaGreatDoor
set_option maxRecDepth 100000
set_option maxHeartbeats 2000000
set_option linter.unusedVariables false
set_option linter.unnecessarySimpa false
set_option linter.unusedSimpArgs false
open Go.RowKit
def PaE (l c er:Int) (W:World) (e:Ending) (w':World):Prop:=
 Ext W w'∧∃t:Qry,e = .returned (.tuple #[.agg (qnS.vals t).toArray,.agg #[.int .i64 l,.int .i64 c],.int .i64 er])
def z0Q:Qry:=.mk ⟨0,[],[],none,0,[],none,0,awZ,0,0,0,0,none,0⟩ []
theorem z0Q_vals:qnS.vals z0Q=zeroQ:=rfl
theorem pav_ok {W:World} {q:Tr QnD} {i:Nat} {e:Ending} {w':World} (h:PaV W (.ok q i) e w'):PaE 0 0 0 W e w':=by
 obtain⟨hE,t,he,-,-⟩:=h
 exact⟨hE,t,he⟩
theorem pav_bad {W:World} {l c er:Int} {e:Ending} {w':World} (h:PaV W (.bad l c er) e w'):PaE l c er W e w':=by
 obtain⟨hE,he⟩:=h
 exact⟨hE,z0Q,by rw[z0Q_vals];exact he⟩
def LnB (D:Nat) (L:List (List UInt8)) (w:World):Prop:=∀i x,L[i]? = some x→w.cell? ⟨D,i,none⟩=some (.string ⟨x.toArray⟩)
theorem splitO_c (s:List UInt8) (w:World) (hm:LmO w) (hs:s.length≤100000) :
  Calls Tryz.prog 35 #[.string ⟨s.toArray⟩,.string ⟨#[10]⟩] w fun e w'=>(∃D n,e = .returned (.slice (some ⟨D,0,none⟩) n n)∧n=(spl 10 s).length∧D<w'.heap.size∧LnB D (spl 10 s) w')∧Ext w w':=by
 obtain⟨m,hm⟩:=hm
 refine(Tryz.strings_Split ⟨s.toArray⟩ ⟨#[10]⟩ m w (by show s.toArray.size<_;simp;omega) hm (Nat.le_refl 1)).mono ?_
 rintro e w' ⟨rfl,rfl⟩
 rw[split_count,split_vals]
 refine⟨⟨_,_,rfl,rfl,by rw[World.size_alloc];omega,?_⟩,(Ext.refl w).alloc _⟩
 intro i x hx
 have hB:=BxT.new w ((spl 10 s).map fun l=>Value.string ⟨l.toArray⟩) 9
 exact hB.at i _ (by rw[List.getElem?_map,hx];rfl)
theorem yr_neeZ {o:Oper} {a:Act} {w:World} {x y:Operand} {t2:TypeId} {A B:Int} {b:Bool} (hop:o.op = .binOp .neq 37 x y t2) (hx:a.eval x = .int .i64 A) (hy:a.eval y = .int .i64 B) (hb:(A != B)=b):(execOp a.eval o).run Tryz.prog w = .ok (.value (.bool b)) w:=by
 unfold execOp
 simp only[hop,hx,hy]
 simp[Result.andThen,go_sem,eqGuard,hb]
theorem yr_lsiZ {o:Oper} {a:Act} {w:World} {x y:Operand} {t2:TypeId} {A B:Int} {b:Bool} (hop:o.op = .binOp .lss 3 x y t2) (hx:a.eval x = .int .i64 A) (hy:a.eval y = .int .i64 B) (hb:decide (A<B)=b):(execOp a.eval o).run Tryz.prog w = .ok (.value (.bool b)) w:=by
 unfold execOp
 simp only[hop,hx,hy]
 simp[Result.andThen,go_sem,hb]
theorem yr_gtiZ {o:Oper} {a:Act} {w:World} {x y:Operand} {t2:TypeId} {A B:Int} {b:Bool} (hop:o.op = .binOp .gtr 3 x y t2) (hx:a.eval x = .int .i64 A) (hy:a.eval y = .int .i64 B) (hb:decide (B<A)=b):(execOp a.eval o).run Tryz.prog w = .ok (.value (.bool b)) w:=by
 unfold execOp
 simp only[hop,hx,hy]
 simp[Result.andThen,go_sem,hb]
theorem yr_subZ {o:Oper} {a:Act} {w:World} {x y:Operand} {t2:TypeId} {A B C:Int} (hop:o.op = .binOp .sub 3 x y t2) (hx:a.eval x = .int .i64 A) (hy:a.eval y = .int .i64 B) (hb:IntKind.i64.wrap (A-B)=C):(execOp a.eval o).run Tryz.prog w = .ok (.value (.int .i64 C)) w:=by
 unfold execOp
 simp only[hop,hx,hy]
 simp[Result.andThen,go_sem,hb]
theorem yr_lenT {a:Act} {w:World} {o:Oper} {x:Operand} {ao:Option Addr} {n c:Nat} (hop:o.op = .call ⟨.builtin .len,#[x],#[22]⟩) (hot:o.type=3) (hx:a.eval x = .slice ao n c):(execOp a.eval o).run Tryz.prog w = .ok (.value (.int .i64 (n:Int))) w:=by
 have hm:(#[x]:Array Operand).map a.eval = #[.slice ao n c]:=by simp[hx]
 unfold execOp
 simp only[hop,resolve,hot,hm]
 simp[go_sem,Tryz.underlying22]
theorem yr_lenS {a:Act} {w:World} {o:Oper} {x:Operand} {s:List UInt8} (hop:o.op = .call ⟨.builtin .len,#[x],#[9]⟩) (hot:o.type=3) (hx:a.eval x = .string ⟨s.toArray⟩):(execOp a.eval o).run Tryz.prog w = .ok (.value (.int .i64 (s.length:Int))) w:=by
 have hm:(#[x]:Array Operand).map a.eval = #[.string ⟨s.toArray⟩]:=by simp[hx]
 unfold execOp
 simp only[hop,resolve,hot,hm]
 simp[go_sem,Tryz.underlying9]
theorem fa_p0 (B:Nat) (w:World):(Instr.fieldAt 50 (.pointer (some ⟨B,0,none⟩)) 0).run Tryz.prog w = .ok (.pointer (some ⟨B,0,none⟩)) w:=by go_simp
theorem fa_p1 (B:Nat) (w:World):(Instr.fieldAt 50 (.pointer (some ⟨B,0,none⟩)) 1).run Tryz.prog w = .ok (.pointer (some ⟨B,0+1,none⟩)) w:=by go_simp
theorem lo_strO (D o:Nat) (v:Value) (w:World) (h:w.cell? ⟨D,o,none⟩=some v):(Instr.loadAt 9 (.pointer (some ⟨D,o,none⟩))).run Tryz.prog w = .ok v w:=by simp[go_sem,h]
theorem ix_tx (B n k:Nat) (w:World) (h:k<n):(Instr.indexAt 22 (.slice (some ⟨B,0,none⟩) n n) (.int .i64 (k:Int))).run Tryz.prog w = .ok (.pointer (some ⟨B,k,none⟩)) w:=by
 have h1:¬((k:Int)<0):=by omega
 have h2:¬((n:Int)≤(k:Int)):=by omega
 go_simp
theorem pl_long (s:List UInt8) (w:World) (HAw:Hid (Calls Tryz.prog 12 #[] w fun e w'=>e = .returned (.bool true)∧Ext w w')) (hs:(2000:Int)<(s.length:Int)) :
  Calls Tryz.prog 7 #[.string ⟨s.toArray⟩] w fun e w'=>e = .returned (.bool true)∧Ext w w':=by
 go_enter Tryz.func7,Tryz.ntmps7
 go_wp2_with (first
  | (go_at_call 12;(with_reducible refine HAw.out.mono ?_);rintro e w1 ⟨rfl,hE1⟩))
 go_ret
 exact⟨rfl,hE1⟩
theorem pl_zero (s:List UInt8) (w:World) (HAw:Hid (Calls Tryz.prog 12 #[] w fun e w'=>e = .returned (.bool true)∧Ext w w')) (er:Int) (hs:¬(2000:Int)<(s.length:Int)) (h3:(er != 3)=true) (h9:(er != 9)=true) (HPa:∀W,Ext w W→Hid (Calls Tryz.prog 26 #[.string ⟨s.toArray⟩] W (PaE 0 0 er W))) :
  Calls Tryz.prog 7 #[.string ⟨s.toArray⟩] w fun e w'=>e = .returned (.bool true)∧Ext w w':=by
 go_enter Tryz.func7,Tryz.ntmps7
 go_wp2_with (first
  | (go_at_call 12;(with_reducible refine HAw.out.mono ?_);rintro e w1 ⟨rfl,hE1⟩)
  | (go_at_call 26;(with_reducible refine(HPa _ hE1).out.mono ?_);rintro e w10 ⟨hE10,t1,rfl⟩;have hX10:=hE1.trans hE10)
  | ((with_reducible show wpList _ _ _ (⟨some 3,.alloc _,_,_,_,_⟩::_) _ _);refine wpl_new rfl 32 zeroQ rfl alloc_q ?_;intro w11 hE11 hB11 hs11;have HS1:=Lib.hid hs11;clear hs11)
  | ((with_reducible show wpList _ _ _ (⟨some 4,.alloc _,_,_,_,_⟩::_) _ _);refine wpl_new rfl 50 [.int .i64 0,.int .i64 0] rfl alloc_p ?_;intro w12 hE12 hB12 hs12;clear hs12)
  | ((with_reducible show wpList _ _ _ (⟨none,.store _ (.tmp 3) _,_,_,_,_⟩::_) _ _);refine wpl_st rfl 32 _ _ rfl w10.heap.size zeroQ (qnS.vals t1) rfl rfl (hB11.ext hE12) rfl (info_q t1) (vals_one_q t1) ?_;intro w13 hF13 hB13;have hP13:=hB12.frm hF13 (by have q1:=HS1.out;omega))
  | ((with_reducible show wpList _ _ _ (⟨none,.store _ (.tmp 4) _,_,_,_,_⟩::_) _ _);refine wpl_st rfl 50 _ _ rfl w11.heap.size [.int .i64 0,.int .i64 0] [.int .i64 0,.int .i64 0] rfl rfl hP13 rfl poI rfl ?_;intro w14 hF14 hB14;have hY1:Ext w10 w14:=ext_frm (((Frm.of_ext (hE11.trans hE12)).step hF13 (fun k h1 h2=>by omega)).step hF14 (fun k h1 h2=>by have q1:=HS1.out;omega));have hX14:=hX10.trans hY1;clear hB11 hB12 hB13 hP13 hF13 hF14 hE11 hE12;have HP1:=Lib.hid hB14;clear hB14)
  | ((with_reducible show wpList _ _ _ (⟨some 21,.load _ _,_,_,_,_⟩::_) _ _);refine wpl_load rfl 50 _ rfl w11.heap.size 0 rfl [.int .i64 0,.int .i64 0] _ HP1.out.rd Tryz.underlying50 rfl poI ?_))
 go_ret
 exact⟨rfl,hX14⟩
theorem pl_bad3 (s:List UInt8) (w:World) (HAw:Hid (Calls Tryz.prog 12 #[] w fun e w'=>e = .returned (.bool true)∧Ext w w')) (l c:Int) (hs:¬(2000:Int)<(s.length:Int)) (hh:∀W,Ext w W→Hid (LmO W)) (hz:¬(l=0)) (k6:Nat) (x6:List UInt8) (hl1:decide (l<1)=false) (hl2':l≤(spl 10 s).length) (hc1:decide (c<1)=false) (hc2:decide ((x6.length:Int)<c)=false) (hk6:IntKind.i64.wrap (l-1)=(k6:Int)) (hkl:(spl 10 s)[k6]? = some x6) (HPa:∀W,Ext w W→Hid (Calls Tryz.prog 26 #[.string ⟨s.toArray⟩] W (PaE l c 3 W))) (HPb:∀W,Ext w W→Hid (Calls Tryz.prog 26 #[.string ((⟨s.toArray⟩:ByteArray)++(⟨#[32,115,99,97,110]⟩:ByteArray))] W (PaE l c 3 W))) :
  Calls Tryz.prog 7 #[.string ⟨s.toArray⟩] w fun e w'=>e = .returned (.bool true)∧Ext w w':=by
 have HSp:∀W,Ext w W→Hid (Calls Tryz.prog 35 #[.string ⟨s.toArray⟩,.string ⟨#[10]⟩] W fun e w'=>(∃D n,e = .returned (.slice (some ⟨D,0,none⟩) n n)∧n=(spl 10 s).length∧D<w'.heap.size∧LnB D (spl 10 s) w')∧Ext W w'):=fun W hE=>splitO_c s W (hh W hE).out (by omega)
 have hz1:¬(l=0):=hz
 have hz2:(l==0)=false:=by simpa using hz
 clear hh hz
 go_enter Tryz.func7,Tryz.ntmps7
 go_wp2_with (first
  | (go_at_call 12;(with_reducible refine HAw.out.mono ?_);rintro e w1 ⟨rfl,hE1⟩)
  | (go_at_call 26;(with_reducible refine(HPa _ hE1).out.mono ?_);rintro e w10 ⟨hE10,t1,rfl⟩;have hX10:=hE1.trans hE10)
  | ((with_reducible show wpList _ _ _ (⟨some 3,.alloc _,_,_,_,_⟩::_) _ _);refine wpl_new rfl 32 zeroQ rfl alloc_q ?_;intro w11 hE11 hB11 hs11;have HS1:=Lib.hid hs11;clear hs11)
  | ((with_reducible show wpList _ _ _ (⟨some 4,.alloc _,_,_,_,_⟩::_) _ _);refine wpl_new rfl 50 [.int .i64 0,.int .i64 0] rfl alloc_p ?_;intro w12 hE12 hB12 hs12;clear hs12)
  | ((with_reducible show wpList _ _ _ (⟨none,.store _ (.tmp 3) _,_,_,_,_⟩::_) _ _);refine wpl_st rfl 32 _ _ rfl w10.heap.size zeroQ (qnS.vals t1) rfl rfl (hB11.ext hE12) rfl (info_q t1) (vals_one_q t1) ?_;intro w13 hF13 hB13;have hP13:=hB12.frm hF13 (by have q1:=HS1.out;omega))
  | ((with_reducible show wpList _ _ _ (⟨none,.store _ (.tmp 4) _,_,_,_,_⟩::_) _ _);refine wpl_st rfl 50 _ _ rfl w11.heap.size [.int .i64 0,.int .i64 0] [.int .i64 l,.int .i64 c] rfl rfl hP13 rfl poI rfl ?_;intro w14 hF14 hB14;have hY1:Ext w10 w14:=ext_frm (((Frm.of_ext (hE11.trans hE12)).step hF13 (fun k h1 h2=>by omega)).step hF14 (fun k h1 h2=>by have q1:=HS1.out;omega));have hX14:=hX10.trans hY1;clear hB11 hB12 hB13 hP13 hF13 hF14 hE11 hE12;have HP1:=Lib.hid hB14;clear hB14)
  | ((with_reducible show wpList _ _ _ (⟨some 21,.load _ _,_,_,_,_⟩::_) _ _);refine wpl_load rfl 50 _ rfl w11.heap.size 0 rfl [.int .i64 l,.int .i64 c] _ HP1.out.rd Tryz.underlying50 rfl poI ?_)
  | (go_at_call 35;(with_reducible refine(HSp _ hX14).out.mono ?_);rintro e w15 ⟨⟨D6,n6,rfl,hn6,hD6,hL6⟩,hE15⟩;have hX15:=hX14.trans hE15))
 have hP:=HP1.out
 obtain⟨D4,hD4e⟩:∃D,D=w11.heap.size:=⟨_,rfl⟩
 obtain⟨n6,hn6⟩:∃n,n=(spl 10 s).length:=⟨_,rfl⟩
 have p0:w15.cell? ⟨w11.heap.size,0,none⟩=some (.int .i64 l):=(hE15.cells _ _ hP.hD).trans (hP.at 0 _ rfl)
 have p1:w15.cell? ⟨w11.heap.size,0+1,none⟩=some (.int .i64 c):=(hE15.cells _ _ hP.hD).trans (hP.at 1 _ rfl)
 have hD4:w11.heap.size<w15.heap.size:=hE15.lt hP.hD
 have HQ1:Hid (BxT D4 [.int .i64 l,.int .i64 c] w14):=by rw[hD4e];exact HP1
 have hx6:=hL6 k6 x6 hkl
 have hkn:k6<n6:=by rw[hn6];exact(List.getElem?_eq_some_iff.1 hkl).1
 have hl2:decide ((n6:Int)<l)=false:=by rw[hn6,decide_eq_false_iff_not];omega
 rw[←hD4e]at p0 p1 hD4 ⊢
 rw[←hn6]
 clear hP hL6 hl2' hkl hD4e hn6
 refine wp_region_growK [32,33,34,35,36,37,38,39,40,41,42,43,44,45,46,47,48,49,50,51,52,53,54,55,56,57,58,59,60,61,62,63,64,65,66,67,68,69,70] [fun x _=>x = .int .i64 3,fun x _=>x = .bool false,fun x _=>x = .bool false,fun x _=>x=undef,fun x _=>x=undef,fun x _=>x = .bool false,fun x _=>x = .bool false,fun x _=>x=undef,fun x _=>x=undef,fun x _=>x = .bool false,fun x _=>x = .bool false,fun x _=>x = .pointer (some ⟨D4,0,none⟩),fun x _=>x = .int .i64 l,fun x _=>x = .bool false,fun x _=>x = .bool false,fun x _=>x = .bool false,fun x _=>x = .pointer (some ⟨D4,0,none⟩),fun x _=>x = .int .i64 l,fun x _=>x = .slice (some ⟨D6,0,none⟩) n6 n6,fun x _=>x = .int .i64 (n6:Int),fun x _=>x = .bool false,fun x _=>x = .bool false,fun x _=>x = .bool false,fun x _=>x = .pointer (some ⟨D4,0+1,none⟩),fun x _=>x = .int .i64 c,fun x _=>x = .bool false,fun x _=>x = .bool false,fun x _=>x = .bool false,fun x _=>x = .pointer (some ⟨D4,0+1,none⟩),fun x _=>x = .int .i64 c,fun x _=>x = .slice (some ⟨D6,0,none⟩) n6 n6,fun x _=>x = .pointer (some ⟨D4,0,none⟩),fun x _=>x = .int .i64 l,fun x _=>x = .int .i64 (k6:Int),fun x _=>x = .pointer (some ⟨D6,k6,none⟩),fun x _=>x = .string ⟨x6.toArray⟩,fun x _=>x = .int .i64 (x6.length:Int),fun x _=>x = .bool false,fun x _=>x = .bool false] 0 (by kernel_rfl) (by kernel_rfl) (by kernel_rfl) (by kernel_rfl) ?_ ?_ ?_
 ·intro Rl hRl
  simp only[List.mem_cons,List.not_mem_nil,or_false]at hRl
  rcases hRl with rfl|rfl|rfl|rfl|rfl|rfl|rfl|rfl|rfl|rfl|rfl|rfl|rfl|rfl|rfl|rfl|rfl|rfl|rfl|rfl|rfl|rfl|rfl|rfl|rfl|rfl|rfl|rfl|rfl|rfl|rfl|rfl|rfl|rfl|rfl|rfl|rfl|rfl|rfl
  all_goals exact fun _ _ _ h _=>h
 ·refine⟨?_,?_,?_,?_,?_,?_,?_,?_,?_,?_,?_,?_,?_,?_,?_,?_,?_,?_,?_,?_,?_,?_,?_,?_,?_,?_,?_,?_,?_,?_,?_,?_,?_,?_,?_,?_,?_,?_,?_,trivial⟩
  ·refine .inl ⟨by intro j b hjb v w h;first|(cases hjb;done)|(cases hjb;exact h),?_⟩
   intro a wv hE hF hD K hK
   exact gs_valZ rfl (yr_moveZ rfl ((hF 5 (fr_ofZ rfl)).trans rfl)) (hK _ _ rfl (Ext.refl _))
  ·refine .inl ⟨by intro j b hjb v w h;first|(cases hjb;done)|(cases hjb;exact h),?_⟩
   intro a wv hE hF hD K hK
   have u32:a.eval (.tmp 32) = .int .i64 3:=hD 0 (by kernel_rfl)
   exact gs_valZ rfl (yr_neeZ rfl u32 rfl (by decide)) (hK _ _ rfl (Ext.refl _))
  ·refine .inl ⟨by intro j b hjb v w h;first|(cases hjb;done)|(cases hjb;exact h),?_⟩
   intro a wv hE hF hD K hK
   have u33:a.eval (.tmp 33) = .bool false:=hD 1 (by kernel_rfl)
   exact gs_valZ rfl (yr_moveZ rfl u33) (hK _ _ rfl (Ext.refl _))
  ·exact .inr ⟨_,_,rfl,fun v w h=>by first|exact .inl h|exact .inr h,fun w=>rfl⟩
  ·exact .inr ⟨_,_,rfl,fun v w h=>by first|exact .inl h|exact .inr h,fun w=>rfl⟩
  ·refine .inl ⟨by intro j b hjb v w h;first|(cases hjb;done)|(cases hjb;exact h),?_⟩
   intro a wv hE hF hD K hK
   have u34:a.eval (.tmp 34) = .bool false:=hD 2 (by kernel_rfl)
   exact gs_valZ rfl (yr_pickZ (b:=false) rfl u34 rfl) (hK _ _ rfl (Ext.refl _))
  ·refine .inl ⟨by intro j b hjb v w h;first|(cases hjb;done)|(cases hjb;exact h),?_⟩
   intro a wv hE hF hD K hK
   have u37:a.eval (.tmp 37) = .bool false:=hD 5 (by kernel_rfl)
   exact gs_valZ rfl (yr_moveZ rfl u37) (hK _ _ rfl (Ext.refl _))
  ·exact .inr ⟨_,_,rfl,fun v w h=>by first|exact .inl h|exact .inr h,fun w=>rfl⟩
  ·exact .inr ⟨_,_,rfl,fun v w h=>by first|exact .inl h|exact .inr h,fun w=>rfl⟩
  ·refine .inl ⟨by intro j b hjb v w h;first|(cases hjb;done)|(cases hjb;exact h),?_⟩
   intro a wv hE hF hD K hK
   have u38:a.eval (.tmp 38) = .bool false:=hD 6 (by kernel_rfl)
   exact gs_valZ rfl (yr_pickZ (b:=false) rfl u38 rfl) (hK _ _ rfl (Ext.refl _))
  ·refine .inl ⟨by intro j b hjb v w h;first|(cases hjb;done)|(cases hjb;exact h),?_⟩
   intro a wv hE hF hD K hK
   have u41:a.eval (.tmp 41) = .bool false:=hD 9 (by kernel_rfl)
   exact gs_valZ rfl (yr_moveZ rfl u41) (hK _ _ rfl (Ext.refl _))
  ·refine .inl ⟨by intro j b hjb v w h;first|(cases hjb;done)|(cases hjb;exact h),?_⟩
   intro a wv hE hF hD K hK
   exact gs_valZ rfl (yr_fieldZ rfl ((hF 4 (fr_ofZ rfl)).trans rfl) (fa_p0 D4 wv)) (hK _ _ rfl (Ext.refl _))
  ·refine .inl ⟨by intro j b hjb v w h;first|(cases hjb;done)|(cases hjb;exact h),?_⟩
   intro a wv hE hF hD K hK
   have u43:a.eval (.tmp 43) = .pointer (some ⟨D4,0,none⟩):=hD 11 (by kernel_rfl)
   exact gs_valZ rfl (yr_loadZ rfl u43 (lo_int D4 0 _ wv ((hE.cells _ _ hD4).trans p0))) (hK _ _ rfl (Ext.refl _))
  ·refine .inl ⟨by intro j b hjb v w h;first|(cases hjb;done)|(cases hjb;exact h),?_⟩
   intro a wv hE hF hD K hK
   have u44:a.eval (.tmp 44) = .int .i64 l:=hD 12 (by kernel_rfl)
   exact gs_valZ rfl (yr_lsiZ rfl u44 rfl hl1) (hK _ _ rfl (Ext.refl _))
  ·refine .inl ⟨by intro j b hjb v w h;first|(cases hjb;done)|(cases hjb;exact h),?_⟩
   intro a wv hE hF hD K hK
   have u42:a.eval (.tmp 42) = .bool false:=hD 10 (by kernel_rfl)
   have u45:a.eval (.tmp 45) = .bool false:=hD 13 (by kernel_rfl)
   exact gs_valZ rfl (yr_pickZ (b:=false) rfl u42 u45) (hK _ _ rfl (Ext.refl _))
  ·refine .inl ⟨by intro j b hjb v w h;first|(cases hjb;done)|(cases hjb;exact h),?_⟩
   intro a wv hE hF hD K hK
   have u46:a.eval (.tmp 46) = .bool false:=hD 14 (by kernel_rfl)
   exact gs_valZ rfl (yr_moveZ rfl u46) (hK _ _ rfl (Ext.refl _))
  ·refine .inl ⟨by intro j b hjb v w h;first|(cases hjb;done)|(cases hjb;exact h),?_⟩
   intro a wv hE hF hD K hK
   exact gs_valZ rfl (yr_fieldZ rfl ((hF 4 (fr_ofZ rfl)).trans rfl) (fa_p0 D4 wv)) (hK _ _ rfl (Ext.refl _))
  ·refine .inl ⟨by intro j b hjb v w h;first|(cases hjb;done)|(cases hjb;exact h),?_⟩
   intro a wv hE hF hD K hK
   have u48:a.eval (.tmp 48) = .pointer (some ⟨D4,0,none⟩):=hD 16 (by kernel_rfl)
   exact gs_valZ rfl (yr_loadZ rfl u48 (lo_int D4 0 _ wv ((hE.cells _ _ hD4).trans p0))) (hK _ _ rfl (Ext.refl _))
  ·refine .inl ⟨by intro j b hjb v w h;first|(cases hjb;done)|(cases hjb;exact h),?_⟩
   intro a wv hE hF hD K hK
   exact gs_valZ rfl (yr_moveZ rfl ((hF 6 (fr_ofZ rfl)).trans rfl)) (hK _ _ rfl (Ext.refl _))
  ·refine .inl ⟨by intro j b hjb v w h;first|(cases hjb;done)|(cases hjb;exact h),?_⟩
   intro a wv hE hF hD K hK
   have u50:a.eval (.tmp 50) = .slice (some ⟨D6,0,none⟩) n6 n6:=hD 18 (by kernel_rfl)
   exact gs_valZ rfl (yr_lenT rfl rfl u50) (hK _ _ rfl (Ext.refl _))
  ·refine .inl ⟨by intro j b hjb v w h;first|(cases hjb;done)|(cases hjb;exact h),?_⟩
   intro a wv hE hF hD K hK
   have u49:a.eval (.tmp 49) = .int .i64 l:=hD 17 (by kernel_rfl)
   have u51:a.eval (.tmp 51) = .int .i64 (n6:Int):=hD 19 (by kernel_rfl)
   exact gs_valZ rfl (yr_gtiZ rfl u49 u51 hl2) (hK _ _ rfl (Ext.refl _))
  ·refine .inl ⟨by intro j b hjb v w h;first|(cases hjb;done)|(cases hjb;exact h),?_⟩
   intro a wv hE hF hD K hK
   have u47:a.eval (.tmp 47) = .bool false:=hD 15 (by kernel_rfl)
   have u52:a.eval (.tmp 52) = .bool false:=hD 20 (by kernel_rfl)
   exact gs_valZ rfl (yr_pickZ (b:=false) rfl u47 u52) (hK _ _ rfl (Ext.refl _))
  ·refine .inl ⟨by intro j b hjb v w h;first|(cases hjb;done)|(cases hjb;exact h),?_⟩
   intro a wv hE hF hD K hK
   have u53:a.eval (.tmp 53) = .bool false:=hD 21 (by kernel_rfl)
   exact gs_valZ rfl (yr_moveZ rfl u53) (hK _ _ rfl (Ext.refl _))
  ·refine .inl ⟨by intro j b hjb v w h;first|(cases hjb;done)|(cases hjb;exact h),?_⟩
   intro a wv hE hF hD K hK
   exact gs_valZ rfl (yr_fieldZ rfl ((hF 4 (fr_ofZ rfl)).trans rfl) (fa_p1 D4 wv)) (hK _ _ rfl (Ext.refl _))
  ·refine .inl ⟨by intro j b hjb v w h;first|(cases hjb;done)|(cases hjb;exact h),?_⟩
   intro a wv hE hF hD K hK
   have u55:a.eval (.tmp 55) = .pointer (some ⟨D4,0+1,none⟩):=hD 23 (by kernel_rfl)
   exact gs_valZ rfl (yr_loadZ rfl u55 (lo_int D4 (0+1) _ wv ((hE.cells _ _ hD4).trans p1))) (hK _ _ rfl (Ext.refl _))
  ·refine .inl ⟨by intro j b hjb v w h;first|(cases hjb;done)|(cases hjb;exact h),?_⟩
   intro a wv hE hF hD K hK
   have u56:a.eval (.tmp 56) = .int .i64 c:=hD 24 (by kernel_rfl)
   exact gs_valZ rfl (yr_lsiZ rfl u56 rfl hc1) (hK _ _ rfl (Ext.refl _))
  ·refine .inl ⟨by intro j b hjb v w h;first|(cases hjb;done)|(cases hjb;exact h),?_⟩
   intro a wv hE hF hD K hK
   have u54:a.eval (.tmp 54) = .bool false:=hD 22 (by kernel_rfl)
   have u57:a.eval (.tmp 57) = .bool false:=hD 25 (by kernel_rfl)
   exact gs_valZ rfl (yr_pickZ (b:=false) rfl u54 u57) (hK _ _ rfl (Ext.refl _))
  ·refine .inl ⟨by intro j b hjb v w h;first|(cases hjb;done)|(cases hjb;exact h),?_⟩
   intro a wv hE hF hD K hK
   have u58:a.eval (.tmp 58) = .bool false:=hD 26 (by kernel_rfl)
   exact gs_valZ rfl (yr_moveZ rfl u58) (hK _ _ rfl (Ext.refl _))
  ·refine .inl ⟨by intro j b hjb v w h;first|(cases hjb;done)|(cases hjb;exact h),?_⟩
   intro a wv hE hF hD K hK
   exact gs_valZ rfl (yr_fieldZ rfl ((hF 4 (fr_ofZ rfl)).trans rfl) (fa_p1 D4 wv)) (hK _ _ rfl (Ext.refl _))
  ·refine .inl ⟨by intro j b hjb v w h;first|(cases hjb;done)|(cases hjb;exact h),?_⟩
   intro a wv hE hF hD K hK
   have u60:a.eval (.tmp 60) = .pointer (some ⟨D4,0+1,none⟩):=hD 28 (by kernel_rfl)
   exact gs_valZ rfl (yr_loadZ rfl u60 (lo_int D4 (0+1) _ wv ((hE.cells _ _ hD4).trans p1))) (hK _ _ rfl (Ext.refl _))
  ·refine .inl ⟨by intro j b hjb v w h;first|(cases hjb;done)|(cases hjb;exact h),?_⟩
   intro a wv hE hF hD K hK
   exact gs_valZ rfl (yr_moveZ rfl ((hF 6 (fr_ofZ rfl)).trans rfl)) (hK _ _ rfl (Ext.refl _))
  ·refine .inl ⟨by intro j b hjb v w h;first|(cases hjb;done)|(cases hjb;exact h),?_⟩
   intro a wv hE hF hD K hK
   exact gs_valZ rfl (yr_fieldZ rfl ((hF 4 (fr_ofZ rfl)).trans rfl) (fa_p0 D4 wv)) (hK _ _ rfl (Ext.refl _))
  ·refine .inl ⟨by intro j b hjb v w h;first|(cases hjb;done)|(cases hjb;exact h),?_⟩
   intro a wv hE hF hD K hK
   have u63:a.eval (.tmp 63) = .pointer (some ⟨D4,0,none⟩):=hD 31 (by kernel_rfl)
   exact gs_valZ rfl (yr_loadZ rfl u63 (lo_int D4 0 _ wv ((hE.cells _ _ hD4).trans p0))) (hK _ _ rfl (Ext.refl _))
  ·refine .inl ⟨by intro j b hjb v w h;first|(cases hjb;done)|(cases hjb;exact h),?_⟩
   intro a wv hE hF hD K hK
   have u64:a.eval (.tmp 64) = .int .i64 l:=hD 32 (by kernel_rfl)
   exact gs_valZ rfl (yr_subZ rfl u64 rfl hk6) (hK _ _ rfl (Ext.refl _))
  ·refine .inl ⟨by intro j b hjb v w h;first|(cases hjb;done)|(cases hjb;exact h),?_⟩
   intro a wv hE hF hD K hK
   have u62:a.eval (.tmp 62) = .slice (some ⟨D6,0,none⟩) n6 n6:=hD 30 (by kernel_rfl)
   have u65:a.eval (.tmp 65) = .int .i64 (k6:Int):=hD 33 (by kernel_rfl)
   exact gs_valZ rfl (yr_idxO rfl u62 u65 (ix_tx D6 n6 k6 wv hkn)) (hK _ _ rfl (Ext.refl _))
  ·refine .inl ⟨by intro j b hjb v w h;first|(cases hjb;done)|(cases hjb;exact h),?_⟩
   intro a wv hE hF hD K hK
   have u66:a.eval (.tmp 66) = .pointer (some ⟨D6,k6,none⟩):=hD 34 (by kernel_rfl)
   exact gs_valZ rfl (yr_loadZ rfl u66 (lo_strO D6 k6 _ wv ((hE.cells _ _ hD6).trans hx6))) (hK _ _ rfl (Ext.refl _))
  ·refine .inl ⟨by intro j b hjb v w h;first|(cases hjb;done)|(cases hjb;exact h),?_⟩
   intro a wv hE hF hD K hK
   have u67:a.eval (.tmp 67) = .string ⟨x6.toArray⟩:=hD 35 (by kernel_rfl)
   exact gs_valZ rfl (yr_lenS rfl rfl u67) (hK _ _ rfl (Ext.refl _))
  ·refine .inl ⟨by intro j b hjb v w h;first|(cases hjb;done)|(cases hjb;exact h),?_⟩
   intro a wv hE hF hD K hK
   have u61:a.eval (.tmp 61) = .int .i64 c:=hD 29 (by kernel_rfl)
   have u68:a.eval (.tmp 68) = .int .i64 (x6.length:Int):=hD 36 (by kernel_rfl)
   exact gs_valZ rfl (yr_gtiZ rfl u61 u68 hc2) (hK _ _ rfl (Ext.refl _))
  ·refine .inl ⟨by intro j b hjb v w h;first|(cases hjb;done)|(cases hjb;exact h),?_⟩
   intro a wv hE hF hD K hK
   have u59:a.eval (.tmp 59) = .bool false:=hD 27 (by kernel_rfl)
   have u69:a.eval (.tmp 69) = .bool false:=hD 37 (by kernel_rfl)
   exact gs_valZ rfl (yr_pickZ (b:=false) rfl u59 u69) (hK _ _ rfl (Ext.refl _))
 intro vals w9 hE9 hR9
 obtain⟨-,-,-,-,-,-,-,-,-,-,-,-,-,-,-,-,-,-,-,-,-,-,-,-,-,-,-,-,-,-,-,-,-,-,-,-,-,-,h2,-⟩:=hR9
 have e2:vals 38 = .bool false:=h2
 refine wpAny_done (by kernel_rfl) ?_ _
 simp only[putF,Act.put,List.length_cons,List.length_nil,List.getD_cons_zero,List.getD_cons_succ,List.setIfInBounds_toArray,List.set_cons_zero,List.set_cons_succ,Nat.reduceAdd,e2]
 clear e2 h2
 have hX9:=hX15.trans hE9
 go_wp2_with (first
  | (go_at_call 26;(with_reducible refine(HPb _ hX9).out.mono ?_);rintro e w20 ⟨hE20,t2,rfl⟩;have hX20:=hX9.trans hE20)
  | ((with_reducible show wpList _ _ _ (⟨some 7,.alloc _,_,_,_,_⟩::_) _ _);refine wpl_new rfl 32 zeroQ rfl alloc_q ?_;intro w21 hE21 hB21 hs21;have HS2:=Lib.hid hs21;clear hs21)
  | ((with_reducible show wpList _ _ _ (⟨some 8,.alloc _,_,_,_,_⟩::_) _ _);refine wpl_new rfl 50 [.int .i64 0,.int .i64 0] rfl alloc_p ?_;intro w22 hE22 hB22 hs22;clear hs22)
  | ((with_reducible show wpList _ _ _ (⟨none,.store _ (.tmp 7) _,_,_,_,_⟩::_) _ _);refine wpl_st rfl 32 _ _ rfl w20.heap.size zeroQ (qnS.vals t2) rfl rfl (hB21.ext hE22) rfl (info_q t2) (vals_one_q t2) ?_;intro w23 hF23 hB23;have hP23:=hB22.frm hF23 (by have q1:=HS2.out;omega))
  | ((with_reducible show wpList _ _ _ (⟨none,.store _ (.tmp 8) _,_,_,_,_⟩::_) _ _);refine wpl_st rfl 50 _ _ rfl w21.heap.size [.int .i64 0,.int .i64 0] [.int .i64 l,.int .i64 c] rfl rfl hP23 rfl poI rfl ?_;intro w24 hF24 hB24;have hY2:Ext w20 w24:=ext_frm (((Frm.of_ext (hE21.trans hE22)).step hF23 (fun k h1 h2=>by omega)).step hF24 (fun k h1 h2=>by have q1:=HS2.out;omega));have hX24:=hX20.trans hY2;clear hB21 hB22 hB23 hP23 hF23 hF24 hE21 hE22;have HP2:=Lib.hid hB24;clear hB24)
  | ((with_reducible show wpList _ _ _ (⟨some 82,.load _ _,_,_,_,_⟩::_) _ _);refine wpl_load rfl 50 _ rfl w21.heap.size 0 rfl [.int .i64 l,.int .i64 c] _ HP2.out.rd Tryz.underlying50 rfl poI ?_)
  | ((with_reducible show wpList _ _ _ (⟨some 83,.load _ _,_,_,_,_⟩::_) _ _);refine wpl_load rfl 50 _ rfl D4 0 rfl [.int .i64 l,.int .i64 c] _ (((HQ1.out.ext hE15).ext hE9).ext (hE20.trans hY2)).rd Tryz.underlying50 rfl poI ?_))
 go_ret
 exact⟨rfl,hX24⟩
theorem pl_bad9 (s:List UInt8) (w:World) (HAw:Hid (Calls Tryz.prog 12 #[] w fun e w'=>e = .returned (.bool true)∧Ext w w')) (l c:Int) (hs:¬(2000:Int)<(s.length:Int)) (hh:∀W,Ext w W→Hid (LmO W)) (hz:¬(l=0)) (k6:Nat) (x6:List UInt8) (hl1:decide (l<1)=false) (hl2':l≤(spl 10 s).length) (hc1:decide (c<1)=false) (hc2:decide ((x6.length:Int)<c)=false) (hk6:IntKind.i64.wrap (l-1)=(k6:Int)) (hkl:(spl 10 s)[k6]? = some x6) (HPa:∀W,Ext w W→Hid (Calls Tryz.prog 26 #[.string ⟨s.toArray⟩] W (PaE l c 9 W))) (HPb:∀W,Ext w W→Hid (Calls Tryz.prog 26 #[.string ((⟨s.toArray⟩:ByteArray)++(⟨#[32,115,99,97,110]⟩:ByteArray))] W (PaE l c 9 W))) :
  Calls Tryz.prog 7 #[.string ⟨s.toArray⟩] w fun e w'=>e = .returned (.bool true)∧Ext w w':=by
 have HSp:∀W,Ext w W→Hid (Calls Tryz.prog 35 #[.string ⟨s.toArray⟩,.string ⟨#[10]⟩] W fun e w'=>(∃D n,e = .returned (.slice (some ⟨D,0,none⟩) n n)∧n=(spl 10 s).length∧D<w'.heap.size∧LnB D (spl 10 s) w')∧Ext W w'):=fun W hE=>splitO_c s W (hh W hE).out (by omega)
 have hz1:¬(l=0):=hz
 have hz2:(l==0)=false:=by simpa using hz
 clear hh hz
 go_enter Tryz.func7,Tryz.ntmps7
 go_wp2_with (first
  | (go_at_call 12;(with_reducible refine HAw.out.mono ?_);rintro e w1 ⟨rfl,hE1⟩)
  | (go_at_call 26;(with_reducible refine(HPa _ hE1).out.mono ?_);rintro e w10 ⟨hE10,t1,rfl⟩;have hX10:=hE1.trans hE10)
  | ((with_reducible show wpList _ _ _ (⟨some 3,.alloc _,_,_,_,_⟩::_) _ _);refine wpl_new rfl 32 zeroQ rfl alloc_q ?_;intro w11 hE11 hB11 hs11;have HS1:=Lib.hid hs11;clear hs11)
  | ((with_reducible show wpList _ _ _ (⟨some 4,.alloc _,_,_,_,_⟩::_) _ _);refine wpl_new rfl 50 [.int .i64 0,.int .i64 0] rfl alloc_p ?_;intro w12 hE12 hB12 hs12;clear hs12)
  | ((with_reducible show wpList _ _ _ (⟨none,.store _ (.tmp 3) _,_,_,_,_⟩::_) _ _);refine wpl_st rfl 32 _ _ rfl w10.heap.size zeroQ (qnS.vals t1) rfl rfl (hB11.ext hE12) rfl (info_q t1) (vals_one_q t1) ?_;intro w13 hF13 hB13;have hP13:=hB12.frm hF13 (by have q1:=HS1.out;omega))
  | ((with_reducible show wpList _ _ _ (⟨none,.store _ (.tmp 4) _,_,_,_,_⟩::_) _ _);refine wpl_st rfl 50 _ _ rfl w11.heap.size [.int .i64 0,.int .i64 0] [.int .i64 l,.int .i64 c] rfl rfl hP13 rfl poI rfl ?_;intro w14 hF14 hB14;have hY1:Ext w10 w14:=ext_frm (((Frm.of_ext (hE11.trans hE12)).step hF13 (fun k h1 h2=>by omega)).step hF14 (fun k h1 h2=>by have q1:=HS1.out;omega));have hX14:=hX10.trans hY1;clear hB11 hB12 hB13 hP13 hF13 hF14 hE11 hE12;have HP1:=Lib.hid hB14;clear hB14)
  | ((with_reducible show wpList _ _ _ (⟨some 21,.load _ _,_,_,_,_⟩::_) _ _);refine wpl_load rfl 50 _ rfl w11.heap.size 0 rfl [.int .i64 l,.int .i64 c] _ HP1.out.rd Tryz.underlying50 rfl poI ?_)
  | (go_at_call 35;(with_reducible refine(HSp _ hX14).out.mono ?_);rintro e w15 ⟨⟨D6,n6,rfl,hn6,hD6,hL6⟩,hE15⟩;have hX15:=hX14.trans hE15))
 have hP:=HP1.out
 obtain⟨D4,hD4e⟩:∃D,D=w11.heap.size:=⟨_,rfl⟩
 obtain⟨n6,hn6⟩:∃n,n=(spl 10 s).length:=⟨_,rfl⟩
 have p0:w15.cell? ⟨w11.heap.size,0,none⟩=some (.int .i64 l):=(hE15.cells _ _ hP.hD).trans (hP.at 0 _ rfl)
 have p1:w15.cell? ⟨w11.heap.size,0+1,none⟩=some (.int .i64 c):=(hE15.cells _ _ hP.hD).trans (hP.at 1 _ rfl)
 have hD4:w11.heap.size<w15.heap.size:=hE15.lt hP.hD
 have HQ1:Hid (BxT D4 [.int .i64 l,.int .i64 c] w14):=by rw[hD4e];exact HP1
 have hx6:=hL6 k6 x6 hkl
 have hkn:k6<n6:=by rw[hn6];exact(List.getElem?_eq_some_iff.1 hkl).1
 have hl2:decide ((n6:Int)<l)=false:=by rw[hn6,decide_eq_false_iff_not];omega
 rw[←hD4e]at p0 p1 hD4 ⊢
 rw[←hn6]
 clear hP hL6 hl2' hkl hD4e hn6
 refine wp_region_growK [32,33,34,35,36,37,38,39,40,41,42,43,44,45,46,47,48,49,50,51,52,53,54,55,56,57,58,59,60,61,62,63,64,65,66,67,68,69,70] [fun x _=>x = .int .i64 9,fun x _=>x = .bool true,fun x _=>x = .bool true,fun x _=>x = .int .i64 9,fun x _=>x = .bool false,fun x _=>x = .bool false,fun x _=>x = .bool false,fun x _=>x=undef,fun x _=>x=undef,fun x _=>x = .bool false,fun x _=>x = .bool false,fun x _=>x = .pointer (some ⟨D4,0,none⟩),fun x _=>x = .int .i64 l,fun x _=>x = .bool false,fun x _=>x = .bool false,fun x _=>x = .bool false,fun x _=>x = .pointer (some ⟨D4,0,none⟩),fun x _=>x = .int .i64 l,fun x _=>x = .slice (some ⟨D6,0,none⟩) n6 n6,fun x _=>x = .int .i64 (n6:Int),fun x _=>x = .bool false,fun x _=>x = .bool false,fun x _=>x = .bool false,fun x _=>x = .pointer (some ⟨D4,0+1,none⟩),fun x _=>x = .int .i64 c,fun x _=>x = .bool false,fun x _=>x = .bool false,fun x _=>x = .bool false,fun x _=>x = .pointer (some ⟨D4,0+1,none⟩),fun x _=>x = .int .i64 c,fun x _=>x = .slice (some ⟨D6,0,none⟩) n6 n6,fun x _=>x = .pointer (some ⟨D4,0,none⟩),fun x _=>x = .int .i64 l,fun x _=>x = .int .i64 (k6:Int),fun x _=>x = .pointer (some ⟨D6,k6,none⟩),fun x _=>x = .string ⟨x6.toArray⟩,fun x _=>x = .int .i64 (x6.length:Int),fun x _=>x = .bool false,fun x _=>x = .bool false] 0 (by kernel_rfl) (by kernel_rfl) (by kernel_rfl) (by kernel_rfl) ?_ ?_ ?_
 ·intro Rl hRl
  simp only[List.mem_cons,List.not_mem_nil,or_false]at hRl
  rcases hRl with rfl|rfl|rfl|rfl|rfl|rfl|rfl|rfl|rfl|rfl|rfl|rfl|rfl|rfl|rfl|rfl|rfl|rfl|rfl|rfl|rfl|rfl|rfl|rfl|rfl|rfl|rfl|rfl|rfl|rfl|rfl|rfl|rfl|rfl|rfl|rfl|rfl|rfl|rfl
  all_goals exact fun _ _ _ h _=>h
 ·refine⟨?_,?_,?_,?_,?_,?_,?_,?_,?_,?_,?_,?_,?_,?_,?_,?_,?_,?_,?_,?_,?_,?_,?_,?_,?_,?_,?_,?_,?_,?_,?_,?_,?_,?_,?_,?_,?_,?_,?_,trivial⟩
  ·refine .inl ⟨by intro j b hjb v w h;first|(cases hjb;done)|(cases hjb;exact h),?_⟩
   intro a wv hE hF hD K hK
   exact gs_valZ rfl (yr_moveZ rfl ((hF 5 (fr_ofZ rfl)).trans rfl)) (hK _ _ rfl (Ext.refl _))
  ·refine .inl ⟨by intro j b hjb v w h;first|(cases hjb;done)|(cases hjb;exact h),?_⟩
   intro a wv hE hF hD K hK
   have u32:a.eval (.tmp 32) = .int .i64 9:=hD 0 (by kernel_rfl)
   exact gs_valZ rfl (yr_neeZ rfl u32 rfl (by decide)) (hK _ _ rfl (Ext.refl _))
  ·refine .inl ⟨by intro j b hjb v w h;first|(cases hjb;done)|(cases hjb;exact h),?_⟩
   intro a wv hE hF hD K hK
   have u33:a.eval (.tmp 33) = .bool true:=hD 1 (by kernel_rfl)
   exact gs_valZ rfl (yr_moveZ rfl u33) (hK _ _ rfl (Ext.refl _))
  ·refine .inl ⟨by intro j b hjb v w h;first|(cases hjb;done)|(cases hjb;exact h),?_⟩
   intro a wv hE hF hD K hK
   exact gs_valZ rfl (yr_moveZ rfl ((hF 5 (fr_ofZ rfl)).trans rfl)) (hK _ _ rfl (Ext.refl _))
  ·refine .inl ⟨by intro j b hjb v w h;first|(cases hjb;done)|(cases hjb;exact h),?_⟩
   intro a wv hE hF hD K hK
   have u35:a.eval (.tmp 35) = .int .i64 9:=hD 3 (by kernel_rfl)
   exact gs_valZ rfl (yr_neeZ rfl u35 rfl (by decide)) (hK _ _ rfl (Ext.refl _))
  ·refine .inl ⟨by intro j b hjb v w h;first|(cases hjb;done)|(cases hjb;exact h),?_⟩
   intro a wv hE hF hD K hK
   have u34:a.eval (.tmp 34) = .bool true:=hD 2 (by kernel_rfl)
   have u36:a.eval (.tmp 36) = .bool false:=hD 4 (by kernel_rfl)
   exact gs_valZ rfl (yr_pickZ (b:=true) rfl u34 u36) (hK _ _ rfl (Ext.refl _))
  ·refine .inl ⟨by intro j b hjb v w h;first|(cases hjb;done)|(cases hjb;exact h),?_⟩
   intro a wv hE hF hD K hK
   have u37:a.eval (.tmp 37) = .bool false:=hD 5 (by kernel_rfl)
   exact gs_valZ rfl (yr_moveZ rfl u37) (hK _ _ rfl (Ext.refl _))
  ·exact .inr ⟨_,_,rfl,fun v w h=>by first|exact .inl h|exact .inr h,fun w=>rfl⟩
  ·exact .inr ⟨_,_,rfl,fun v w h=>by first|exact .inl h|exact .inr h,fun w=>rfl⟩
  ·refine .inl ⟨by intro j b hjb v w h;first|(cases hjb;done)|(cases hjb;exact h),?_⟩
   intro a wv hE hF hD K hK
   have u38:a.eval (.tmp 38) = .bool false:=hD 6 (by kernel_rfl)
   exact gs_valZ rfl (yr_pickZ (b:=false) rfl u38 rfl) (hK _ _ rfl (Ext.refl _))
  ·refine .inl ⟨by intro j b hjb v w h;first|(cases hjb;done)|(cases hjb;exact h),?_⟩
   intro a wv hE hF hD K hK
   have u41:a.eval (.tmp 41) = .bool false:=hD 9 (by kernel_rfl)
   exact gs_valZ rfl (yr_moveZ rfl u41) (hK _ _ rfl (Ext.refl _))
  ·refine .inl ⟨by intro j b hjb v w h;first|(cases hjb;done)|(cases hjb;exact h),?_⟩
   intro a wv hE hF hD K hK
   exact gs_valZ rfl (yr_fieldZ rfl ((hF 4 (fr_ofZ rfl)).trans rfl) (fa_p0 D4 wv)) (hK _ _ rfl (Ext.refl _))
  ·refine .inl ⟨by intro j b hjb v w h;first|(cases hjb;done)|(cases hjb;exact h),?_⟩
   intro a wv hE hF hD K hK
   have u43:a.eval (.tmp 43) = .pointer (some ⟨D4,0,none⟩):=hD 11 (by kernel_rfl)
   exact gs_valZ rfl (yr_loadZ rfl u43 (lo_int D4 0 _ wv ((hE.cells _ _ hD4).trans p0))) (hK _ _ rfl (Ext.refl _))
  ·refine .inl ⟨by intro j b hjb v w h;first|(cases hjb;done)|(cases hjb;exact h),?_⟩
   intro a wv hE hF hD K hK
   have u44:a.eval (.tmp 44) = .int .i64 l:=hD 12 (by kernel_rfl)
   exact gs_valZ rfl (yr_lsiZ rfl u44 rfl hl1) (hK _ _ rfl (Ext.refl _))
  ·refine .inl ⟨by intro j b hjb v w h;first|(cases hjb;done)|(cases hjb;exact h),?_⟩
   intro a wv hE hF hD K hK
   have u42:a.eval (.tmp 42) = .bool false:=hD 10 (by kernel_rfl)
   have u45:a.eval (.tmp 45) = .bool false:=hD 13 (by kernel_rfl)
   exact gs_valZ rfl (yr_pickZ (b:=false) rfl u42 u45) (hK _ _ rfl (Ext.refl _))
  ·refine .inl ⟨by intro j b hjb v w h;first|(cases hjb;done)|(cases hjb;exact h),?_⟩
   intro a wv hE hF hD K hK
   have u46:a.eval (.tmp 46) = .bool false:=hD 14 (by kernel_rfl)
   exact gs_valZ rfl (yr_moveZ rfl u46) (hK _ _ rfl (Ext.refl _))
  ·refine .inl ⟨by intro j b hjb v w h;first|(cases hjb;done)|(cases hjb;exact h),?_⟩
   intro a wv hE hF hD K hK
   exact gs_valZ rfl (yr_fieldZ rfl ((hF 4 (fr_ofZ rfl)).trans rfl) (fa_p0 D4 wv)) (hK _ _ rfl (Ext.refl _))
  ·refine .inl ⟨by intro j b hjb v w h;first|(cases hjb;done)|(cases hjb;exact h),?_⟩
   intro a wv hE hF hD K hK
   have u48:a.eval (.tmp 48) = .pointer (some ⟨D4,0,none⟩):=hD 16 (by kernel_rfl)
   exact gs_valZ rfl (yr_loadZ rfl u48 (lo_int D4 0 _ wv ((hE.cells _ _ hD4).trans p0))) (hK _ _ rfl (Ext.refl _))
  ·refine .inl ⟨by intro j b hjb v w h;first|(cases hjb;done)|(cases hjb;exact h),?_⟩
   intro a wv hE hF hD K hK
   exact gs_valZ rfl (yr_moveZ rfl ((hF 6 (fr_ofZ rfl)).trans rfl)) (hK _ _ rfl (Ext.refl _))
  ·refine .inl ⟨by intro j b hjb v w h;first|(cases hjb;done)|(cases hjb;exact h),?_⟩
   intro a wv hE hF hD K hK
   have u50:a.eval (.tmp 50) = .slice (some ⟨D6,0,none⟩) n6 n6:=hD 18 (by kernel_rfl)
   exact gs_valZ rfl (yr_lenT rfl rfl u50) (hK _ _ rfl (Ext.refl _))
  ·refine .inl ⟨by intro j b hjb v w h;first|(cases hjb;done)|(cases hjb;exact h),?_⟩
   intro a wv hE hF hD K hK
   have u49:a.eval (.tmp 49) = .int .i64 l:=hD 17 (by kernel_rfl)
   have u51:a.eval (.tmp 51) = .int .i64 (n6:Int):=hD 19 (by kernel_rfl)
   exact gs_valZ rfl (yr_gtiZ rfl u49 u51 hl2) (hK _ _ rfl (Ext.refl _))
  ·refine .inl ⟨by intro j b hjb v w h;first|(cases hjb;done)|(cases hjb;exact h),?_⟩
   intro a wv hE hF hD K hK
   have u47:a.eval (.tmp 47) = .bool false:=hD 15 (by kernel_rfl)
   have u52:a.eval (.tmp 52) = .bool false:=hD 20 (by kernel_rfl)
   exact gs_valZ rfl (yr_pickZ (b:=false) rfl u47 u52) (hK _ _ rfl (Ext.refl _))
  ·refine .inl ⟨by intro j b hjb v w h;first|(cases hjb;done)|(cases hjb;exact h),?_⟩
   intro a wv hE hF hD K hK
   have u53:a.eval (.tmp 53) = .bool false:=hD 21 (by kernel_rfl)
   exact gs_valZ rfl (yr_moveZ rfl u53) (hK _ _ rfl (Ext.refl _))
  ·refine .inl ⟨by intro j b hjb v w h;first|(cases hjb;done)|(cases hjb;exact h),?_⟩
   intro a wv hE hF hD K hK
   exact gs_valZ rfl (yr_fieldZ rfl ((hF 4 (fr_ofZ rfl)).trans rfl) (fa_p1 D4 wv)) (hK _ _ rfl (Ext.refl _))
  ·refine .inl ⟨by intro j b hjb v w h;first|(cases hjb;done)|(cases hjb;exact h),?_⟩
   intro a wv hE hF hD K hK
   have u55:a.eval (.tmp 55) = .pointer (some ⟨D4,0+1,none⟩):=hD 23 (by kernel_rfl)
   exact gs_valZ rfl (yr_loadZ rfl u55 (lo_int D4 (0+1) _ wv ((hE.cells _ _ hD4).trans p1))) (hK _ _ rfl (Ext.refl _))
  ·refine .inl ⟨by intro j b hjb v w h;first|(cases hjb;done)|(cases hjb;exact h),?_⟩
   intro a wv hE hF hD K hK
   have u56:a.eval (.tmp 56) = .int .i64 c:=hD 24 (by kernel_rfl)
   exact gs_valZ rfl (yr_lsiZ rfl u56 rfl hc1) (hK _ _ rfl (Ext.refl _))
  ·refine .inl ⟨by intro j b hjb v w h;first|(cases hjb;done)|(cases hjb;exact h),?_⟩
   intro a wv hE hF hD K hK
   have u54:a.eval (.tmp 54) = .bool false:=hD 22 (by kernel_rfl)
   have u57:a.eval (.tmp 57) = .bool false:=hD 25 (by kernel_rfl)
   exact gs_valZ rfl (yr_pickZ (b:=false) rfl u54 u57) (hK _ _ rfl (Ext.refl _))
  ·refine .inl ⟨by intro j b hjb v w h;first|(cases hjb;done)|(cases hjb;exact h),?_⟩
   intro a wv hE hF hD K hK
   have u58:a.eval (.tmp 58) = .bool false:=hD 26 (by kernel_rfl)
   exact gs_valZ rfl (yr_moveZ rfl u58) (hK _ _ rfl (Ext.refl _))
  ·refine .inl ⟨by intro j b hjb v w h;first|(cases hjb;done)|(cases hjb;exact h),?_⟩
   intro a wv hE hF hD K hK
   exact gs_valZ rfl (yr_fieldZ rfl ((hF 4 (fr_ofZ rfl)).trans rfl) (fa_p1 D4 wv)) (hK _ _ rfl (Ext.refl _))
  ·refine .inl ⟨by intro j b hjb v w h;first|(cases hjb;done)|(cases hjb;exact h),?_⟩
   intro a wv hE hF hD K hK
   have u60:a.eval (.tmp 60) = .pointer (some ⟨D4,0+1,none⟩):=hD 28 (by kernel_rfl)
   exact gs_valZ rfl (yr_loadZ rfl u60 (lo_int D4 (0+1) _ wv ((hE.cells _ _ hD4).trans p1))) (hK _ _ rfl (Ext.refl _))
  ·refine .inl ⟨by intro j b hjb v w h;first|(cases hjb;done)|(cases hjb;exact h),?_⟩
   intro a wv hE hF hD K hK
   exact gs_valZ rfl (yr_moveZ rfl ((hF 6 (fr_ofZ rfl)).trans rfl)) (hK _ _ rfl (Ext.refl _))
  ·refine .inl ⟨by intro j b hjb v w h;first|(cases hjb;done)|(cases hjb;exact h),?_⟩
   intro a wv hE hF hD K hK
   exact gs_valZ rfl (yr_fieldZ rfl ((hF 4 (fr_ofZ rfl)).trans rfl) (fa_p0 D4 wv)) (hK _ _ rfl (Ext.refl _))
  ·refine .inl ⟨by intro j b hjb v w h;first|(cases hjb;done)|(cases hjb;exact h),?_⟩
   intro a wv hE hF hD K hK
   have u63:a.eval (.tmp 63) = .pointer (some ⟨D4,0,none⟩):=hD 31 (by kernel_rfl)
   exact gs_valZ rfl (yr_loadZ rfl u63 (lo_int D4 0 _ wv ((hE.cells _ _ hD4).trans p0))) (hK _ _ rfl (Ext.refl _))
  ·refine .inl ⟨by intro j b hjb v w h;first|(cases hjb;done)|(cases hjb;exact h),?_⟩
   intro a wv hE hF hD K hK
   have u64:a.eval (.tmp 64) = .int .i64 l:=hD 32 (by kernel_rfl)
   exact gs_valZ rfl (yr_subZ rfl u64 rfl hk6) (hK _ _ rfl (Ext.refl _))
  ·refine .inl ⟨by intro j b hjb v w h;first|(cases hjb;done)|(cases hjb;exact h),?_⟩
   intro a wv hE hF hD K hK
   have u62:a.eval (.tmp 62) = .slice (some ⟨D6,0,none⟩) n6 n6:=hD 30 (by kernel_rfl)
   have u65:a.eval (.tmp 65) = .int .i64 (k6:Int):=hD 33 (by kernel_rfl)
   exact gs_valZ rfl (yr_idxO rfl u62 u65 (ix_tx D6 n6 k6 wv hkn)) (hK _ _ rfl (Ext.refl _))
  ·refine .inl ⟨by intro j b hjb v w h;first|(cases hjb;done)|(cases hjb;exact h),?_⟩
   intro a wv hE hF hD K hK
   have u66:a.eval (.tmp 66) = .pointer (some ⟨D6,k6,none⟩):=hD 34 (by kernel_rfl)
   exact gs_valZ rfl (yr_loadZ rfl u66 (lo_strO D6 k6 _ wv ((hE.cells _ _ hD6).trans hx6))) (hK _ _ rfl (Ext.refl _))
  ·refine .inl ⟨by intro j b hjb v w h;first|(cases hjb;done)|(cases hjb;exact h),?_⟩
   intro a wv hE hF hD K hK
   have u67:a.eval (.tmp 67) = .string ⟨x6.toArray⟩:=hD 35 (by kernel_rfl)
   exact gs_valZ rfl (yr_lenS rfl rfl u67) (hK _ _ rfl (Ext.refl _))
  ·refine .inl ⟨by intro j b hjb v w h;first|(cases hjb;done)|(cases hjb;exact h),?_⟩
   intro a wv hE hF hD K hK
   have u61:a.eval (.tmp 61) = .int .i64 c:=hD 29 (by kernel_rfl)
   have u68:a.eval (.tmp 68) = .int .i64 (x6.length:Int):=hD 36 (by kernel_rfl)
   exact gs_valZ rfl (yr_gtiZ rfl u61 u68 hc2) (hK _ _ rfl (Ext.refl _))
  ·refine .inl ⟨by intro j b hjb v w h;first|(cases hjb;done)|(cases hjb;exact h),?_⟩
   intro a wv hE hF hD K hK
   have u59:a.eval (.tmp 59) = .bool false:=hD 27 (by kernel_rfl)
   have u69:a.eval (.tmp 69) = .bool false:=hD 37 (by kernel_rfl)
   exact gs_valZ rfl (yr_pickZ (b:=false) rfl u59 u69) (hK _ _ rfl (Ext.refl _))
 intro vals w9 hE9 hR9
 obtain⟨-,-,-,-,-,-,-,-,-,-,-,-,-,-,-,-,-,-,-,-,-,-,-,-,-,-,-,-,-,-,-,-,-,-,-,-,-,-,h2,-⟩:=hR9
 have e2:vals 38 = .bool false:=h2
 refine wpAny_done (by kernel_rfl) ?_ _
 simp only[putF,Act.put,List.length_cons,List.length_nil,List.getD_cons_zero,List.getD_cons_succ,List.setIfInBounds_toArray,List.set_cons_zero,List.set_cons_succ,Nat.reduceAdd,e2]
 clear e2 h2
 have hX9:=hX15.trans hE9
 go_wp2_with (first
  | (go_at_call 26;(with_reducible refine(HPb _ hX9).out.mono ?_);rintro e w20 ⟨hE20,t2,rfl⟩;have hX20:=hX9.trans hE20)
  | ((with_reducible show wpList _ _ _ (⟨some 7,.alloc _,_,_,_,_⟩::_) _ _);refine wpl_new rfl 32 zeroQ rfl alloc_q ?_;intro w21 hE21 hB21 hs21;have HS2:=Lib.hid hs21;clear hs21)
  | ((with_reducible show wpList _ _ _ (⟨some 8,.alloc _,_,_,_,_⟩::_) _ _);refine wpl_new rfl 50 [.int .i64 0,.int .i64 0] rfl alloc_p ?_;intro w22 hE22 hB22 hs22;clear hs22)
  | ((with_reducible show wpList _ _ _ (⟨none,.store _ (.tmp 7) _,_,_,_,_⟩::_) _ _);refine wpl_st rfl 32 _ _ rfl w20.heap.size zeroQ (qnS.vals t2) rfl rfl (hB21.ext hE22) rfl (info_q t2) (vals_one_q t2) ?_;intro w23 hF23 hB23;have hP23:=hB22.frm hF23 (by have q1:=HS2.out;omega))
  | ((with_reducible show wpList _ _ _ (⟨none,.store _ (.tmp 8) _,_,_,_,_⟩::_) _ _);refine wpl_st rfl 50 _ _ rfl w21.heap.size [.int .i64 0,.int .i64 0] [.int .i64 l,.int .i64 c] rfl rfl hP23 rfl poI rfl ?_;intro w24 hF24 hB24;have hY2:Ext w20 w24:=ext_frm (((Frm.of_ext (hE21.trans hE22)).step hF23 (fun k h1 h2=>by omega)).step hF24 (fun k h1 h2=>by have q1:=HS2.out;omega));have hX24:=hX20.trans hY2;clear hB21 hB22 hB23 hP23 hF23 hF24 hE21 hE22;have HP2:=Lib.hid hB24;clear hB24)
  | ((with_reducible show wpList _ _ _ (⟨some 82,.load _ _,_,_,_,_⟩::_) _ _);refine wpl_load rfl 50 _ rfl w21.heap.size 0 rfl [.int .i64 l,.int .i64 c] _ HP2.out.rd Tryz.underlying50 rfl poI ?_)
  | ((with_reducible show wpList _ _ _ (⟨some 83,.load _ _,_,_,_,_⟩::_) _ _);refine wpl_load rfl 50 _ rfl D4 0 rfl [.int .i64 l,.int .i64 c] _ (((HQ1.out.ext hE15).ext hE9).ext (hE20.trans hY2)).rd Tryz.underlying50 rfl poI ?_))
 go_ret
 exact⟨rfl,hX24⟩
theorem pl_bad5 (s:List UInt8) (w:World) (HAw:Hid (Calls Tryz.prog 12 #[] w fun e w'=>e = .returned (.bool true)∧Ext w w')) (l c:Int) (hs:¬(2000:Int)<(s.length:Int)) (hh:∀W,Ext w W→Hid (LmO W)) (hz:¬(l=0)) (k6:Nat) (x6:List UInt8) (hl1:decide (l<1)=false) (hl2':l≤(spl 10 s).length) (hc1:decide (c<1)=false) (hc2:decide ((x6.length:Int)<c)=false) (hk6:IntKind.i64.wrap (l-1)=(k6:Int)) (hkl:(spl 10 s)[k6]? = some x6) (HPa:∀W,Ext w W→Hid (Calls Tryz.prog 26 #[.string ⟨s.toArray⟩] W (PaE l c 5 W))) (HPb:∀W,Ext w W→Hid (Calls Tryz.prog 26 #[.string ((⟨s.toArray⟩:ByteArray)++(⟨#[32,115,99,97,110]⟩:ByteArray))] W (PaE l c 5 W))) :
  Calls Tryz.prog 7 #[.string ⟨s.toArray⟩] w fun e w'=>e = .returned (.bool true)∧Ext w w':=by
 have HSp:∀W,Ext w W→Hid (Calls Tryz.prog 35 #[.string ⟨s.toArray⟩,.string ⟨#[10]⟩] W fun e w'=>(∃D n,e = .returned (.slice (some ⟨D,0,none⟩) n n)∧n=(spl 10 s).length∧D<w'.heap.size∧LnB D (spl 10 s) w')∧Ext W w'):=fun W hE=>splitO_c s W (hh W hE).out (by omega)
 have hz1:¬(l=0):=hz
 have hz2:(l==0)=false:=by simpa using hz
 clear hh hz
 go_enter Tryz.func7,Tryz.ntmps7
 go_wp2_with (first
  | (go_at_call 12;(with_reducible refine HAw.out.mono ?_);rintro e w1 ⟨rfl,hE1⟩)
  | (go_at_call 26;(with_reducible refine(HPa _ hE1).out.mono ?_);rintro e w10 ⟨hE10,t1,rfl⟩;have hX10:=hE1.trans hE10)
  | ((with_reducible show wpList _ _ _ (⟨some 3,.alloc _,_,_,_,_⟩::_) _ _);refine wpl_new rfl 32 zeroQ rfl alloc_q ?_;intro w11 hE11 hB11 hs11;have HS1:=Lib.hid hs11;clear hs11)
  | ((with_reducible show wpList _ _ _ (⟨some 4,.alloc _,_,_,_,_⟩::_) _ _);refine wpl_new rfl 50 [.int .i64 0,.int .i64 0] rfl alloc_p ?_;intro w12 hE12 hB12 hs12;clear hs12)
  | ((with_reducible show wpList _ _ _ (⟨none,.store _ (.tmp 3) _,_,_,_,_⟩::_) _ _);refine wpl_st rfl 32 _ _ rfl w10.heap.size zeroQ (qnS.vals t1) rfl rfl (hB11.ext hE12) rfl (info_q t1) (vals_one_q t1) ?_;intro w13 hF13 hB13;have hP13:=hB12.frm hF13 (by have q1:=HS1.out;omega))
  | ((with_reducible show wpList _ _ _ (⟨none,.store _ (.tmp 4) _,_,_,_,_⟩::_) _ _);refine wpl_st rfl 50 _ _ rfl w11.heap.size [.int .i64 0,.int .i64 0] [.int .i64 l,.int .i64 c] rfl rfl hP13 rfl poI rfl ?_;intro w14 hF14 hB14;have hY1:Ext w10 w14:=ext_frm (((Frm.of_ext (hE11.trans hE12)).step hF13 (fun k h1 h2=>by omega)).step hF14 (fun k h1 h2=>by have q1:=HS1.out;omega));have hX14:=hX10.trans hY1;clear hB11 hB12 hB13 hP13 hF13 hF14 hE11 hE12;have HP1:=Lib.hid hB14;clear hB14)
  | ((with_reducible show wpList _ _ _ (⟨some 21,.load _ _,_,_,_,_⟩::_) _ _);refine wpl_load rfl 50 _ rfl w11.heap.size 0 rfl [.int .i64 l,.int .i64 c] _ HP1.out.rd Tryz.underlying50 rfl poI ?_)
  | (go_at_call 35;(with_reducible refine(HSp _ hX14).out.mono ?_);rintro e w15 ⟨⟨D6,n6,rfl,hn6,hD6,hL6⟩,hE15⟩;have hX15:=hX14.trans hE15))
 have hP:=HP1.out
 obtain⟨D4,hD4e⟩:∃D,D=w11.heap.size:=⟨_,rfl⟩
 obtain⟨n6,hn6⟩:∃n,n=(spl 10 s).length:=⟨_,rfl⟩
 have p0:w15.cell? ⟨w11.heap.size,0,none⟩=some (.int .i64 l):=(hE15.cells _ _ hP.hD).trans (hP.at 0 _ rfl)
 have p1:w15.cell? ⟨w11.heap.size,0+1,none⟩=some (.int .i64 c):=(hE15.cells _ _ hP.hD).trans (hP.at 1 _ rfl)
 have hD4:w11.heap.size<w15.heap.size:=hE15.lt hP.hD
 have HQ1:Hid (BxT D4 [.int .i64 l,.int .i64 c] w14):=by rw[hD4e];exact HP1
 have hx6:=hL6 k6 x6 hkl
 have hkn:k6<n6:=by rw[hn6];exact(List.getElem?_eq_some_iff.1 hkl).1
 have hl2:decide ((n6:Int)<l)=false:=by rw[hn6,decide_eq_false_iff_not];omega
 rw[←hD4e]at p0 p1 hD4 ⊢
 rw[←hn6]
 clear hP hL6 hl2' hkl hD4e hn6
 refine wp_region_growK [32,33,34,35,36,37,38,39,40,41,42,43,44,45,46,47,48,49,50,51,52,53,54,55,56,57,58,59,60,61,62,63,64,65,66,67,68,69,70] [fun x _=>x = .int .i64 5,fun x _=>x = .bool true,fun x _=>x = .bool true,fun x _=>x = .int .i64 5,fun x _=>x = .bool true,fun x _=>x = .bool true,fun x _=>x = .bool true,fun x _=>x = .int .i64 5,fun x _=>x = .bool false,fun x _=>x = .bool false,fun x _=>x = .bool false,fun x _=>x = .pointer (some ⟨D4,0,none⟩),fun x _=>x = .int .i64 l,fun x _=>x = .bool false,fun x _=>x = .bool false,fun x _=>x = .bool false,fun x _=>x = .pointer (some ⟨D4,0,none⟩),fun x _=>x = .int .i64 l,fun x _=>x = .slice (some ⟨D6,0,none⟩) n6 n6,fun x _=>x = .int .i64 (n6:Int),fun x _=>x = .bool false,fun x _=>x = .bool false,fun x _=>x = .bool false,fun x _=>x = .pointer (some ⟨D4,0+1,none⟩),fun x _=>x = .int .i64 c,fun x _=>x = .bool false,fun x _=>x = .bool false,fun x _=>x = .bool false,fun x _=>x = .pointer (some ⟨D4,0+1,none⟩),fun x _=>x = .int .i64 c,fun x _=>x = .slice (some ⟨D6,0,none⟩) n6 n6,fun x _=>x = .pointer (some ⟨D4,0,none⟩),fun x _=>x = .int .i64 l,fun x _=>x = .int .i64 (k6:Int),fun x _=>x = .pointer (some ⟨D6,k6,none⟩),fun x _=>x = .string ⟨x6.toArray⟩,fun x _=>x = .int .i64 (x6.length:Int),fun x _=>x = .bool false,fun x _=>x = .bool false] 0 (by kernel_rfl) (by kernel_rfl) (by kernel_rfl) (by kernel_rfl) ?_ ?_ ?_
 ·intro Rl hRl
  simp only[List.mem_cons,List.not_mem_nil,or_false]at hRl
  rcases hRl with rfl|rfl|rfl|rfl|rfl|rfl|rfl|rfl|rfl|rfl|rfl|rfl|rfl|rfl|rfl|rfl|rfl|rfl|rfl|rfl|rfl|rfl|rfl|rfl|rfl|rfl|rfl|rfl|rfl|rfl|rfl|rfl|rfl|rfl|rfl|rfl|rfl|rfl|rfl
  all_goals exact fun _ _ _ h _=>h
 ·refine⟨?_,?_,?_,?_,?_,?_,?_,?_,?_,?_,?_,?_,?_,?_,?_,?_,?_,?_,?_,?_,?_,?_,?_,?_,?_,?_,?_,?_,?_,?_,?_,?_,?_,?_,?_,?_,?_,?_,?_,trivial⟩
  ·refine .inl ⟨by intro j b hjb v w h;first|(cases hjb;done)|(cases hjb;exact h),?_⟩
   intro a wv hE hF hD K hK
   exact gs_valZ rfl (yr_moveZ rfl ((hF 5 (fr_ofZ rfl)).trans rfl)) (hK _ _ rfl (Ext.refl _))
  ·refine .inl ⟨by intro j b hjb v w h;first|(cases hjb;done)|(cases hjb;exact h),?_⟩
   intro a wv hE hF hD K hK
   have u32:a.eval (.tmp 32) = .int .i64 5:=hD 0 (by kernel_rfl)
   exact gs_valZ rfl (yr_neeZ rfl u32 rfl (by decide)) (hK _ _ rfl (Ext.refl _))
  ·refine .inl ⟨by intro j b hjb v w h;first|(cases hjb;done)|(cases hjb;exact h),?_⟩
   intro a wv hE hF hD K hK
   have u33:a.eval (.tmp 33) = .bool true:=hD 1 (by kernel_rfl)
   exact gs_valZ rfl (yr_moveZ rfl u33) (hK _ _ rfl (Ext.refl _))
  ·refine .inl ⟨by intro j b hjb v w h;first|(cases hjb;done)|(cases hjb;exact h),?_⟩
   intro a wv hE hF hD K hK
   exact gs_valZ rfl (yr_moveZ rfl ((hF 5 (fr_ofZ rfl)).trans rfl)) (hK _ _ rfl (Ext.refl _))
  ·refine .inl ⟨by intro j b hjb v w h;first|(cases hjb;done)|(cases hjb;exact h),?_⟩
   intro a wv hE hF hD K hK
   have u35:a.eval (.tmp 35) = .int .i64 5:=hD 3 (by kernel_rfl)
   exact gs_valZ rfl (yr_neeZ rfl u35 rfl (by decide)) (hK _ _ rfl (Ext.refl _))
  ·refine .inl ⟨by intro j b hjb v w h;first|(cases hjb;done)|(cases hjb;exact h),?_⟩
   intro a wv hE hF hD K hK
   have u34:a.eval (.tmp 34) = .bool true:=hD 2 (by kernel_rfl)
   have u36:a.eval (.tmp 36) = .bool true:=hD 4 (by kernel_rfl)
   exact gs_valZ rfl (yr_pickZ (b:=true) rfl u34 u36) (hK _ _ rfl (Ext.refl _))
  ·refine .inl ⟨by intro j b hjb v w h;first|(cases hjb;done)|(cases hjb;exact h),?_⟩
   intro a wv hE hF hD K hK
   have u37:a.eval (.tmp 37) = .bool true:=hD 5 (by kernel_rfl)
   exact gs_valZ rfl (yr_moveZ rfl u37) (hK _ _ rfl (Ext.refl _))
  ·refine .inl ⟨by intro j b hjb v w h;first|(cases hjb;done)|(cases hjb;exact h),?_⟩
   intro a wv hE hF hD K hK
   exact gs_valZ rfl (yr_moveZ rfl ((hF 5 (fr_ofZ rfl)).trans rfl)) (hK _ _ rfl (Ext.refl _))
  ·refine .inl ⟨by intro j b hjb v w h;first|(cases hjb;done)|(cases hjb;exact h),?_⟩
   intro a wv hE hF hD K hK
   have u39:a.eval (.tmp 39) = .int .i64 5:=hD 7 (by kernel_rfl)
   exact gs_valZ rfl (yr_neeZ rfl u39 rfl (by decide)) (hK _ _ rfl (Ext.refl _))
  ·refine .inl ⟨by intro j b hjb v w h;first|(cases hjb;done)|(cases hjb;exact h),?_⟩
   intro a wv hE hF hD K hK
   have u38:a.eval (.tmp 38) = .bool true:=hD 6 (by kernel_rfl)
   have u40:a.eval (.tmp 40) = .bool false:=hD 8 (by kernel_rfl)
   exact gs_valZ rfl (yr_pickZ (b:=true) rfl u38 u40) (hK _ _ rfl (Ext.refl _))
  ·refine .inl ⟨by intro j b hjb v w h;first|(cases hjb;done)|(cases hjb;exact h),?_⟩
   intro a wv hE hF hD K hK
   have u41:a.eval (.tmp 41) = .bool false:=hD 9 (by kernel_rfl)
   exact gs_valZ rfl (yr_moveZ rfl u41) (hK _ _ rfl (Ext.refl _))
  ·refine .inl ⟨by intro j b hjb v w h;first|(cases hjb;done)|(cases hjb;exact h),?_⟩
   intro a wv hE hF hD K hK
   exact gs_valZ rfl (yr_fieldZ rfl ((hF 4 (fr_ofZ rfl)).trans rfl) (fa_p0 D4 wv)) (hK _ _ rfl (Ext.refl _))
  ·refine .inl ⟨by intro j b hjb v w h;first|(cases hjb;done)|(cases hjb;exact h),?_⟩
   intro a wv hE hF hD K hK
   have u43:a.eval (.tmp 43) = .pointer (some ⟨D4,0,none⟩):=hD 11 (by kernel_rfl)
   exact gs_valZ rfl (yr_loadZ rfl u43 (lo_int D4 0 _ wv ((hE.cells _ _ hD4).trans p0))) (hK _ _ rfl (Ext.refl _))
  ·refine .inl ⟨by intro j b hjb v w h;first|(cases hjb;done)|(cases hjb;exact h),?_⟩
   intro a wv hE hF hD K hK
   have u44:a.eval (.tmp 44) = .int .i64 l:=hD 12 (by kernel_rfl)
   exact gs_valZ rfl (yr_lsiZ rfl u44 rfl hl1) (hK _ _ rfl (Ext.refl _))
  ·refine .inl ⟨by intro j b hjb v w h;first|(cases hjb;done)|(cases hjb;exact h),?_⟩
   intro a wv hE hF hD K hK
   have u42:a.eval (.tmp 42) = .bool false:=hD 10 (by kernel_rfl)
   have u45:a.eval (.tmp 45) = .bool false:=hD 13 (by kernel_rfl)
   exact gs_valZ rfl (yr_pickZ (b:=false) rfl u42 u45) (hK _ _ rfl (Ext.refl _))
  ·refine .inl ⟨by intro j b hjb v w h;first|(cases hjb;done)|(cases hjb;exact h),?_⟩
   intro a wv hE hF hD K hK
   have u46:a.eval (.tmp 46) = .bool false:=hD 14 (by kernel_rfl)
   exact gs_valZ rfl (yr_moveZ rfl u46) (hK _ _ rfl (Ext.refl _))
  ·refine .inl ⟨by intro j b hjb v w h;first|(cases hjb;done)|(cases hjb;exact h),?_⟩
   intro a wv hE hF hD K hK
   exact gs_valZ rfl (yr_fieldZ rfl ((hF 4 (fr_ofZ rfl)).trans rfl) (fa_p0 D4 wv)) (hK _ _ rfl (Ext.refl _))
  ·refine .inl ⟨by intro j b hjb v w h;first|(cases hjb;done)|(cases hjb;exact h),?_⟩
   intro a wv hE hF hD K hK
   have u48:a.eval (.tmp 48) = .pointer (some ⟨D4,0,none⟩):=hD 16 (by kernel_rfl)
   exact gs_valZ rfl (yr_loadZ rfl u48 (lo_int D4 0 _ wv ((hE.cells _ _ hD4).trans p0))) (hK _ _ rfl (Ext.refl _))
  ·refine .inl ⟨by intro j b hjb v w h;first|(cases hjb;done)|(cases hjb;exact h),?_⟩
   intro a wv hE hF hD K hK
   exact gs_valZ rfl (yr_moveZ rfl ((hF 6 (fr_ofZ rfl)).trans rfl)) (hK _ _ rfl (Ext.refl _))
  ·refine .inl ⟨by intro j b hjb v w h;first|(cases hjb;done)|(cases hjb;exact h),?_⟩
   intro a wv hE hF hD K hK
   have u50:a.eval (.tmp 50) = .slice (some ⟨D6,0,none⟩) n6 n6:=hD 18 (by kernel_rfl)
   exact gs_valZ rfl (yr_lenT rfl rfl u50) (hK _ _ rfl (Ext.refl _))
  ·refine .inl ⟨by intro j b hjb v w h;first|(cases hjb;done)|(cases hjb;exact h),?_⟩
   intro a wv hE hF hD K hK
   have u49:a.eval (.tmp 49) = .int .i64 l:=hD 17 (by kernel_rfl)
   have u51:a.eval (.tmp 51) = .int .i64 (n6:Int):=hD 19 (by kernel_rfl)
   exact gs_valZ rfl (yr_gtiZ rfl u49 u51 hl2) (hK _ _ rfl (Ext.refl _))
  ·refine .inl ⟨by intro j b hjb v w h;first|(cases hjb;done)|(cases hjb;exact h),?_⟩
   intro a wv hE hF hD K hK
   have u47:a.eval (.tmp 47) = .bool false:=hD 15 (by kernel_rfl)
   have u52:a.eval (.tmp 52) = .bool false:=hD 20 (by kernel_rfl)
   exact gs_valZ rfl (yr_pickZ (b:=false) rfl u47 u52) (hK _ _ rfl (Ext.refl _))
  ·refine .inl ⟨by intro j b hjb v w h;first|(cases hjb;done)|(cases hjb;exact h),?_⟩
   intro a wv hE hF hD K hK
   have u53:a.eval (.tmp 53) = .bool false:=hD 21 (by kernel_rfl)
   exact gs_valZ rfl (yr_moveZ rfl u53) (hK _ _ rfl (Ext.refl _))
  ·refine .inl ⟨by intro j b hjb v w h;first|(cases hjb;done)|(cases hjb;exact h),?_⟩
   intro a wv hE hF hD K hK
   exact gs_valZ rfl (yr_fieldZ rfl ((hF 4 (fr_ofZ rfl)).trans rfl) (fa_p1 D4 wv)) (hK _ _ rfl (Ext.refl _))
  ·refine .inl ⟨by intro j b hjb v w h;first|(cases hjb;done)|(cases hjb;exact h),?_⟩
   intro a wv hE hF hD K hK
   have u55:a.eval (.tmp 55) = .pointer (some ⟨D4,0+1,none⟩):=hD 23 (by kernel_rfl)
   exact gs_valZ rfl (yr_loadZ rfl u55 (lo_int D4 (0+1) _ wv ((hE.cells _ _ hD4).trans p1))) (hK _ _ rfl (Ext.refl _))
  ·refine .inl ⟨by intro j b hjb v w h;first|(cases hjb;done)|(cases hjb;exact h),?_⟩
   intro a wv hE hF hD K hK
   have u56:a.eval (.tmp 56) = .int .i64 c:=hD 24 (by kernel_rfl)
   exact gs_valZ rfl (yr_lsiZ rfl u56 rfl hc1) (hK _ _ rfl (Ext.refl _))
  ·refine .inl ⟨by intro j b hjb v w h;first|(cases hjb;done)|(cases hjb;exact h),?_⟩
   intro a wv hE hF hD K hK
   have u54:a.eval (.tmp 54) = .bool false:=hD 22 (by kernel_rfl)
   have u57:a.eval (.tmp 57) = .bool false:=hD 25 (by kernel_rfl)
   exact gs_valZ rfl (yr_pickZ (b:=false) rfl u54 u57) (hK _ _ rfl (Ext.refl _))
  ·refine .inl ⟨by intro j b hjb v w h;first|(cases hjb;done)|(cases hjb;exact h),?_⟩
   intro a wv hE hF hD K hK
   have u58:a.eval (.tmp 58) = .bool false:=hD 26 (by kernel_rfl)
   exact gs_valZ rfl (yr_moveZ rfl u58) (hK _ _ rfl (Ext.refl _))
  ·refine .inl ⟨by intro j b hjb v w h;first|(cases hjb;done)|(cases hjb;exact h),?_⟩
   intro a wv hE hF hD K hK
   exact gs_valZ rfl (yr_fieldZ rfl ((hF 4 (fr_ofZ rfl)).trans rfl) (fa_p1 D4 wv)) (hK _ _ rfl (Ext.refl _))
  ·refine .inl ⟨by intro j b hjb v w h;first|(cases hjb;done)|(cases hjb;exact h),?_⟩
   intro a wv hE hF hD K hK
   have u60:a.eval (.tmp 60) = .pointer (some ⟨D4,0+1,none⟩):=hD 28 (by kernel_rfl)
   exact gs_valZ rfl (yr_loadZ rfl u60 (lo_int D4 (0+1) _ wv ((hE.cells _ _ hD4).trans p1))) (hK _ _ rfl (Ext.refl _))
  ·refine .inl ⟨by intro j b hjb v w h;first|(cases hjb;done)|(cases hjb;exact h),?_⟩
   intro a wv hE hF hD K hK
   exact gs_valZ rfl (yr_moveZ rfl ((hF 6 (fr_ofZ rfl)).trans rfl)) (hK _ _ rfl (Ext.refl _))
  ·refine .inl ⟨by intro j b hjb v w h;first|(cases hjb;done)|(cases hjb;exact h),?_⟩
   intro a wv hE hF hD K hK
   exact gs_valZ rfl (yr_fieldZ rfl ((hF 4 (fr_ofZ rfl)).trans rfl) (fa_p0 D4 wv)) (hK _ _ rfl (Ext.refl _))
  ·refine .inl ⟨by intro j b hjb v w h;first|(cases hjb;done)|(cases hjb;exact h),?_⟩
   intro a wv hE hF hD K hK
   have u63:a.eval (.tmp 63) = .pointer (some ⟨D4,0,none⟩):=hD 31 (by kernel_rfl)
   exact gs_valZ rfl (yr_loadZ rfl u63 (lo_int D4 0 _ wv ((hE.cells _ _ hD4).trans p0))) (hK _ _ rfl (Ext.refl _))
  ·refine .inl ⟨by intro j b hjb v w h;first|(cases hjb;done)|(cases hjb;exact h),?_⟩
   intro a wv hE hF hD K hK
   have u64:a.eval (.tmp 64) = .int .i64 l:=hD 32 (by kernel_rfl)
   exact gs_valZ rfl (yr_subZ rfl u64 rfl hk6) (hK _ _ rfl (Ext.refl _))
  ·refine .inl ⟨by intro j b hjb v w h;first|(cases hjb;done)|(cases hjb;exact h),?_⟩
   intro a wv hE hF hD K hK
   have u62:a.eval (.tmp 62) = .slice (some ⟨D6,0,none⟩) n6 n6:=hD 30 (by kernel_rfl)
   have u65:a.eval (.tmp 65) = .int .i64 (k6:Int):=hD 33 (by kernel_rfl)
   exact gs_valZ rfl (yr_idxO rfl u62 u65 (ix_tx D6 n6 k6 wv hkn)) (hK _ _ rfl (Ext.refl _))
  ·refine .inl ⟨by intro j b hjb v w h;first|(cases hjb;done)|(cases hjb;exact h),?_⟩
   intro a wv hE hF hD K hK
   have u66:a.eval (.tmp 66) = .pointer (some ⟨D6,k6,none⟩):=hD 34 (by kernel_rfl)
   exact gs_valZ rfl (yr_loadZ rfl u66 (lo_strO D6 k6 _ wv ((hE.cells _ _ hD6).trans hx6))) (hK _ _ rfl (Ext.refl _))
  ·refine .inl ⟨by intro j b hjb v w h;first|(cases hjb;done)|(cases hjb;exact h),?_⟩
   intro a wv hE hF hD K hK
   have u67:a.eval (.tmp 67) = .string ⟨x6.toArray⟩:=hD 35 (by kernel_rfl)
   exact gs_valZ rfl (yr_lenS rfl rfl u67) (hK _ _ rfl (Ext.refl _))
  ·refine .inl ⟨by intro j b hjb v w h;first|(cases hjb;done)|(cases hjb;exact h),?_⟩
   intro a wv hE hF hD K hK
   have u61:a.eval (.tmp 61) = .int .i64 c:=hD 29 (by kernel_rfl)
   have u68:a.eval (.tmp 68) = .int .i64 (x6.length:Int):=hD 36 (by kernel_rfl)
   exact gs_valZ rfl (yr_gtiZ rfl u61 u68 hc2) (hK _ _ rfl (Ext.refl _))
  ·refine .inl ⟨by intro j b hjb v w h;first|(cases hjb;done)|(cases hjb;exact h),?_⟩
   intro a wv hE hF hD K hK
   have u59:a.eval (.tmp 59) = .bool false:=hD 27 (by kernel_rfl)
   have u69:a.eval (.tmp 69) = .bool false:=hD 37 (by kernel_rfl)
   exact gs_valZ rfl (yr_pickZ (b:=false) rfl u59 u69) (hK _ _ rfl (Ext.refl _))
 intro vals w9 hE9 hR9
 obtain⟨-,-,-,-,-,-,-,-,-,-,-,-,-,-,-,-,-,-,-,-,-,-,-,-,-,-,-,-,-,-,-,-,-,-,-,-,-,-,h2,-⟩:=hR9
 have e2:vals 38 = .bool false:=h2
 refine wpAny_done (by kernel_rfl) ?_ _
 simp only[putF,Act.put,List.length_cons,List.length_nil,List.getD_cons_zero,List.getD_cons_succ,List.setIfInBounds_toArray,List.set_cons_zero,List.set_cons_succ,Nat.reduceAdd,e2]
 clear e2 h2
 have hX9:=hX15.trans hE9
 go_wp2_with (first
  | (go_at_call 26;(with_reducible refine(HPb _ hX9).out.mono ?_);rintro e w20 ⟨hE20,t2,rfl⟩;have hX20:=hX9.trans hE20)
  | ((with_reducible show wpList _ _ _ (⟨some 7,.alloc _,_,_,_,_⟩::_) _ _);refine wpl_new rfl 32 zeroQ rfl alloc_q ?_;intro w21 hE21 hB21 hs21;have HS2:=Lib.hid hs21;clear hs21)
  | ((with_reducible show wpList _ _ _ (⟨some 8,.alloc _,_,_,_,_⟩::_) _ _);refine wpl_new rfl 50 [.int .i64 0,.int .i64 0] rfl alloc_p ?_;intro w22 hE22 hB22 hs22;clear hs22)
  | ((with_reducible show wpList _ _ _ (⟨none,.store _ (.tmp 7) _,_,_,_,_⟩::_) _ _);refine wpl_st rfl 32 _ _ rfl w20.heap.size zeroQ (qnS.vals t2) rfl rfl (hB21.ext hE22) rfl (info_q t2) (vals_one_q t2) ?_;intro w23 hF23 hB23;have hP23:=hB22.frm hF23 (by have q1:=HS2.out;omega))
  | ((with_reducible show wpList _ _ _ (⟨none,.store _ (.tmp 8) _,_,_,_,_⟩::_) _ _);refine wpl_st rfl 50 _ _ rfl w21.heap.size [.int .i64 0,.int .i64 0] [.int .i64 l,.int .i64 c] rfl rfl hP23 rfl poI rfl ?_;intro w24 hF24 hB24;have hY2:Ext w20 w24:=ext_frm (((Frm.of_ext (hE21.trans hE22)).step hF23 (fun k h1 h2=>by omega)).step hF24 (fun k h1 h2=>by have q1:=HS2.out;omega));have hX24:=hX20.trans hY2;clear hB21 hB22 hB23 hP23 hF23 hF24 hE21 hE22;have HP2:=Lib.hid hB24;clear hB24)
  | ((with_reducible show wpList _ _ _ (⟨some 82,.load _ _,_,_,_,_⟩::_) _ _);refine wpl_load rfl 50 _ rfl w21.heap.size 0 rfl [.int .i64 l,.int .i64 c] _ HP2.out.rd Tryz.underlying50 rfl poI ?_)
  | ((with_reducible show wpList _ _ _ (⟨some 83,.load _ _,_,_,_,_⟩::_) _ _);refine wpl_load rfl 50 _ rfl D4 0 rfl [.int .i64 l,.int .i64 c] _ (((HQ1.out.ext hE15).ext hE9).ext (hE20.trans hY2)).rd Tryz.underlying50 rfl poI ?_))
 go_ret
 exact⟨rfl,hX24⟩
theorem bytes_sfx (s:List UInt8):((⟨s.toArray⟩:ByteArray)++(⟨#[32,115,99,97,110]⟩:ByteArray))=⟨(s++sfx).toArray⟩:=by
 rw[ByteArray.ext_iff,ByteArray.data_append]
 apply Array.ext'
 simp[sfx,wScan]
theorem wrapO_n (n:Nat) (h:n≤1000000):IntKind.i64.wrap (n:Int)=(n:Int):=by
 have h2:(n:Int)≤1000000:=by omega
 simp[IntKind.wrap,IntKind.bits]
 omega
theorem spl_countO (c:UInt8) (l:List UInt8):(spl c l).length≤l.length+1:=by
 induction l with
 | nil=>simp[spl]
 | cons d r ih=>
   by_cases hd:d=c
   ·rw[spl,if_pos hd];simp;omega
   ·obtain⟨y,t,e1,e2⟩:=spl_cons c d r hd
    rw[e2]
    rw[e1]at ih
    simp at ih ⊢;omega
theorem pab_of {w:World} {s:List UInt8} {X:ByteArray} {l c er:Int} (hX:X=⟨s.toArray⟩) (hs:s.length≤3000) (hr:RsvB w.heap.size w) (h:paQ untZ s = .bad l c er):∀W,Ext w W→Hid (Calls Tryz.prog 26 #[.string X] W (PaE l c er W)):=fun W hE=>by
 have q:=qparse_c s W (by omega) ((hr.ext hE).up hE.size)
 rw[h]at q
 rw[hX]
 exact q.mono fun e w' h=>pav_bad h
theorem places_c (s:List UInt8) (w:World) (hr:RsvB w.heap.size w) (hm:LmO w):Calls Tryz.prog 7 #[.string ⟨s.toArray⟩] w fun e w'=>e = .returned (.bool true)∧Ext w w':=by
 have HAw:=Lib.hid (awake40_c w hr hm)
 by_cases hs:(2000:Int)<(s.length:Int)
 ·exact pl_long s w HAw hs
 have hn:s.length≤2000:=by omega
 have hlaw:=plc_law (mom:=untZ) s hn
 cases hq:paQ untZ s with
 | ok q i=>
   refine pl_zero s w HAw 0 hs rfl rfl fun W hE=>?_
   have h:=qparse_c s W (by omega) ((hr.ext hE).up hE.size)
   rw[hq]at h
   exact h.mono fun e w' h=>pav_ok h
 | bad l c er=>
   rw[hq]at hlaw
   have HPa:=pab_of (X:=⟨s.toArray⟩) rfl (by omega) hr hq
   rcases hlaw with⟨rfl,rfl,h3,h9⟩|⟨he,hi,h2⟩
   ·exact pl_zero s w HAw er hs (by simpa using h3) (by simpa using h9) HPa
   ·obtain⟨g1,g2,g3,x,g4,g5⟩:=inP_law hi
    have hsl:(s++sfx).length≤3000:=by rw[List.length_append];simp only[sfx,wScan,List.length_cons,List.length_nil];omega
    have HPb:=pab_of (bytes_sfx s) hsl hr h2
    have hsp:=spl_countO 10 s
    have hw:IntKind.i64.wrap (l-1)=(((l-1).toNat:Nat):Int):=by
     have hq:=wrapO_n (l-1).toNat (by omega)
     rw[show (((l-1).toNat:Nat):Int)=l-1 by omega]at hq ⊢
     exact hq
    have a1:decide (l<1)=false:=by rw[decide_eq_false_iff_not];omega
    have a2:decide (c<1)=false:=by rw[decide_eq_false_iff_not];omega
    have a3:decide ((x.length:Int)<c)=false:=by rw[decide_eq_false_iff_not];omega
    have hh:∀W,Ext w W→Hid (LmO W):=fun W hE=>hm.ext hE
    rcases he with rfl|rfl|rfl
    ·exact pl_bad3 s w HAw l c hs hh (by omega) _ x a1 g2 a2 a3 hw g4 HPa HPb
    ·exact pl_bad9 s w HAw l c hs hh (by omega) _ x a1 g2 a2 a3 hw g4 HPa HPb
    ·exact pl_bad5 s w HAw l c hs hh (by omega) _ x a1 g2 a2 a3 hw g4 HPa HPb
end Go.Proofs.YtlmeinikknoeeaaGreatDoor
