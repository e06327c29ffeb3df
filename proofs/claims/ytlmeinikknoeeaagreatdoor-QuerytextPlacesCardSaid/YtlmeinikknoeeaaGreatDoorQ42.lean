/- Queries: the walk of printed at and, or. -/
import Derived.Test.YtlmeinikknoeeaaGreatDoorQ41
namespace Go.Proofs.YtlmeinikknoeeaaGreatDoor
set_option maxRecDepth 100000
set_option maxHeartbeats 1000000
set_option linter.unusedVariables false
set_option linter.unnecessarySimpa false
set_option linter.unusedSimpArgs false
open Go.RowKit
def KsR (ks:List Int) (x:Value) (W:World):Prop:=∃R,x = .slice (some ⟨R,0,none⟩) ks.length ks.length∧R<W.heap.size∧∀i (h:i<ks.length),W.cell? ⟨R,i,none⟩=some (.int .i64 ks[i])
theorem KsR.ext {ks:List Int} {x:Value} {w w':World} (h:KsR ks x w) (hE:Ext w w'):KsR ks x w':=by
 obtain⟨R,e,hR,hc⟩:=h
 exact⟨R,e,hE.lt hR,fun i hi=>(hE.cells _ _ hR).trans (hc i hi)⟩
theorem KsR.new1 (a:Int) (w:World):KsR [a] (.slice (some ⟨w.heap.size,0,none⟩) 1 1) (w.alloc (.cells #[.int .i64 a] 3)):=by
 have h:=BxT.new w [.int .i64 a] 3
 exact⟨_,rfl,h.hD,fun i hi=>by
  obtain rfl:i=0:=by simpa using hi
  exact h.at 0 _ rfl⟩
theorem KsR.new2 (a b:Int) (w:World):KsR [a,b] (.slice (some ⟨w.heap.size,0,none⟩) 2 2) (w.alloc (.cells #[.int .i64 a,.int .i64 b] 3)):=by
 have h:=BxT.new w [.int .i64 a,.int .i64 b] 3
 exact⟨_,rfl,h.hD,fun i hi=>by
  have hi:i<2:=hi
  rcases (by omega:i=0∨i=1)with rfl|rfl
  ·exact h.at 0 _ rfl
  ·exact h.at 1 _ rfl⟩
theorem bsk1 (a:Int) (w:World):(Instr.buildSlice 167 1 #[(0,.int .i64 a)]).run Tryz.prog w = .ok (.slice (some ⟨w.heap.size,0,none⟩) 1 1) (w.alloc (.cells #[.int .i64 a] 3)):=by kernel_rfl
theorem bsk2 (a b:Int) (w:World):(Instr.buildSlice 167 2 #[(0,.int .i64 a),(1,.int .i64 b)]).run Tryz.prog w = .ok (.slice (some ⟨w.heap.size,0,none⟩) 2 2) (w.alloc (.cells #[.int .i64 a,.int .i64 b] 3)):=by kernel_rfl
theorem fa_c4 (B:Nat) (w:World):(Instr.fieldAt 27 (.pointer (some ⟨B,0,none⟩)) 4).run Tryz.prog w = .ok (.pointer (some ⟨B,6,none⟩)) w:=by go_simp
theorem lo_slc (D o:Nat) (v:Value) (w:World) (h:w.cell? ⟨D,o,none⟩=some v):(Instr.loadAt 25 (.pointer (some ⟨D,o,none⟩))).run Tryz.prog w = .ok v w:=by simp[go_sem,h]
theorem lo_cnd (R o:Nat) (t:Cnd) (w:World) (h:w.rangeAt R o (cdS.vals t)):(Instr.loadAt 27 (.pointer (some ⟨R,o,none⟩))).run Tryz.prog w = .ok (.agg (cdS.vals t).toArray) w:=run_loadAt_mid w R o 27 (cdS.vals t) _ h Tryz.underlying27 rfl (info_c t)
theorem ix_c0 (B O c:Nat) (w:World):(Instr.indexAt 25 (.slice (some ⟨B,O,none⟩) 2 c) (.int .i64 0)).run Tryz.prog w = .ok (.pointer (some ⟨B,O,none⟩)) w:=by go_simp
theorem ix_c1 (B O c:Nat) (w:World):(Instr.indexAt 25 (.slice (some ⟨B,O,none⟩) 2 c) (.int .i64 1)).run Tryz.prog w = .ok (.pointer (some ⟨B,O+7,none⟩)) w:=by go_simp
theorem yr_idxO {P:Program} {o:Oper} {a:Act} {w:World} {t:TypeId} {x y:Operand} {u z v:Value} (hop:o.op = .indexAddr t x y) (hx:a.eval x=u) (hy:a.eval y=z) (hrun:(Instr.indexAt t u z).run P w = .ok v w):(execOp a.eval o).run P w = .ok (.value v) w:=by
 unfold execOp;simp[hop,hx,hy,hrun,Result.andThen]
theorem yr_callvO {P:Program} {o:Oper} {a:Act} {w:World} {x:Operand} {xs:Array Operand} {ts:Array TypeId} {f:FuncId} {args:Array Value} (hop:o.op = .call ⟨.value x,xs,ts⟩) (hv:a.eval x = .func (.func f) #[] #[]) (hx:xs.map a.eval=args) (hf:(callFunc f args).run P w = .ok (.enter f args) w):(execOp a.eval o).run P w = .ok (.enter f args) w:=by
 subst hx
 generalize a.eval=r at hv hf ⊢
 unfold execOp
 simp[hop,resolve,Deferred.ofValue,invoke,hv,go_sem,hf]
theorem yr_addO {P:Program} {o:Oper} {a:Act} {w:World} {t t2:TypeId} {x y:Operand} {A B:List UInt8} (hop:o.op = .binOp .add t x y t2) (hx:a.eval x = .string ⟨A.toArray⟩) (hy:a.eval y = .string ⟨B.toArray⟩) (hl:A.length+B.length≤1000000000000):(execOp a.eval o).run P w = .ok (.value (.string ⟨(A++B).toArray⟩)) w:=by
 have e:(⟨(A++B).toArray⟩:ByteArray)=⟨A.toArray⟩++⟨B.toArray⟩:=by apply ByteArray.ext;simp
 have hl2:(⟨A.toArray⟩:ByteArray).size+(⟨B.toArray⟩:ByteArray).size≤1000000000000:=by
  show A.toArray.size+B.toArray.size≤_
  simpa using hl
 rw[e]
 generalize (⟨A.toArray⟩:ByteArray)=A2 at *
 generalize (⟨B.toArray⟩:ByteArray)=B2 at *
 have h2:(A2++B2).size=A2.size+B2.size:=ByteArray.size_append
 have h3:A2.size+B2.size≤maxLen:=by unfold maxLen;omega
 unfold execOp
 simp only[hop,hx,hy]
 have h4:(A2++B2).size≤maxLen:=by omega
 have h5:¬9223372036854775807<A2.size+B2.size:=by omega
 simp[Result.andThen,go_sem,h4,h5,eqGuard]
def OpT (t:Cnd) (ks:List Int) (P:List UInt8) (w:World):Prop:=∀(ko:Option Addr) (kc:Nat) (wx:World),Ext w wx→KsV ko kc ks wx→Calls Tryz.prog 132 #[.agg (cdS.vals t).toArray,.slice ko ks.length kc] wx fun e w'=>e = .returned (.string ⟨P.toArray⟩)∧Ext wx w'
theorem prn_and {col oth:List UInt8} {vk vn:Int} {vs:List UInt8} {R off cap:Nat} (ta tb:Cnd) (P1 P2:List UInt8) (w:World) (hR:R<w.heap.size) (hca:w.rangeAt R off (cdS.vals ta)) (hcb:w.rangeAt R (off+7) (cdS.vals tb)) (h1:P1.length≤100000) (h2:P2.length≤100000) (ho1:OpT ta [6] P1 w) (ho2:OpT tb [6,5] P2 w) :
  Calls Tryz.prog 63 #[.agg (cdS.vals (.mk ⟨⟨5,col,oth,vk,vn,vs⟩,some ⟨R,off,none⟩,cap⟩ [ta,tb])).toArray] w fun e w'=>e = .returned (.string ⟨(P1 ++ [32,97,110,100,32]++P2).toArray⟩)∧Ext w w':=by
 have hE0:Ext w (w.alloc (.cells (cdS.vals (.mk ⟨⟨5,col,oth,vk,vn,vs⟩,some ⟨R,off,none⟩,cap⟩ [ta,tb])).toArray 27)):=(Ext.refl w).alloc _
 have hB:=BxT.new w (cdS.vals (.mk ⟨⟨5,col,oth,vk,vn,vs⟩,some ⟨R,off,none⟩,cap⟩ [ta,tb])) 27
 have c0:(w.alloc (.cells (cdS.vals (.mk ⟨⟨5,col,oth,vk,vn,vs⟩,some ⟨R,off,none⟩,cap⟩ [ta,tb])).toArray 27)).cell? ⟨w.heap.size,0,none⟩=some (.int .i64 5):=hB.at 0 _ rfl
 have c6:(w.alloc (.cells (cdS.vals (.mk ⟨⟨5,col,oth,vk,vn,vs⟩,some ⟨R,off,none⟩,cap⟩ [ta,tb])).toArray 27)).cell? ⟨w.heap.size,6,none⟩=some (.slice (some ⟨R,off,none⟩) 2 cap):=hB.at 6 _ rfl
 have hbx:=hB.hD
 have hR0:=hE0.lt hR
 have Ra:Hid ((w.alloc (.cells (cdS.vals (.mk ⟨⟨5,col,oth,vk,vn,vs⟩,some ⟨R,off,none⟩,cap⟩ [ta,tb])).toArray 27)).rangeAt R off (cdS.vals ta)):=fun j v hv=>(hE0.cells _ _ hR).trans (hca j v hv)
 have Rb:Hid ((w.alloc (.cells (cdS.vals (.mk ⟨⟨5,col,oth,vk,vn,vs⟩,some ⟨R,off,none⟩,cap⟩ [ta,tb])).toArray 27)).rangeAt R (off+7) (cdS.vals tb)):=fun j v hv=>(hE0.cells _ _ hR).trans (hcb j v hv)
 have HO1:=Lib.hid ho1
 have HO2:=Lib.hid ho2
 clear hB hca hcb ho1 ho2
 go_enter Tryz.func63,Tryz.ntmps63
 go_wp2_with fail
 refine wp_region_growK [21,22,23,24,25,26,27,28,29,30,31,32,33,34,35,36,2] [fun x _=>x = .func (.func 132) #[] #[],fun x _=>x = .pointer (some ⟨w.heap.size,6,none⟩),fun x _=>x = .slice (some ⟨R,off,none⟩) 2 cap,fun x _=>x = .pointer (some ⟨R,off,none⟩),fun x _=>x = .agg (cdS.vals ta).toArray,KsR [6],fun x _=>x = .string ⟨P1.toArray⟩,fun x _=>x = .string ⟨(P1 ++ [32,97,110,100,32]).toArray⟩,fun x _=>x = .func (.func 132) #[] #[],fun x _=>x = .pointer (some ⟨w.heap.size,6,none⟩),fun x _=>x = .slice (some ⟨R,off,none⟩) 2 cap,fun x _=>x = .pointer (some ⟨R,off+7,none⟩),fun x _=>x = .agg (cdS.vals tb).toArray,KsR [6,5],fun x _=>x = .string ⟨P2.toArray⟩,fun x _=>x = .string ⟨(P1 ++ [32,97,110,100,32]++P2).toArray⟩,fun x _=>x = .string ⟨(P1 ++ [32,97,110,100,32]++P2).toArray⟩] 0 (by kernel_rfl) (by kernel_rfl) (by kernel_rfl) (by kernel_rfl) ?_ ?_ ?_
 ·intro Rl hRl
  simp only[List.mem_cons,List.not_mem_nil,or_false]at hRl
  rcases hRl with rfl|rfl|rfl|rfl|rfl|rfl|rfl|rfl|rfl|rfl|rfl|rfl|rfl|rfl|rfl|rfl|rfl
  all_goals first
   | exact fun _ _ _ h _=>h
   | exact fun _ _ _ h hE=>KsR.ext h hE
 ·refine⟨?_,?_,?_,?_,?_,?_,?_,?_,?_,?_,?_,?_,?_,?_,?_,?_,?_,trivial⟩
  ·refine .inl ⟨by intro j b hjb v w h;first|(cases hjb;done)|(cases hjb;exact h),?_⟩
   intro a wv hE hF hD K hK
   exact gs_valZ rfl (yr_moveZ rfl ((hF 3 (fr_ofZ rfl)).trans rfl)) (hK _ _ rfl (Ext.refl _))
  ·refine .inl ⟨by intro j b hjb v w h;first|(cases hjb;done)|(cases hjb;exact h),?_⟩
   intro a wv hE hF hD K hK
   exact gs_valZ rfl (yr_fieldZ rfl ((hF 1 (fr_ofZ rfl)).trans rfl) (fa_c4 w.heap.size wv)) (hK _ _ rfl (Ext.refl _))
  ·refine .inl ⟨by intro j b hjb v w h;first|(cases hjb;done)|(cases hjb;exact h),?_⟩
   intro a wv hE hF hD K hK
   have u22:a.eval (.tmp 22) = .pointer (some ⟨w.heap.size,6,none⟩):=hD 1 (by kernel_rfl)
   exact gs_valZ rfl (yr_loadZ rfl u22 (lo_slc w.heap.size 6 _ wv ((hE.cells _ _ hbx).trans c6))) (hK _ _ rfl (Ext.refl _))
  ·refine .inl ⟨by intro j b hjb v w h;first|(cases hjb;done)|(cases hjb;exact h),?_⟩
   intro a wv hE hF hD K hK
   have u23:a.eval (.tmp 23) = .slice (some ⟨R,off,none⟩) 2 cap:=hD 2 (by kernel_rfl)
   exact gs_valZ rfl (yr_idxO rfl u23 rfl (ix_c0 R off cap wv)) (hK _ _ rfl (Ext.refl _))
  ·refine .inl ⟨by intro j b hjb v w h;first|(cases hjb;done)|(cases hjb;exact h),?_⟩
   intro a wv hE hF hD K hK
   have u24:a.eval (.tmp 24) = .pointer (some ⟨R,off,none⟩):=hD 3 (by kernel_rfl)
   exact gs_valZ rfl (yr_loadZ rfl u24 (lo_cnd R _ ta wv (fun j v hv=>(hE.cells _ _ hR0).trans (Ra.out j v hv)))) (hK _ _ rfl (Ext.refl _))
  ·refine .inl ⟨by intro j b hjb v w h;first|(cases hjb;done)|(cases hjb;exact h),?_⟩
   intro a wv hE hF hD K hK
   exact gs_mkEZ rfl (yr_bs1Z rfl rfl (bsk1 6 wv)) (hK _ _ (KsR.new1 6 wv) ((Ext.refl _).alloc _))
  ·refine .inl ⟨by intro j b hjb v w h;first|(cases hjb;done)|(cases hjb;exact h),?_⟩
   intro a wv hE hF hD K hK
   have u21:a.eval (.tmp 21) = .func (.func 132) #[] #[]:=hD 0 (by kernel_rfl)
   have u25:a.eval (.tmp 25) = .agg (cdS.vals ta).toArray:=hD 4 (by kernel_rfl)
   obtain⟨Rk,e26,hRk,hck⟩:KsR [6] (a.eval (.tmp 26)) wv:=hD 5 (by kernel_rfl)
   exact gs_callZ rfl (yr_callvO rfl u21 (show(#[Operand.tmp 25,Operand.tmp 26]:Array Operand).map a.eval = #[.agg (cdS.vals ta).toArray,.slice (some ⟨Rk,0,none⟩) 1 1] by simp only[List.map_toArray,List.map_cons,List.map_nil,u25,e26]<;>rfl) (by kernel_rfl)) (HO1.out (some ⟨Rk,0,none⟩) 1 wv (hE0.trans hE) ⟨by decide,by decide,fun _=>⟨Rk,rfl,hRk,hck⟩⟩) (fun e w' h=>.inl ⟨_,h.1,hK _ _ rfl h.2⟩)
  ·refine .inl ⟨by intro j b hjb v w h;first|(cases hjb;done)|(cases hjb;exact h),?_⟩
   intro a wv hE hF hD K hK
   have u27:a.eval (.tmp 27) = .string ⟨P1.toArray⟩:=hD 6 (by kernel_rfl)
   exact gs_valZ rfl (yr_addO (B:=[32,97,110,100,32]) rfl u27 rfl (by simp only[List.length_cons,List.length_nil];omega)) (hK _ _ rfl (Ext.refl _))
  ·refine .inl ⟨by intro j b hjb v w h;first|(cases hjb;done)|(cases hjb;exact h),?_⟩
   intro a wv hE hF hD K hK
   exact gs_valZ rfl (yr_moveZ rfl ((hF 3 (fr_ofZ rfl)).trans rfl)) (hK _ _ rfl (Ext.refl _))
  ·refine .inl ⟨by intro j b hjb v w h;first|(cases hjb;done)|(cases hjb;exact h),?_⟩
   intro a wv hE hF hD K hK
   exact gs_valZ rfl (yr_fieldZ rfl ((hF 1 (fr_ofZ rfl)).trans rfl) (fa_c4 w.heap.size wv)) (hK _ _ rfl (Ext.refl _))
  ·refine .inl ⟨by intro j b hjb v w h;first|(cases hjb;done)|(cases hjb;exact h),?_⟩
   intro a wv hE hF hD K hK
   have u30:a.eval (.tmp 30) = .pointer (some ⟨w.heap.size,6,none⟩):=hD 9 (by kernel_rfl)
   exact gs_valZ rfl (yr_loadZ rfl u30 (lo_slc w.heap.size 6 _ wv ((hE.cells _ _ hbx).trans c6))) (hK _ _ rfl (Ext.refl _))
  ·refine .inl ⟨by intro j b hjb v w h;first|(cases hjb;done)|(cases hjb;exact h),?_⟩
   intro a wv hE hF hD K hK
   have u31:a.eval (.tmp 31) = .slice (some ⟨R,off,none⟩) 2 cap:=hD 10 (by kernel_rfl)
   exact gs_valZ rfl (yr_idxO rfl u31 rfl (ix_c1 R off cap wv)) (hK _ _ rfl (Ext.refl _))
  ·refine .inl ⟨by intro j b hjb v w h;first|(cases hjb;done)|(cases hjb;exact h),?_⟩
   intro a wv hE hF hD K hK
   have u32:a.eval (.tmp 32) = .pointer (some ⟨R,off+7,none⟩):=hD 11 (by kernel_rfl)
   exact gs_valZ rfl (yr_loadZ rfl u32 (lo_cnd R _ tb wv (fun j v hv=>(hE.cells _ _ hR0).trans (Rb.out j v hv)))) (hK _ _ rfl (Ext.refl _))
  ·refine .inl ⟨by intro j b hjb v w h;first|(cases hjb;done)|(cases hjb;exact h),?_⟩
   intro a wv hE hF hD K hK
   exact gs_mkEZ rfl (yr_bsnZ rfl (by simp only[List.map_toArray,List.map_cons,List.map_nil]<;>rfl) (bsk2 6 5 wv)) (hK _ _ (KsR.new2 6 5 wv) ((Ext.refl _).alloc _))
  ·refine .inl ⟨by intro j b hjb v w h;first|(cases hjb;done)|(cases hjb;exact h),?_⟩
   intro a wv hE hF hD K hK
   have u29:a.eval (.tmp 29) = .func (.func 132) #[] #[]:=hD 8 (by kernel_rfl)
   have u33:a.eval (.tmp 33) = .agg (cdS.vals tb).toArray:=hD 12 (by kernel_rfl)
   obtain⟨Rk,e26,hRk,hck⟩:KsR [6,5] (a.eval (.tmp 34)) wv:=hD 13 (by kernel_rfl)
   exact gs_callZ rfl (yr_callvO rfl u29 (show(#[Operand.tmp 33,Operand.tmp 34]:Array Operand).map a.eval = #[.agg (cdS.vals tb).toArray,.slice (some ⟨Rk,0,none⟩) 2 2] by simp only[List.map_toArray,List.map_cons,List.map_nil,u33,e26]<;>rfl) (by kernel_rfl)) (HO2.out (some ⟨Rk,0,none⟩) 2 wv (hE0.trans hE) ⟨by decide,by decide,fun _=>⟨Rk,rfl,hRk,hck⟩⟩) (fun e w' h=>.inl ⟨_,h.1,hK _ _ rfl h.2⟩)
  ·refine .inl ⟨by intro j b hjb v w h;first|(cases hjb;done)|(cases hjb;exact h),?_⟩
   intro a wv hE hF hD K hK
   have u28:a.eval (.tmp 28) = .string ⟨(P1 ++ [32,97,110,100,32]).toArray⟩:=hD 7 (by kernel_rfl)
   have u35:a.eval (.tmp 35) = .string ⟨P2.toArray⟩:=hD 14 (by kernel_rfl)
   exact gs_valZ rfl (yr_addO rfl u28 u35 (by simp only[List.length_append,List.length_cons,List.length_nil];omega)) (hK _ _ rfl (Ext.refl _))
  ·refine .inl ⟨by intro j b hjb v w h;first|(cases hjb;done)|(cases hjb;exact h),?_⟩
   intro a wv hE hF hD K hK
   have u36:a.eval (.tmp 36) = .string ⟨(P1 ++ [32,97,110,100,32]++P2).toArray⟩:=hD 15 (by kernel_rfl)
   exact gs_valZ rfl (yr_assignZ rfl u36) (hK _ _ rfl (Ext.refl _))
 intro vals w2 hE2 hR2
 obtain⟨-,-,-,-,-,-,-,-,-,-,-,-,-,-,-,-,h2,-⟩:=hR2
 have e2:vals 16 = .string ⟨(P1 ++ [32,97,110,100,32]++P2).toArray⟩:=h2
 refine wpAny_done (by kernel_rfl) ?_ _
 simp only[putF,Act.put,List.length_cons,List.length_nil,List.getD_cons_zero,List.getD_cons_succ,List.setIfInBounds_toArray,List.set_cons_zero,List.set_cons_succ,Nat.reduceAdd,e2]
 clear e2 h2
 go_wp2_with fail
 go_ret
 exact⟨rfl,hE0.trans hE2⟩
theorem prn_or {col oth:List UInt8} {vk vn:Int} {vs:List UInt8} {R off cap:Nat} (ta tb:Cnd) (P1 P2:List UInt8) (w:World) (hR:R<w.heap.size) (hca:w.rangeAt R off (cdS.vals ta)) (hcb:w.rangeAt R (off+7) (cdS.vals tb)) (h1:P1.length≤100000) (h2:P2.length≤100000) (ho1:OpT ta [] P1 w) (ho2:OpT tb [6] P2 w) :
  Calls Tryz.prog 63 #[.agg (cdS.vals (.mk ⟨⟨6,col,oth,vk,vn,vs⟩,some ⟨R,off,none⟩,cap⟩ [ta,tb])).toArray] w fun e w'=>e = .returned (.string ⟨(P1 ++ [32,111,114,32]++P2).toArray⟩)∧Ext w w':=by
 have hE0:Ext w (w.alloc (.cells (cdS.vals (.mk ⟨⟨6,col,oth,vk,vn,vs⟩,some ⟨R,off,none⟩,cap⟩ [ta,tb])).toArray 27)):=(Ext.refl w).alloc _
 have hB:=BxT.new w (cdS.vals (.mk ⟨⟨6,col,oth,vk,vn,vs⟩,some ⟨R,off,none⟩,cap⟩ [ta,tb])) 27
 have c0:(w.alloc (.cells (cdS.vals (.mk ⟨⟨6,col,oth,vk,vn,vs⟩,some ⟨R,off,none⟩,cap⟩ [ta,tb])).toArray 27)).cell? ⟨w.heap.size,0,none⟩=some (.int .i64 6):=hB.at 0 _ rfl
 have c6:(w.alloc (.cells (cdS.vals (.mk ⟨⟨6,col,oth,vk,vn,vs⟩,some ⟨R,off,none⟩,cap⟩ [ta,tb])).toArray 27)).cell? ⟨w.heap.size,6,none⟩=some (.slice (some ⟨R,off,none⟩) 2 cap):=hB.at 6 _ rfl
 have hbx:=hB.hD
 have hR0:=hE0.lt hR
 have Ra:Hid ((w.alloc (.cells (cdS.vals (.mk ⟨⟨6,col,oth,vk,vn,vs⟩,some ⟨R,off,none⟩,cap⟩ [ta,tb])).toArray 27)).rangeAt R off (cdS.vals ta)):=fun j v hv=>(hE0.cells _ _ hR).trans (hca j v hv)
 have Rb:Hid ((w.alloc (.cells (cdS.vals (.mk ⟨⟨6,col,oth,vk,vn,vs⟩,some ⟨R,off,none⟩,cap⟩ [ta,tb])).toArray 27)).rangeAt R (off+7) (cdS.vals tb)):=fun j v hv=>(hE0.cells _ _ hR).trans (hcb j v hv)
 have HO1:=Lib.hid ho1
 have HO2:=Lib.hid ho2
 clear hB hca hcb ho1 ho2
 go_enter Tryz.func63,Tryz.ntmps63
 go_wp2_with fail
 refine wp_region_growK [39,40,41,42,43,44,45,46,47,48,49,50,51,52,53,2] [fun x _=>x = .func (.func 132) #[] #[],fun x _=>x = .pointer (some ⟨w.heap.size,6,none⟩),fun x _=>x = .slice (some ⟨R,off,none⟩) 2 cap,fun x _=>x = .pointer (some ⟨R,off,none⟩),fun x _=>x = .agg (cdS.vals ta).toArray,fun x _=>x = .string ⟨P1.toArray⟩,fun x _=>x = .string ⟨(P1 ++ [32,111,114,32]).toArray⟩,fun x _=>x = .func (.func 132) #[] #[],fun x _=>x = .pointer (some ⟨w.heap.size,6,none⟩),fun x _=>x = .slice (some ⟨R,off,none⟩) 2 cap,fun x _=>x = .pointer (some ⟨R,off+7,none⟩),fun x _=>x = .agg (cdS.vals tb).toArray,KsR [6],fun x _=>x = .string ⟨P2.toArray⟩,fun x _=>x = .string ⟨(P1 ++ [32,111,114,32]++P2).toArray⟩,fun x _=>x = .string ⟨(P1 ++ [32,111,114,32]++P2).toArray⟩] 0 (by kernel_rfl) (by kernel_rfl) (by kernel_rfl) (by kernel_rfl) ?_ ?_ ?_
 ·intro Rl hRl
  simp only[List.mem_cons,List.not_mem_nil,or_false]at hRl
  rcases hRl with rfl|rfl|rfl|rfl|rfl|rfl|rfl|rfl|rfl|rfl|rfl|rfl|rfl|rfl|rfl|rfl
  all_goals first
   | exact fun _ _ _ h _=>h
   | exact fun _ _ _ h hE=>KsR.ext h hE
 ·refine⟨?_,?_,?_,?_,?_,?_,?_,?_,?_,?_,?_,?_,?_,?_,?_,?_,trivial⟩
  ·refine .inl ⟨by intro j b hjb v w h;first|(cases hjb;done)|(cases hjb;exact h),?_⟩
   intro a wv hE hF hD K hK
   exact gs_valZ rfl (yr_moveZ rfl ((hF 3 (fr_ofZ rfl)).trans rfl)) (hK _ _ rfl (Ext.refl _))
  ·refine .inl ⟨by intro j b hjb v w h;first|(cases hjb;done)|(cases hjb;exact h),?_⟩
   intro a wv hE hF hD K hK
   exact gs_valZ rfl (yr_fieldZ rfl ((hF 1 (fr_ofZ rfl)).trans rfl) (fa_c4 w.heap.size wv)) (hK _ _ rfl (Ext.refl _))
  ·refine .inl ⟨by intro j b hjb v w h;first|(cases hjb;done)|(cases hjb;exact h),?_⟩
   intro a wv hE hF hD K hK
   have u40:a.eval (.tmp 40) = .pointer (some ⟨w.heap.size,6,none⟩):=hD 1 (by kernel_rfl)
   exact gs_valZ rfl (yr_loadZ rfl u40 (lo_slc w.heap.size 6 _ wv ((hE.cells _ _ hbx).trans c6))) (hK _ _ rfl (Ext.refl _))
  ·refine .inl ⟨by intro j b hjb v w h;first|(cases hjb;done)|(cases hjb;exact h),?_⟩
   intro a wv hE hF hD K hK
   have u41:a.eval (.tmp 41) = .slice (some ⟨R,off,none⟩) 2 cap:=hD 2 (by kernel_rfl)
   exact gs_valZ rfl (yr_idxO rfl u41 rfl (ix_c0 R off cap wv)) (hK _ _ rfl (Ext.refl _))
  ·refine .inl ⟨by intro j b hjb v w h;first|(cases hjb;done)|(cases hjb;exact h),?_⟩
   intro a wv hE hF hD K hK
   have u42:a.eval (.tmp 42) = .pointer (some ⟨R,off,none⟩):=hD 3 (by kernel_rfl)
   exact gs_valZ rfl (yr_loadZ rfl u42 (lo_cnd R _ ta wv (fun j v hv=>(hE.cells _ _ hR0).trans (Ra.out j v hv)))) (hK _ _ rfl (Ext.refl _))
  ·refine .inl ⟨by intro j b hjb v w h;first|(cases hjb;done)|(cases hjb;exact h),?_⟩
   intro a wv hE hF hD K hK
   have u39:a.eval (.tmp 39) = .func (.func 132) #[] #[]:=hD 0 (by kernel_rfl)
   have u43:a.eval (.tmp 43) = .agg (cdS.vals ta).toArray:=hD 4 (by kernel_rfl)
   exact gs_callZ rfl (yr_callvO rfl u39 (show(#[Operand.tmp 43,Operand.const (.slice none 0 0)]:Array Operand).map a.eval = #[.agg (cdS.vals ta).toArray,.slice none 0 0] by simp only[List.map_toArray,List.map_cons,List.map_nil,u43]<;>rfl) (by kernel_rfl)) (HO1.out none 0 wv (hE0.trans hE) ⟨by decide,by decide,fun h=>absurd rfl h⟩) (fun e w' h=>.inl ⟨_,h.1,hK _ _ rfl h.2⟩)
  ·refine .inl ⟨by intro j b hjb v w h;first|(cases hjb;done)|(cases hjb;exact h),?_⟩
   intro a wv hE hF hD K hK
   have u44:a.eval (.tmp 44) = .string ⟨P1.toArray⟩:=hD 5 (by kernel_rfl)
   exact gs_valZ rfl (yr_addO (B:=[32,111,114,32]) rfl u44 rfl (by simp only[List.length_cons,List.length_nil];omega)) (hK _ _ rfl (Ext.refl _))
  ·refine .inl ⟨by intro j b hjb v w h;first|(cases hjb;done)|(cases hjb;exact h),?_⟩
   intro a wv hE hF hD K hK
   exact gs_valZ rfl (yr_moveZ rfl ((hF 3 (fr_ofZ rfl)).trans rfl)) (hK _ _ rfl (Ext.refl _))
  ·refine .inl ⟨by intro j b hjb v w h;first|(cases hjb;done)|(cases hjb;exact h),?_⟩
   intro a wv hE hF hD K hK
   exact gs_valZ rfl (yr_fieldZ rfl ((hF 1 (fr_ofZ rfl)).trans rfl) (fa_c4 w.heap.size wv)) (hK _ _ rfl (Ext.refl _))
  ·refine .inl ⟨by intro j b hjb v w h;first|(cases hjb;done)|(cases hjb;exact h),?_⟩
   intro a wv hE hF hD K hK
   have u47:a.eval (.tmp 47) = .pointer (some ⟨w.heap.size,6,none⟩):=hD 8 (by kernel_rfl)
   exact gs_valZ rfl (yr_loadZ rfl u47 (lo_slc w.heap.size 6 _ wv ((hE.cells _ _ hbx).trans c6))) (hK _ _ rfl (Ext.refl _))
  ·refine .inl ⟨by intro j b hjb v w h;first|(cases hjb;done)|(cases hjb;exact h),?_⟩
   intro a wv hE hF hD K hK
   have u48:a.eval (.tmp 48) = .slice (some ⟨R,off,none⟩) 2 cap:=hD 9 (by kernel_rfl)
   exact gs_valZ rfl (yr_idxO rfl u48 rfl (ix_c1 R off cap wv)) (hK _ _ rfl (Ext.refl _))
  ·refine .inl ⟨by intro j b hjb v w h;first|(cases hjb;done)|(cases hjb;exact h),?_⟩
   intro a wv hE hF hD K hK
   have u49:a.eval (.tmp 49) = .pointer (some ⟨R,off+7,none⟩):=hD 10 (by kernel_rfl)
   exact gs_valZ rfl (yr_loadZ rfl u49 (lo_cnd R _ tb wv (fun j v hv=>(hE.cells _ _ hR0).trans (Rb.out j v hv)))) (hK _ _ rfl (Ext.refl _))
  ·refine .inl ⟨by intro j b hjb v w h;first|(cases hjb;done)|(cases hjb;exact h),?_⟩
   intro a wv hE hF hD K hK
   exact gs_mkEZ rfl (yr_bs1Z rfl rfl (bsk1 6 wv)) (hK _ _ (KsR.new1 6 wv) ((Ext.refl _).alloc _))
  ·refine .inl ⟨by intro j b hjb v w h;first|(cases hjb;done)|(cases hjb;exact h),?_⟩
   intro a wv hE hF hD K hK
   have u46:a.eval (.tmp 46) = .func (.func 132) #[] #[]:=hD 7 (by kernel_rfl)
   have u50:a.eval (.tmp 50) = .agg (cdS.vals tb).toArray:=hD 11 (by kernel_rfl)
   obtain⟨Rk,e26,hRk,hck⟩:KsR [6] (a.eval (.tmp 51)) wv:=hD 12 (by kernel_rfl)
   exact gs_callZ rfl (yr_callvO rfl u46 (show(#[Operand.tmp 50,Operand.tmp 51]:Array Operand).map a.eval = #[.agg (cdS.vals tb).toArray,.slice (some ⟨Rk,0,none⟩) 1 1] by simp only[List.map_toArray,List.map_cons,List.map_nil,u50,e26]<;>rfl) (by kernel_rfl)) (HO2.out (some ⟨Rk,0,none⟩) 1 wv (hE0.trans hE) ⟨by decide,by decide,fun _=>⟨Rk,rfl,hRk,hck⟩⟩) (fun e w' h=>.inl ⟨_,h.1,hK _ _ rfl h.2⟩)
  ·refine .inl ⟨by intro j b hjb v w h;first|(cases hjb;done)|(cases hjb;exact h),?_⟩
   intro a wv hE hF hD K hK
   have u45:a.eval (.tmp 45) = .string ⟨(P1 ++ [32,111,114,32]).toArray⟩:=hD 6 (by kernel_rfl)
   have u52:a.eval (.tmp 52) = .string ⟨P2.toArray⟩:=hD 13 (by kernel_rfl)
   exact gs_valZ rfl (yr_addO rfl u45 u52 (by simp only[List.length_append,List.length_cons,List.length_nil];omega)) (hK _ _ rfl (Ext.refl _))
  ·refine .inl ⟨by intro j b hjb v w h;first|(cases hjb;done)|(cases hjb;exact h),?_⟩
   intro a wv hE hF hD K hK
   have u53:a.eval (.tmp 53) = .string ⟨(P1 ++ [32,111,114,32]++P2).toArray⟩:=hD 14 (by kernel_rfl)
   exact gs_valZ rfl (yr_assignZ rfl u53) (hK _ _ rfl (Ext.refl _))
 intro vals w2 hE2 hR2
 obtain⟨-,-,-,-,-,-,-,-,-,-,-,-,-,-,-,h2,-⟩:=hR2
 have e2:vals 15 = .string ⟨(P1 ++ [32,111,114,32]++P2).toArray⟩:=h2
 refine wpAny_done (by kernel_rfl) ?_ _
 simp only[putF,Act.put,List.length_cons,List.length_nil,List.getD_cons_zero,List.getD_cons_succ,List.setIfInBounds_toArray,List.set_cons_zero,List.set_cons_succ,Nat.reduceAdd,e2]
 clear e2 h2
 go_wp2_with fail
 go_ret
 exact⟨rfl,hE0.trans hE2⟩
end Go.Proofs.YtlmeinikknoeeaaGreatDoor
namespace Go.Proofs.YtlmeinikknoeeaaGreatDoor
set_option maxRecDepth 100000
set_option maxHeartbeats 1000000
set_option linter.unusedVariables false
set_option linter.unnecessarySimpa false
set_option linter.unusedSimpArgs false
open Go.RowKit
theorem prn_alw {col oth:List UInt8} {vk vn:Int} {vs:List UInt8} {ao:Option Addr} {cap:Nat} {l:List Cnd} (w:World) :
  Calls Tryz.prog 63 #[.agg (cdS.vals (.mk ⟨⟨3,col,oth,vk,vn,vs⟩,ao,cap⟩ l)).toArray] w fun e w'=>e = .returned (.string ⟨(wAlways:List UInt8).toArray⟩)∧Ext w w':=by
 have hE0:Ext w (w.alloc (.cells (cdS.vals (.mk ⟨⟨3,col,oth,vk,vn,vs⟩,ao,cap⟩ l)).toArray 27)):=(Ext.refl w).alloc _
 have hB:=BxT.new w (cdS.vals (.mk ⟨⟨3,col,oth,vk,vn,vs⟩,ao,cap⟩ l)) 27
 have c0:(w.alloc (.cells (cdS.vals (.mk ⟨⟨3,col,oth,vk,vn,vs⟩,ao,cap⟩ l)).toArray 27)).cell? ⟨w.heap.size,0,none⟩=some (.int .i64 3):=hB.at 0 _ rfl
 clear hB
 go_enter Tryz.func63,Tryz.ntmps63
 go_wp2_with fail
 go_ret
 exact⟨rfl,hE0⟩
theorem prn_not {col oth:List UInt8} {vk vn:Int} {vs:List UInt8} {R off cap:Nat} (ta:Cnd) (P1:List UInt8) (w:World) (hR:R<w.heap.size) (hca:w.rangeAt R off (cdS.vals ta)) (h1:P1.length≤100000) (ho1:OpT ta [5,6] P1 w) :
  Calls Tryz.prog 63 #[.agg (cdS.vals (.mk ⟨⟨4,col,oth,vk,vn,vs⟩,some ⟨R,off,none⟩,cap⟩ [ta])).toArray] w fun e w'=>e = .returned (.string ⟨([110,111,116,32]++P1).toArray⟩)∧Ext w w':=by
 have hE0:Ext w (w.alloc (.cells (cdS.vals (.mk ⟨⟨4,col,oth,vk,vn,vs⟩,some ⟨R,off,none⟩,cap⟩ [ta])).toArray 27)):=(Ext.refl w).alloc _
 have hB:=BxT.new w (cdS.vals (.mk ⟨⟨4,col,oth,vk,vn,vs⟩,some ⟨R,off,none⟩,cap⟩ [ta])) 27
 have c0:(w.alloc (.cells (cdS.vals (.mk ⟨⟨4,col,oth,vk,vn,vs⟩,some ⟨R,off,none⟩,cap⟩ [ta])).toArray 27)).cell? ⟨w.heap.size,0,none⟩=some (.int .i64 4):=hB.at 0 _ rfl
 have c6:(w.alloc (.cells (cdS.vals (.mk ⟨⟨4,col,oth,vk,vn,vs⟩,some ⟨R,off,none⟩,cap⟩ [ta])).toArray 27)).cell? ⟨w.heap.size,6,none⟩=some (.slice (some ⟨R,off,none⟩) 1 cap):=hB.at 6 _ rfl
 have Ra:Hid ((w.alloc (.cells (cdS.vals (.mk ⟨⟨4,col,oth,vk,vn,vs⟩,some ⟨R,off,none⟩,cap⟩ [ta])).toArray 27)).rangeAt R off (cdS.vals ta)):=fun j v hv=>(hE0.cells _ _ hR).trans (hca j v hv)
 have HO1:Hid (∀(ko:Option Addr) (kc:Nat) (wx:World),Ext w wx→KsV ko kc [5,6] wx→Calls Tryz.prog 132 #[.agg (cdS.vals ta).toArray,.slice ko 2 kc] wx fun e w'=>e = .returned (.string ⟨P1.toArray⟩)∧Ext wx w'):=ho1
 clear hB hca ho1
 go_enter Tryz.func63,Tryz.ntmps63
 go_wp2_with (first
  | ((with_reducible show wpList _ _ _ (⟨some 15,.load _ _,_,_,_,_⟩::_) _ _);refine wpl_load rfl 27 _ rfl R off rfl (cdS.vals ta) _ Ra.out Tryz.underlying27 rfl (info_c ta) ?_)
  | ((with_reducible show wpList _ _ _ (⟨some 16,.buildSlice _ _ _,_,_,_,_⟩::_) _ _);refine wpl_bs2 rfl 167 3 _ _ rfl (.int .i64 5) (.int .i64 6) rfl rfl [.int .i64 5,.int .i64 6] (bsk2 5 6 _) ?_;intro W hEW hBW hsz;rw[World.size_alloc]at hBW ⊢;have hKs:KsV (some ⟨w.heap.size+1,0,none⟩) 2 [5,6] W:=⟨by decide,by decide,fun _=>⟨w.heap.size+1,rfl,hBW.hD,fun i hi=>by
      have hi:i<2:=hi
      rcases (by omega:i=0∨i=1)with rfl|rfl
      ·exact hBW.at 0 _ rfl
      ·exact hBW.at 1 _ rfl⟩⟩;have HKs:=Lib.hid hKs;clear hKs hBW hsz)
  | (go_at_call 132;(with_reducible refine(HO1.out _ 2 _ (hE0.trans hEW) HKs.out).mono ?_);rintro e w1 ⟨rfl,hE1⟩))
 go_ret
 refine⟨?_,(hE0.trans hEW).trans hE1⟩
 show _=Ending.returned (Value.string ⟨(([110,111,116,32]:List UInt8)++P1).toArray⟩)
 rw[←baO [110,111,116,32] P1]
 rfl
theorem prn_oth {k:Int} {col oth:List UInt8} {vk vn:Int} {vs:List UInt8} {ao:Option Addr} {cap:Nat} {l:List Cnd} (g:UInt8) (w:World) (hk:k=1∧g=61∨k=2∧g=60) (h1:col.length≤30) (h2:oth.length≤30) (ho:(oth == [])=false) :
  Calls Tryz.prog 63 #[.agg (cdS.vals (.mk ⟨⟨k,col,oth,vk,vn,vs⟩,ao,cap⟩ l)).toArray] w fun e w'=>e = .returned (.string ⟨(col ++ [32,g,32]++oth).toArray⟩)∧Ext w w':=by
 have hE0:Ext w (w.alloc (.cells (cdS.vals (.mk ⟨⟨k,col,oth,vk,vn,vs⟩,ao,cap⟩ l)).toArray 27)):=(Ext.refl w).alloc _
 have hB:=BxT.new w (cdS.vals (.mk ⟨⟨k,col,oth,vk,vn,vs⟩,ao,cap⟩ l)) 27
 have c0:(w.alloc (.cells (cdS.vals (.mk ⟨⟨k,col,oth,vk,vn,vs⟩,ao,cap⟩ l)).toArray 27)).cell? ⟨w.heap.size,0,none⟩=some (.int .i64 k):=hB.at 0 _ rfl
 have c1:(w.alloc (.cells (cdS.vals (.mk ⟨⟨k,col,oth,vk,vn,vs⟩,ao,cap⟩ l)).toArray 27)).cell? ⟨w.heap.size,1,none⟩=some (.string ⟨col.toArray⟩):=hB.at 1 _ rfl
 have c2:(w.alloc (.cells (cdS.vals (.mk ⟨⟨k,col,oth,vk,vn,vs⟩,ao,cap⟩ l)).toArray 27)).cell? ⟨w.heap.size,2,none⟩=some (.string ⟨oth.toArray⟩):=hB.at 2 _ rfl
 clear hB
 rcases hk with⟨rfl,rfl⟩|⟨rfl,rfl⟩
 all_goals
  go_enter Tryz.func63,Tryz.ntmps63
  go_wp2_with fail
  go_ret
  refine⟨?_,hE0⟩
  rw[←baO (col++_) oth,←baO col]
  rfl
theorem prn_val {k:Int} {col oth:List UInt8} {vk vn:Int} {vs:List UInt8} {ao:Option Addr} {cap:Nat} {l:List Cnd} (X:List UInt8) (g:UInt8) (w:World) (hk:k=1∧g=61∨k=2∧g=60) (h1:col.length≤30) (hX:X.length≤1000) (ho:(oth == [])=true)
  (hT:∀wx,Ext w wx→Calls Tryz.prog 133 #[.agg #[.int .i64 vk,.int .i64 vn,.string ⟨vs.toArray⟩]] wx fun e w'=>e = .returned (.string ⟨X.toArray⟩)∧Ext wx w') :
  Calls Tryz.prog 63 #[.agg (cdS.vals (.mk ⟨⟨k,col,oth,vk,vn,vs⟩,ao,cap⟩ l)).toArray] w fun e w'=>e = .returned (.string ⟨(col ++ [32,g,32]++X).toArray⟩)∧Ext w w':=by
 have hE0:Ext w (w.alloc (.cells (cdS.vals (.mk ⟨⟨k,col,oth,vk,vn,vs⟩,ao,cap⟩ l)).toArray 27)):=(Ext.refl w).alloc _
 have hB:=BxT.new w (cdS.vals (.mk ⟨⟨k,col,oth,vk,vn,vs⟩,ao,cap⟩ l)) 27
 have c0:(w.alloc (.cells (cdS.vals (.mk ⟨⟨k,col,oth,vk,vn,vs⟩,ao,cap⟩ l)).toArray 27)).cell? ⟨w.heap.size,0,none⟩=some (.int .i64 k):=hB.at 0 _ rfl
 have c1:(w.alloc (.cells (cdS.vals (.mk ⟨⟨k,col,oth,vk,vn,vs⟩,ao,cap⟩ l)).toArray 27)).cell? ⟨w.heap.size,1,none⟩=some (.string ⟨col.toArray⟩):=hB.at 1 _ rfl
 have c2:(w.alloc (.cells (cdS.vals (.mk ⟨⟨k,col,oth,vk,vn,vs⟩,ao,cap⟩ l)).toArray 27)).cell? ⟨w.heap.size,2,none⟩=some (.string ⟨oth.toArray⟩):=hB.at 2 _ rfl
 have c3:(w.alloc (.cells (cdS.vals (.mk ⟨⟨k,col,oth,vk,vn,vs⟩,ao,cap⟩ l)).toArray 27)).cell? ⟨w.heap.size,3,none⟩=some (.int .i64 vk):=hB.at 3 _ rfl
 have c4:(w.alloc (.cells (cdS.vals (.mk ⟨⟨k,col,oth,vk,vn,vs⟩,ao,cap⟩ l)).toArray 27)).cell? ⟨w.heap.size,4,none⟩=some (.int .i64 vn):=hB.at 4 _ rfl
 have c5:(w.alloc (.cells (cdS.vals (.mk ⟨⟨k,col,oth,vk,vn,vs⟩,ao,cap⟩ l)).toArray 27)).cell? ⟨w.heap.size,5,none⟩=some (.string ⟨vs.toArray⟩):=hB.at 5 _ rfl
 have hbx:=hB.hD
 have HT:=Lib.hid hT
 clear hB hT
 rcases hk with⟨rfl,rfl⟩|⟨rfl,rfl⟩
 all_goals
  go_enter Tryz.func63,Tryz.ntmps63
  go_wp2_with fail
  go_region_with (first
   | (go_at_call 133;(with_reducible refine(HT.out _ hE0.drew).mono ?_);rintro e w2 ⟨rfl,hE2⟩;have hEd:=((Ext.refl _).drew).trans hE2;have d1:=(hEd.cells _ 1 hbx).trans c1))
  all_goals
   go_wp2_with fail
   go_ret
   refine⟨?_,hE0.trans hEd⟩
   rw[←baO (col++_) X,←baO col]
   rfl
end Go.Proofs.YtlmeinikknoeeaaGreatDoor
