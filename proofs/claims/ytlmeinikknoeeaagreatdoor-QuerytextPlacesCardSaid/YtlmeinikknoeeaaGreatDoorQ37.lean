/- Queries: Parse, under what Valid answers. -/
import Derived.Test.YtlmeinikknoeeaaGreatDoorQ35
import Derived.Test.YtlmeinikknoeeaaGreatDoorQ36
import Derived.Test.YtlmeinikknoeeaaGreatDoorQ18
namespace Go.Proofs.YtlmeinikknoeeaaGreatDoor
set_option linter.unusedVariables false
set_option linter.unnecessarySimpa false
set_option linter.unusedSimpArgs false
open Go.RowKit
def PaV (w:World) (r:Rs (Tr QnD)) (e:Ending) (w':World):Prop:=
 Ext w w'∧match r with
  | .ok q _=>∃t:Qry,e = .returned (.tuple #[.agg (qnS.vals t).toArray,.agg #[.int .i64 0,.int .i64 0],.int .i64 0])∧InQ (fun k=>w.heap.size≤k) w' t∧mapT QnA.d t=q
  | .bad l c er=>e = .returned (.tuple #[.agg zeroQ.toArray,.agg #[.int .i64 l,.int .i64 c],.int .i64 er])
def HVal (P:Program) (f:FuncId):Prop:=∀(A:Nat→Prop) (t:Qry) (w:World),InQ A w t→Rsv w→Calls P f #[.agg (qnS.vals t).toArray] w fun e w'=>e = .returned (.bool (vdQ (mapT QnA.d t)))∧Ext w w'
theorem pa0 (w:World) (A P Q:List Value) (ta tp:TypeId):BxT w.heap.size A (((w.alloc (.cells A.toArray ta)).alloc (.cells P.toArray tp)).alloc (.cells Q.toArray ta))∧BxT (w.heap.size+1) P (((w.alloc (.cells A.toArray ta)).alloc (.cells P.toArray tp)).alloc (.cells Q.toArray ta))∧BxT (w.heap.size+1+1) Q (((w.alloc (.cells A.toArray ta)).alloc (.cells P.toArray tp)).alloc (.cells Q.toArray ta))∧Ext w (((w.alloc (.cells A.toArray ta)).alloc (.cells P.toArray tp)).alloc (.cells Q.toArray ta)):=by
 have h2:=BxT.new (w.alloc (.cells A.toArray ta)) P tp
 rw[World.size_alloc]at h2
 have h3:=BxT.new ((w.alloc (.cells A.toArray ta)).alloc (.cells P.toArray tp)) Q ta
 rw[World.size_alloc,World.size_alloc]at h3
 exact⟨((BxT.new w A ta).ext ((Ext.refl _).alloc _)).ext ((Ext.refl _).alloc _),h2.ext ((Ext.refl _).alloc _),h3,(((Ext.refl w).alloc _).alloc _).alloc _⟩
theorem rep_nz {α:Type} {p:List TkD→Nat→Rs α} (hp:∀L i,(p L i).nz) {s:List UInt8} {l c er:Int} (h:reP untZ p s = .bad l c er):er≠0:=by
 unfold reP at h
 split at h
 ·rename_i l' c' e' hL
  injection h with h1 h2 h3
  have:=lexT_bad hL
  omega
 ·rename_i L hL
  have:=al_nz (L:=L) (hp L 0)
  rw[h]at this
  exact this
theorem pa_fin {b:Nat} {l c l0 c0:Int} {us:List Value} {W:World} (hA:BxT b us W) (hB:BxT (b+1) [.int .i64 l0,.int .i64 c0] W) (hus:us.length=zeroQ.length:=by rfl) (o:Obj) :
  BxT b zeroQ (((((W.setCells b 0 zeroQ).setCell ⟨b+1,0,none⟩ (.int .i64 l)).setCell ⟨b+1,1,none⟩ (.int .i64 c)).alloc o).drew)∧BxT (b+1) [.int .i64 l,.int .i64 c] (((((W.setCells b 0 zeroQ).setCell ⟨b+1,0,none⟩ (.int .i64 l)).setCell ⟨b+1,1,none⟩ (.int .i64 c)).alloc o).drew)∧Frm (fun k=>k=b∨k=b+1) W (((((W.setCells b 0 zeroQ).setCell ⟨b+1,0,none⟩ (.int .i64 l)).setCell ⟨b+1,1,none⟩ (.int .i64 c)).alloc o).drew):=by
 have hth:W.there b 0 zeroQ.length:=by rw[←hus];exact hA.th
 have fA:=zfrm_sets (S:=fun k=>k=b) W b zeroQ 0 rfl
 have q1:BxT b zeroQ (W.setCells b 0 zeroQ):=⟨fA.lt hA.hD,World.rangeAt_setCells_same _ _ _ _ hth,World.there_setCells hth b 0 zeroQ⟩
 have q2:=((hB.frm fA (by omega)).set 0 (.int .i64 l) (by simp)).set 1 (.int .i64 c) (by simp)
 have fB:Frm (fun k=>k=b+1) (W.setCells b 0 zeroQ) (((W.setCells b 0 zeroQ).setCell ⟨b+1,0,none⟩ (.int .i64 l)).setCell ⟨b+1,1,none⟩ (.int .i64 c)):=((Frm.refl (fun k=>k=b+1) _).setCell (p:=⟨b+1,0,none⟩) (.inl rfl) _).setCell (p:=⟨b+1,1,none⟩) (.inl rfl) _
 have q3:=q1.frm fB (by omega)
 have hE:∀X:World,Ext X (X.alloc o).drew:=fun X=>((Ext.refl X).alloc o).drew
 exact⟨q3.ext (hE _),q2.ext (hE _),((fA.mono (fun x _ h=>.inl h)).trans (fB.mono (fun x _ h=>.inr h))).trans (Frm.of_ext (hE _))⟩
theorem pa_fin2 {b:Nat} {l c l0 c0:Int} {us:List Value} {W:World} (hA:BxT b us W) (hB:BxT (b+1) [.int .i64 l0,.int .i64 c0] W) (hus:us.length=zeroQ.length:=by rfl) :
  BxT b zeroQ ((((W.setCells b 0 zeroQ).setCell ⟨b+1,0,none⟩ (.int .i64 l)).setCell ⟨b+1,1,none⟩ (.int .i64 c)).drew)∧BxT (b+1) [.int .i64 l,.int .i64 c] ((((W.setCells b 0 zeroQ).setCell ⟨b+1,0,none⟩ (.int .i64 l)).setCell ⟨b+1,1,none⟩ (.int .i64 c)).drew)∧Frm (fun k=>k=b∨k=b+1) W ((((W.setCells b 0 zeroQ).setCell ⟨b+1,0,none⟩ (.int .i64 l)).setCell ⟨b+1,1,none⟩ (.int .i64 c)).drew):=by
 have hth:W.there b 0 zeroQ.length:=by rw[←hus];exact hA.th
 have fA:=zfrm_sets (S:=fun k=>k=b) W b zeroQ 0 rfl
 have q1:BxT b zeroQ (W.setCells b 0 zeroQ):=⟨fA.lt hA.hD,World.rangeAt_setCells_same _ _ _ _ hth,World.there_setCells hth b 0 zeroQ⟩
 have q2:=((hB.frm fA (by omega)).set 0 (.int .i64 l) (by simp)).set 1 (.int .i64 c) (by simp)
 have fB:Frm (fun k=>k=b+1) (W.setCells b 0 zeroQ) (((W.setCells b 0 zeroQ).setCell ⟨b+1,0,none⟩ (.int .i64 l)).setCell ⟨b+1,1,none⟩ (.int .i64 c)):=((Frm.refl (fun k=>k=b+1) _).setCell (p:=⟨b+1,0,none⟩) (.inl rfl) _).setCell (p:=⟨b+1,1,none⟩) (.inl rfl) _
 have q3:=q1.frm fB (by omega)
 have hE:∀X:World,Ext X X.drew:=fun X=>(Ext.refl X).drew
 exact⟨q3.ext (hE _),q2.ext (hE _),((fA.mono (fun x _ h=>.inl h)).trans (fB.mono (fun x _ h=>.inr h))).trans (Frm.of_ext (hE _))⟩
theorem results_cct {fn:Func} {tmps:Array Value} {w:World} {a b c:Tmp} {t u:TypeId} {x y z:Value} {p q:Addr} (h:fn.results = #[.cell a t,.cell b u,.tmp c]) (hp:tmps.getD a undef = .pointer (some p)) (h1:(loadVar t p).run Tryz.prog w = .ok x w) (hq:tmps.getD b undef = .pointer (some q)) (h2:(loadVar u q).run Tryz.prog w = .ok y w) (hc:tmps.getD c undef=z):(results fn tmps).run Tryz.prog w = .ok (.tuple #[x,y,z]) w:=by
 unfold results
 rw[h]
 have hp2:tmps[a]?.getD undef = .pointer (some p):=by rw[←hp];simp
 have hq2:tmps[b]?.getD undef = .pointer (some q):=by rw[←hq];simp
 have hc2:tmps[c]?.getD undef=z:=by rw[←hc];simp
 simp[hp2,h1,hq2,h2,hc2,asAddr,Result.andThen]
set_option maxRecDepth 100000 in
set_option maxHeartbeats 4000000 in
theorem parse_q (hval:HVal Tryz.prog 17) (s:List UInt8) (w:World) (hs:s.length≤9223372036854775807) (hr:RsvB w.heap.size w) :
  Calls Tryz.prog 26 #[.string ⟨s.toArray⟩] w (PaV w (paQ untZ s)):=by
 have hmf:∀(fn:Fn) (first cap:Array Value) (w:World),(Instr.makeFunc fn first cap).run Tryz.prog w = .ok (.func fn first cap) w:=fun _ _ _ _=>rfl
 have HZ:=Lib.hid (pa0 w zeroQ [.int .i64 0,.int .i64 0] zeroQ 32 50)
 have HR:=Lib.hid hr
 have HVl:=Lib.hid hval
 clear hr hval
 go_enter Tryz.func26,Tryz.ntmps26
 go_wp2_with fail
 refine(readq_c (w.heap.size+1+1) zeroQ rfl s _ hs ((HR.out.ext HZ.out.2.2.2).up (by omega)) HZ.out.2.2.1.hD HZ.out.2.2.1).mono ?_
 rintro x w1 ⟨hF1,hx⟩
 have hQ1:=HZ.out.1.frm hF1 (by omega)
 have hP1:=HZ.out.2.1.frm hF1 (by omega)
 have hE1:Ext w w1:=ext_frm ((Frm.of_ext HZ.out.2.2.2).step hF1 (fun k h1 h2=>by omega))
 obtain⟨G,hG⟩:∃G,paQ untZ s=G:=⟨_,rfl⟩
 rw[hG]
 cases hp:reP untZ (fun L=>qrP L 12) s with
 | bad l c er=>
   rw[hp]at hx
   subst hx
   have her:=rep_nz (fun L i=>qr_nz 12 i) hp
   have e1:(er==0)=false:=by rw[beq_eq_false_iff_ne];exact her
   have e2:(er != 0)=true:=by rw[bne_iff_ne];exact her
   have HG:Hid (G = .bad l c er):=by rw[Hid,←hG];unfold paQ;rw[hp];rfl
   have HGG:=Lib.hid hG
   clear hp hG her
   have q0:=hQ1.at 0 _ rfl
   have fq0:=hQ1.fz 0 (by decide)
   have q1:=hQ1.at 1 _ rfl
   have fq1:=hQ1.fz 1 (by decide)
   have q2:=hQ1.at 2 _ rfl
   have fq2:=hQ1.fz 2 (by decide)
   have q3:=hQ1.at 3 _ rfl
   have fq3:=hQ1.fz 3 (by decide)
   have q4:=hQ1.at 4 _ rfl
   have fq4:=hQ1.fz 4 (by decide)
   have q5:=hQ1.at 5 _ rfl
   have fq5:=hQ1.fz 5 (by decide)
   have q6:=hQ1.at 6 _ rfl
   have fq6:=hQ1.fz 6 (by decide)
   have q7:=hQ1.at 7 _ rfl
   have fq7:=hQ1.fz 7 (by decide)
   have q8:=hQ1.at 8 _ rfl
   have fq8:=hQ1.fz 8 (by decide)
   have q9:=hQ1.at 9 _ rfl
   have fq9:=hQ1.fz 9 (by decide)
   have q10:=hQ1.at 10 _ rfl
   have fq10:=hQ1.fz 10 (by decide)
   have q11:=hQ1.at 11 _ rfl
   have fq11:=hQ1.fz 11 (by decide)
   have q12:=hQ1.at 12 _ rfl
   have fq12:=hQ1.fz 12 (by decide)
   have q13:=hQ1.at 13 _ rfl
   have fq13:=hQ1.fz 13 (by decide)
   have q14:=hQ1.at 14 _ rfl
   have fq14:=hQ1.fz 14 (by decide)
   have q15:=hQ1.at 15 _ rfl
   have fq15:=hQ1.fz 15 (by decide)
   have p0:=hP1.at 0 _ rfl
   have p1:=hP1.at 1 _ rfl
   have fp0:=hP1.fz 0 (by simp)
   have fp1:=hP1.fz 1 (by simp)
   have hqs:=hQ1.hD
   have hps:=hP1.hD
   have HQ1:=Lib.hid hQ1
   have HP1:=Lib.hid hP1
   clear hQ1 hP1
   go_wp2_with fail
   go_region
   all_goals
    go_wp2_with fail
    have fin:=pa_fin (l:=l) (c:=c) HQ1.out HP1.out
    refine bodyPost_ret (v:=.tuple #[.agg zeroQ.toArray,.agg #[.int .i64 l,.int .i64 c],.int .i64 er]) (results_cct rfl rfl (run_loadVar_mid _ w.heap.size 0 32 _ _ (fin _).1.rd Tryz.underlying32 rfl (by kernel_rfl)) rfl (run_loadVar_mid _ (w.heap.size+1) 0 50 _ _ (fin _).2.1.rd Tryz.underlying50 rfl poI) rfl) rfl ?_
    rw[show paQ untZ s = .bad l c er from HGG.out.trans HG.out]
    exact⟨ext_frm ((Frm.of_ext hE1).step (fin _).2.2 (fun k h1 h2=>by omega)),rfl⟩
 | ok q j=>
   rw[hp]at hx
   obtain⟨rfl,t,hBt,hI,hm⟩:=hx
   have HV1:∀wx,Ext w1 wx→Hid (Calls Tryz.prog 17 #[.agg (qnS.vals t).toArray] wx fun e w'=>e = .returned (.bool (vdQ q))∧Ext wx w'):=fun wx hE=>by rw[←hm];exact HVl.out _ t wx (hI.ext hE) (HR.out.rsv.ext (hE1.trans hE))
   have HB5:=Lib.hid hBt
   have HI5:=Lib.hid hI
   have HM:=Lib.hid hm
   have HQ1:=Lib.hid hQ1
   have HP1:=Lib.hid hP1
   have HE1:=Lib.hid hE1
   cases hv:vdQ q with
   | true=>
     rw[hv]at HV1
     have HGG:Hid (paQ untZ s = .ok q j):=by rw[Hid];unfold paQ;rw[hp];exact if_pos hv
     clear hp hG hv hBt hI hm hQ1 hP1 hF1 HVl HR
     have hEa:Ext w1 (w1.alloc (.cells #[.int .i64 0,.int .i64 0] 50)):=(Ext.refl w1).alloc _
     go_wp2_with (first
      | (go_at_call 17;(with_reducible refine(HV1 _ (by(repeat (with_reducible (first|assumption|exact Ext.refl _|refine Ext.alloc ?_ _|refine Ext.setCell ?_ (by simp) _|refine Ext.setCell ?_ (by simp;omega) _|refine Ext.drewN ?_ _|refine Ext.drew ?_))))).out.mono ?_);rintro e w2 ⟨rfl,hE2⟩;have hE3:=hEa.trans hE2)
      | ((with_reducible show wpList _ _ _ (⟨some 17,.load _ _,_,_,_,_⟩::_) _ _);refine wpl_load rfl 32 _ rfl (w.heap.size+1+1) 0 rfl (qnS.vals t) _ (HB5.out.ext hEa).rd Tryz.underlying32 rfl (info_q t) ?_)
      | ((with_reducible show wpList _ _ _ (⟨some 26,.load _ _,_,_,_,_⟩::_) _ _);refine wpl_load rfl 32 _ rfl (w.heap.size+1+1) 0 rfl (qnS.vals t) _ (HB5.out.ext hE3).rd Tryz.underlying32 rfl (info_q t) ?_)
      | ((with_reducible show wpList _ _ _ (⟨none,.store _ (.tmp 2) _,_,_,_,_⟩::_) _ _);refine wpl_st rfl 32 _ _ rfl w.heap.size zeroQ (qnS.vals t) rfl rfl (HQ1.out.ext hE3) rfl (info_q t) (vals_one_q t) ?_;intro W6 hF6 hB6)
      | ((with_reducible show wpList _ _ _ (⟨none,.store _ (.tmp 3) _,_,_,_,_⟩::_) _ _);refine wpl_st rfl 50 _ _ rfl (w.heap.size+1) [.int .i64 0,.int .i64 0] [.int .i64 0,.int .i64 0] rfl rfl ((HP1.out.ext hE3).frm hF6 (fun e=>by omega)) rfl poI rfl ?_;intro W7 hF7 hB7))
     refine bodyPost_ret (v:=.tuple #[.agg (qnS.vals t).toArray,.agg #[.int .i64 0,.int .i64 0],.int .i64 0]) (results_cct rfl rfl (run_loadVar_mid _ w.heap.size 0 32 _ _ (hB6.frm hF7 (fun e=>by omega)).rd Tryz.underlying32 rfl (info_q t)) rfl (run_loadVar_mid _ (w.heap.size+1) 0 50 _ _ hB7.rd Tryz.underlying50 rfl poI) rfl) rfl ?_
     rw[HGG.out]
     have hW:Ext w W7:=ext_frm (((Frm.of_ext (HE1.out.trans hE3)).step hF6 (fun k h1 h2=>by omega)).step hF7 (fun k h1 h2=>by omega))
     refine⟨hW,t,rfl,?_,HM.out⟩
     exact((((HI5.out.ext hE3).kp (Kp.frm hF6 (fun k h1 e=>by simp only[World.size_alloc]at h1;omega))).kp (Kp.frm hF7 (fun k h1 e=>by simp only[World.size_alloc]at h1;omega))).mono (fun k h1 _=>by simp only[World.size_alloc]at h1;omega))
   | false=>
     rw[hv]at HV1
     have HGG:Hid (paQ untZ s = .bad 0 0 1):=by rw[Hid];unfold paQ;rw[hp];exact if_neg (by rw[hv];simp)
     clear hp hG hv hBt hI hm hQ1 hP1 hF1 HVl HR HI5 HM
     have hEa:Ext w1 (w1.alloc (.cells #[.int .i64 0,.int .i64 0] 50)):=(Ext.refl w1).alloc _
     have hqs1:w.heap.size<w1.heap.size:=HQ1.out.hD
     have hps1:w.heap.size+1<w1.heap.size:=HP1.out.hD
     have c60:(w1.alloc (.cells #[.int .i64 0,.int .i64 0] 50)).cell? ⟨w1.heap.size,0,none⟩=some (.int .i64 0):=(BxT.new w1 [.int .i64 0,.int .i64 0] 50).at 0 _ rfl
     have c61:(w1.alloc (.cells #[.int .i64 0,.int .i64 0] 50)).cell? ⟨w1.heap.size,1,none⟩=some (.int .i64 0):=(BxT.new w1 [.int .i64 0,.int .i64 0] 50).at 1 _ rfl
     go_wp2_with (first
      | (go_at_call 17;(with_reducible refine(HV1 _ (by(repeat (with_reducible (first|assumption|exact Ext.refl _|refine Ext.alloc ?_ _|refine Ext.setCell ?_ (by simp) _|refine Ext.setCell ?_ (by simp;omega) _|refine Ext.drewN ?_ _|refine Ext.drew ?_))))).out.mono ?_);rintro e w2 ⟨rfl,hE2⟩;have hE3:=hEa.trans hE2;have u60:=(hE2.cells w1.heap.size 0 (by simp)).trans c60;have u61:=(hE2.cells w1.heap.size 1 (by simp)).trans c61;have hQ2:=HQ1.out.ext hE3;have hP2:=HP1.out.ext hE3;have q0:=hQ2.at 0 _ rfl;have fq0:=hQ2.fz 0 (by decide);have q1:=hQ2.at 1 _ rfl;have fq1:=hQ2.fz 1 (by decide);have q2:=hQ2.at 2 _ rfl;have fq2:=hQ2.fz 2 (by decide);have q3:=hQ2.at 3 _ rfl;have fq3:=hQ2.fz 3 (by decide);have q4:=hQ2.at 4 _ rfl;have fq4:=hQ2.fz 4 (by decide);have q5:=hQ2.at 5 _ rfl;have fq5:=hQ2.fz 5 (by decide);have q6:=hQ2.at 6 _ rfl;have fq6:=hQ2.fz 6 (by decide);have q7:=hQ2.at 7 _ rfl;have fq7:=hQ2.fz 7 (by decide);have q8:=hQ2.at 8 _ rfl;have fq8:=hQ2.fz 8 (by decide);have q9:=hQ2.at 9 _ rfl;have fq9:=hQ2.fz 9 (by decide);have q10:=hQ2.at 10 _ rfl;have fq10:=hQ2.fz 10 (by decide);have q11:=hQ2.at 11 _ rfl;have fq11:=hQ2.fz 11 (by decide);have q12:=hQ2.at 12 _ rfl;have fq12:=hQ2.fz 12 (by decide);have q13:=hQ2.at 13 _ rfl;have fq13:=hQ2.fz 13 (by decide);have q14:=hQ2.at 14 _ rfl;have fq14:=hQ2.fz 14 (by decide);have q15:=hQ2.at 15 _ rfl;have fq15:=hQ2.fz 15 (by decide);have p0:=hP2.at 0 _ rfl;have p1:=hP2.at 1 _ rfl;have fp0:=hP2.fz 0 (by simp);have fp1:=hP2.fz 1 (by simp);have hqs:=hQ2.hD;have hps:=hP2.hD;have HQ2:=Lib.hid hQ2;have HP2:=Lib.hid hP2;clear hQ2 hP2)
      | ((with_reducible show wpList _ _ _ (⟨some 17,.load _ _,_,_,_,_⟩::_) _ _);refine wpl_load rfl 32 _ rfl (w.heap.size+1+1) 0 rfl (qnS.vals t) _ (HB5.out.ext hEa).rd Tryz.underlying32 rfl (info_q t) ?_))
     go_region
     all_goals
      go_wp2_with fail
      have fin:=pa_fin2 (l:=0) (c:=0) HQ2.out HP2.out
      refine bodyPost_ret (v:=.tuple #[.agg zeroQ.toArray,.agg #[.int .i64 0,.int .i64 0],.int .i64 1]) (results_cct rfl rfl (run_loadVar_mid _ w.heap.size 0 32 _ _ fin.1.rd Tryz.underlying32 rfl (by kernel_rfl)) rfl (run_loadVar_mid _ (w.heap.size+1) 0 50 _ _ fin.2.1.rd Tryz.underlying50 rfl poI) rfl) rfl ?_
      rw[HGG.out]
      exact⟨ext_frm ((Frm.of_ext (HE1.out.trans hE3)).step fin.2.2 (fun k h1 h2=>by omega)),rfl⟩
end Go.Proofs.YtlmeinikknoeeaaGreatDoor
namespace Go.Proofs.YtlmeinikknoeeaaGreatDoor
set_option linter.unusedVariables false
set_option linter.unnecessarySimpa false
set_option linter.unusedSimpArgs false
open Go.RowKit
end Go.Proofs.YtlmeinikknoeeaaGreatDoor
namespace Go.Proofs.YtlmeinikknoeeaaGreatDoor
set_option linter.unusedVariables false
set_option linter.unnecessarySimpa false
set_option linter.unusedSimpArgs false
open Go.RowKit
theorem cdN_12 {k:Int} (hk:k=1∨k=2) (col oth:List UInt8) (v:ValD) (n:Nat):cdN ⟨k,col,oth,v⟩ n=(decide (col≠[])&&decide (n=0)&&(if oth = []then vlQ v else decide (v=ValD.zero))):=by
 unfold cdN;rw[if_pos hk]
theorem cdN_36 {k:Int} (hk:3≤k∧k≤6) (col oth:List UInt8) (v:ValD) (n:Nat):cdN ⟨k,col,oth,v⟩ n=(decide (col = [])&&decide (oth = [])&&decide (v=ValD.zero)&&decide (n=if k=3 then 0 else if k=4 then 1 else 2)):=by
 unfold cdN;rw[if_neg (by show ¬(k=1∨k=2);omega),if_pos hk]
theorem cdN_no {k:Int} (hk:¬(1≤k∧k≤6)) (col oth:List UInt8) (v:ValD) (n:Nat):cdN ⟨k,col,oth,v⟩ n=false:=by
 unfold cdN;rw[if_neg (by show ¬(k=1∨k=2);omega),if_neg (by show ¬(3≤k∧k≤6);omega)]
theorem fmK_big {c:Tr CdD} {d n:Nat} (h:60<n+1∨12<d):fmK cdN c d n=none:=by
 cases c;rw[fmK,if_pos h]
theorem fmK_no {a:CdD} {l:List (Tr CdD)} {d n:Nat} (h:cdN a l.length=false):fmK cdN (.mk a l) d n=none:=by
 rw[fmK,if_pos h]
 split<;>rfl
theorem fmK_yes {a:CdD} {l:List (Tr CdD)} {d n:Nat} (h0:¬(60<n+1∨12<d)) (h:cdN a l.length=true):fmK cdN (.mk a l) d n=fmCs cdN l d (n+1):=by
 rw[fmK,if_neg h0,if_neg (by rw[h];decide)]
theorem vform_c:∀(m:Nat) (t:Cnd),szC t≤m→∀(d n N:Nat) (w:World),d≤1000→n≤1000→BxT N [.int .i64 (n:Int)] w→InC (fun k=>k<N) w t→
  Calls Tryz.prog 164 #[.agg (cdS.vals t).toArray,.int .i64 (d:Int),.pointer (some ⟨N,0,none⟩)] w (FmV N w (fmK cdN (mapT CdA.d t) d n))
 | 0,t,hm,_,_,_,_,_,_,_,_=>by have:=szC_pos t;omega
 | m+1,.mk ⟨⟨k,col,oth,vk,vn,vs⟩,ao,cap⟩ l,hm,d,n,N,w,hd,hn,hN,hI=>by
   have hok:=hI.parts.1
   have hrd:=hI.parts.2.1
   by_cases hbig:60<n+1∨12<d
   ·rw[fmK_big hbig]
    exact vform_big d n N w hn hd hN hbig
   have hn60:n<60:=by omega
   have hd12:d≤12:=by omega
   have hs:Bs vs:=hok.2.2.1
   rw[mapT]
   show Calls Tryz.prog 164 _ w (FmV N w (fmK cdN (.mk ⟨k,col,oth,⟨vk,vn,vs⟩⟩ (mapTs CdA.d l)) d n))
   have hK:∀x∈l,∀(p:Nat) (wx:World),p≤60→BxT N [.int .i64 (p:Int)] wx→Frm (fun k=>k=N) w wx→Calls Tryz.prog 164 #[.agg (cdS.vals x).toArray,.int .i64 ((d:Int)+1),.pointer (some ⟨N,0,none⟩)] wx (FmV N wx (fmK cdN (mapT CdA.d x) (d+1) p)):=fun x hx p wx hp hB hF=>by
    have hxs:szC x≤m:=by
     have:=szC_lt (t:=.mk ⟨⟨k,col,oth,vk,vn,vs⟩,ao,cap⟩ l) (show x∈(Tr.mk (⟨⟨k,col,oth,vk,vn,vs⟩,ao,cap⟩:CdA) l).l from hx)
     omega
    have e:((d+1:Nat):Int)=(d:Int)+1:=by omega
    have:=vform_c m x hxs (d+1) p N wx (by omega) (by omega) hB (InC.kp (Kp.frm hF (fun k h e=>by omega)) (hI.parts.2.2 x hx))
    rwa [e]at this
   by_cases h12:k=1∨k=2
   ·have hN0:=fun b=>cdN_12 h12 col oth ⟨vk,vn,vs⟩ b
    by_cases hc:col = []
    ·rw[fmK_no (by rw[hN0,hc];simp)]
     exact vf_w (ob:=oth == []) (vb:=vlQ ⟨vk,vn,vs⟩) (nz:=!decide (vk=0∧vn=0∧vs = [])) d n N w h12 hn60 hd12 hN hs (.inl ⟨by rw[hc];rfl,rfl,rfl,rfl,rfl⟩)
    have hcb:(col == [])=false:=by rw[beq_eq_false_iff_ne];exact hc
    by_cases ho:oth = []
    ·have hob:(oth == [])=true:=by rw[ho];rfl
     have hnb:(oth != [])=false:=by rw[ho];rfl
     cases hv:vlQ ⟨vk,vn,vs⟩with
     | false=>
       rw[fmK_no (by rw[hN0,if_pos ho,hv];simp)]
       exact vf_w (ob:=oth == []) (vb:=vlQ ⟨vk,vn,vs⟩) (nz:=!decide (vk=0∧vn=0∧vs = [])) d n N w h12 hn60 hd12 hN hs (.inr (.inl ⟨hcb,hob,hv,rfl,rfl⟩))
     | true=>
       by_cases hl:l = []
       ·rw[fmK_yes hbig (by rw[hN0,if_pos ho,hv,hl];simp[hc,mapTs])]
        subst hl
        exact vf_w (ob:=oth == []) (vb:=vlQ ⟨vk,vn,vs⟩) (nz:=!decide (vk=0∧vn=0∧vs = [])) d n N w h12 hn60 hd12 hN hs (.inr (.inr (.inr (.inr (.inr (.inr (.inl ⟨hcb,hob,hv,rfl,rfl,rfl⟩)))))))
       ·have hl0:l.length≠0:=fun e=>hl (List.length_eq_zero_iff.1 e)
        rw[fmK_no (by rw[hN0,mapTs_len,decide_eq_false hl0];simp)]
        exact vf_w (ob:=oth == []) (vb:=vlQ ⟨vk,vn,vs⟩) (nz:=!decide (vk=0∧vn=0∧vs = [])) d n N w h12 hn60 hd12 hN hs (.inr (.inr (.inr (.inr (.inl ⟨hcb,hob,hv,rfl,by rw[bne_iff_ne];omega,rfl⟩)))))
    ·have hob:(oth == [])=false:=by rw[beq_eq_false_iff_ne];exact ho
     have hnb:(oth != [])=true:=by rw[bne_iff_ne];exact ho
     cases hv:vlQ ⟨vk,vn,vs⟩with
     | true=>
       have hz:¬(⟨vk,vn,vs⟩:ValD)=ValD.zero:=fun e=>by rw[e]at hv;exact absurd hv (by decide)
       rw[fmK_no (by rw[hN0,if_neg ho,decide_eq_false hz];simp)]
       exact vf_w (ob:=oth == []) (vb:=vlQ ⟨vk,vn,vs⟩) (nz:=!decide (vk=0∧vn=0∧vs = [])) d n N w h12 hn60 hd12 hN hs (.inr (.inr (.inl ⟨hcb,hob,hv,rfl,rfl⟩)))
     | false=>
       by_cases hz:vk=0∧vn=0∧vs = []
       ·have hnz:(!decide (vk=0∧vn=0∧vs = []))=false:=by rw[decide_eq_true hz];rfl
        have hz2:(⟨vk,vn,vs⟩:ValD)=ValD.zero:=by rw[hz.1,hz.2.1,hz.2.2];rfl
        by_cases hl:l = []
        ·rw[fmK_yes hbig (by rw[hN0,if_neg ho,decide_eq_true hz2,hl];simp[hc,mapTs])]
         subst hl
         exact vf_w (ob:=oth == []) (vb:=vlQ ⟨vk,vn,vs⟩) (nz:=!decide (vk=0∧vn=0∧vs = [])) d n N w h12 hn60 hd12 hN hs (.inr (.inr (.inr (.inr (.inr (.inr (.inr (⟨hcb,hob,hv,hnz,rfl,rfl⟩))))))))
        ·have hl0:l.length≠0:=fun e=>hl (List.length_eq_zero_iff.1 e)
         rw[fmK_no (by rw[hN0,mapTs_len,decide_eq_false hl0];simp)]
         exact vf_w (ob:=oth == []) (vb:=vlQ ⟨vk,vn,vs⟩) (nz:=!decide (vk=0∧vn=0∧vs = [])) d n N w h12 hn60 hd12 hN hs (.inr (.inr (.inr (.inr (.inr (.inl ⟨hcb,hob,hv,hnz,by rw[bne_iff_ne];omega,rfl⟩))))))
       ·have hz2:¬(⟨vk,vn,vs⟩:ValD)=ValD.zero:=fun e=>hz (by unfold ValD.zero at e;injection e with e1 e2 e3;exact⟨e1,e2,e3⟩)
        rw[fmK_no (by rw[hN0,if_neg ho,decide_eq_false hz2];simp)]
        exact vf_w (ob:=oth == []) (vb:=vlQ ⟨vk,vn,vs⟩) (nz:=!decide (vk=0∧vn=0∧vs = [])) d n N w h12 hn60 hd12 hN hs (.inr (.inr (.inr (.inl ⟨hcb,hob,hv,by rw[decide_eq_false hz];rfl,rfl⟩))))
   by_cases h36:3≤k∧k≤6
   ·have hN0:=fun b=>cdN_36 h36 col oth ⟨vk,vn,vs⟩ b
    have hk:k=3∨k=4∨k=5∨k=6:=by omega
    by_cases hc:col = []
    case neg=>
     rw[fmK_no (by rw[hN0,decide_eq_false hc];simp)]
     exact vform_n d n N w hk hn60 hd12 hN (.inl (by rw[beq_eq_false_iff_ne];exact hc))
    have hcb:(col == [])=true:=by rw[hc];rfl
    by_cases ho:oth = []
    case neg=>
     rw[fmK_no (by rw[hN0,decide_eq_false ho];simp)]
     exact vform_n d n N w hk hn60 hd12 hN (.inr (.inl ⟨hcb,by rw[beq_eq_false_iff_ne];exact ho⟩))
    have hob:(oth == [])=true:=by rw[ho];rfl
    by_cases hz:vk=0∧vn=0∧vs = []
    case neg=>
     have hz2:¬(⟨vk,vn,vs⟩:ValD)=ValD.zero:=fun e=>hz (by unfold ValD.zero at e;injection e with e1 e2 e3;exact⟨e1,e2,e3⟩)
     rw[fmK_no (by rw[hN0,decide_eq_false hz2];simp)]
     exact vform_n d n N w hk hn60 hd12 hN (.inr (.inr ⟨hcb,hob,by rw[decide_eq_false hz];rfl⟩))
    have hnz:(!decide (vk=0∧vn=0∧vs = []))=false:=by rw[decide_eq_true hz];rfl
    have hz2:(⟨vk,vn,vs⟩:ValD)=ValD.zero:=by rw[hz.1,hz.2.1,hz.2.2];rfl
    have hgo:∀v:Nat,(if k=3 then 0 else if k=4 then 1 else 2)=v→(l.length≠v→cdN ⟨k,col,oth,⟨vk,vn,vs⟩⟩ (mapTs CdA.d l).length=false)∧(l.length=v→cdN ⟨k,col,oth,⟨vk,vn,vs⟩⟩ (mapTs CdA.d l).length=true):=fun v hv=>by
     rw[hN0,mapTs_len,hv,hc,ho,decide_eq_true hz2]
     exact⟨fun h=>by rw[decide_eq_false h];rfl,fun h=>by rw[decide_eq_true h];rfl⟩
    rcases hk with rfl|rfl|rfl|rfl
    ·by_cases hl:l.length=0
     ·rw[fmK_yes hbig ((hgo 0 rfl).2 hl)]
      exact vform_k d n N w (.inl ⟨rfl,rfl⟩) hn60 hd12 hN hcb hob hnz (by rw[hl];rfl) hrd hK
     ·rw[fmK_no ((hgo 0 rfl).1 hl)]
      exact vform_l d n N w (.inl ⟨rfl,rfl⟩) hn60 hd12 hN hcb hob hnz (by rw[bne_iff_ne];omega)
    ·by_cases hl:l.length=1
     ·rw[fmK_yes hbig ((hgo 1 rfl).2 hl)]
      exact vform_k d n N w (.inr (.inl ⟨rfl,rfl⟩)) hn60 hd12 hN hcb hob hnz (by rw[hl];rfl) hrd hK
     ·rw[fmK_no ((hgo 1 rfl).1 hl)]
      exact vform_l d n N w (.inr (.inl ⟨rfl,rfl⟩)) hn60 hd12 hN hcb hob hnz (by rw[bne_iff_ne];omega)
    ·by_cases hl:l.length=2
     ·rw[fmK_yes hbig ((hgo 2 rfl).2 hl)]
      exact vform_k d n N w (.inr (.inr (.inl ⟨rfl,rfl⟩))) hn60 hd12 hN hcb hob hnz (by rw[hl];rfl) hrd hK
     ·rw[fmK_no ((hgo 2 rfl).1 hl)]
      exact vform_l d n N w (.inr (.inr (.inl ⟨rfl,rfl⟩))) hn60 hd12 hN hcb hob hnz (by rw[bne_iff_ne];omega)
    ·by_cases hl:l.length=2
     ·rw[fmK_yes hbig ((hgo 2 rfl).2 hl)]
      exact vform_k d n N w (.inr (.inr (.inr ⟨rfl,rfl⟩))) hn60 hd12 hN hcb hob hnz (by rw[hl];rfl) hrd hK
     ·rw[fmK_no ((hgo 2 rfl).1 hl)]
      exact vform_l d n N w (.inr (.inr (.inr ⟨rfl,rfl⟩))) hn60 hd12 hN hcb hob hnz (by rw[bne_iff_ne];omega)
   ·have hk:¬(1≤k∧k≤6):=by omega
    rw[fmK_no (cdN_no hk _ _ _ _)]
    exact vform_o d n N w hk hn60 hd12 hN
set_option maxRecDepth 100000 in
set_option maxHeartbeats 1000000 in
theorem check_c (A:Nat→Prop) (t:Cnd) (w:World) (hI:InC A w t) :
  Calls Tryz.prog 87 #[.agg (cdS.vals t).toArray,.slice none 0 0] w fun e w'=>(∃z:Int,e = .returned (.int .i64 z)∧(z=1↔frmQ (mapT CdA.d t)=false))∧Ext w w':=by
 have hB:=BxT.new w (cdS.vals t) 27
 have hE0:Ext w (w.alloc (.cells (cdS.vals t).toArray 27)):=(Ext.refl w).alloc _
 have hE1:Ext (w.alloc (.cells (cdS.vals t).toArray 27)) ((w.alloc (.cells (cdS.vals t).toArray 27)).alloc (.cells #[.int .i64 0] 3)):=(Ext.refl _).alloc _
 have hC:=BxT.new (w.alloc (.cells (cdS.vals t).toArray 27)) [.int .i64 0] 3
 rw[World.size_alloc]at hC
 have HB:=Lib.hid (hB.ext hE1)
 have HC:=Lib.hid hC
 have hI2:InC (fun k=>k<w.heap.size+1) ((w.alloc (.cells (cdS.vals t).toArray 27)).alloc (.cells #[.int .i64 0] 3)) t:=((hI.mono (fun k _ h=>by omega)).ext (hE0.trans hE1):InC (fun k=>k<w.heap.size+1) _ t)
 have HF:Hid (Calls Tryz.prog 164 #[.agg (cdS.vals t).toArray,.int .i64 1,.pointer (some ⟨w.heap.size+1,0,none⟩)] ((w.alloc (.cells (cdS.vals t).toArray 27)).alloc (.cells #[.int .i64 0] 3)) (FmV (w.heap.size+1) ((w.alloc (.cells (cdS.vals t).toArray 27)).alloc (.cells #[.int .i64 0] 3)) (fmK cdN (mapT CdA.d t) 1 0))):=
  vform_c (szC t) t (Nat.le_refl _) 1 0 (w.heap.size+1) _ (by decide) (by decide) hC hI2
 have hq:fmK cdN (mapT CdA.d t) 1 0=none↔frmQ (mapT CdA.d t)=false:=by
  have:=fmK_iff cdN (mapT CdA.d t)
  unfold frmQ
  rw[decide_eq_false_iff_not,←this]
  cases fmK cdN (mapT CdA.d t) 1 0<;>simp
 have HI:Hid (InC (fun k=>k<w.heap.size) ((w.alloc (.cells (cdS.vals t).toArray 27)).alloc (.cells #[.int .i64 0] 3)) t):=InC.ext (hI.mono (fun k _ h=>h)) (hE0.trans hE1)
 obtain⟨F,hF⟩:∃F,frmQ (mapT CdA.d t)=F:=⟨_,rfl⟩
 rw[hF]at hq ⊢
 clear hB hC hI2 hF hI
 cases hr:fmK cdN (mapT CdA.d t) 1 0 with
 | none=>
   have Hq:Hid (F=false):=hq.1 hr
   rw[hr]at HF
   clear hq hr
   go_enter Tryz.func87,Tryz.ntmps87
   go_wp2_with (first
    | ((with_reducible show wpList _ _ _ (⟨some 6,.load _ _,_,_,_,_⟩::_) _ _);refine wpl_load rfl 27 _ rfl w.heap.size 0 rfl (cdS.vals t) _ HB.out.rd Tryz.underlying27 rfl (info_c t) ?_)
    | (go_at_call 164;(with_reducible refine HF.out.mono ?_);rintro e w1 ⟨hF1,rfl⟩))
   go_ret
   exact⟨⟨1,rfl,fun _=>Hq.out,fun _=>rfl⟩,ext_frm ((Frm.of_ext (hE0.trans hE1)).step hF1 (fun k h1 h2=>by omega))⟩
 | some m=>
   have Hq:Hid (¬F=false):=fun e=>by have:=hq.2 e;rw[hr]at this;cases this
   rw[hr]at HF
   clear hq hr
   go_enter Tryz.func87,Tryz.ntmps87
   go_wp2_with (first
    | ((with_reducible show wpList _ _ _ (⟨some 6,.load _ _,_,_,_,_⟩::_) _ _);refine wpl_load rfl 27 _ rfl w.heap.size 0 rfl (cdS.vals t) _ HB.out.rd Tryz.underlying27 rfl (info_c t) ?_)
    | (go_at_call 164;(with_reducible refine HF.out.mono ?_);rintro e w1 ⟨hF1,rfl,hN1⟩;have HB1:=HB.out.frm hF1 (by omega);have HI1:=Lib.hid (InC.kp (Kp.frm (A:=fun k=>k<w.heap.size) hF1 (fun k h e=>by omega)) HI.out))
    | ((with_reducible show wpList _ _ _ (⟨some 9,.load _ _,_,_,_,_⟩::_) _ _);refine wpl_load rfl 27 _ rfl w.heap.size 0 rfl (cdS.vals t) _ HB1.rd Tryz.underlying27 rfl (info_c t) ?_)
    | (go_at_call 165;(with_reducible refine(vtyped_c (szC t) t (Nat.le_refl _) _ _ HI1.out).mono ?_);rintro e w2 ⟨⟨z,rfl,hz⟩,hE2⟩))
   go_ret
   exact⟨⟨z,rfl,fun h=>absurd h hz,fun h=>absurd h Hq.out⟩,ext_frm (((Frm.of_ext (hE0.trans hE1)).step hF1 (fun k h1 h2=>by omega)).trans (Frm.of_ext hE2))⟩
end Go.Proofs.YtlmeinikknoeeaaGreatDoor
namespace Go.Proofs.YtlmeinikknoeeaaGreatDoor
set_option linter.unusedVariables false
set_option linter.unnecessarySimpa false
set_option linter.unusedSimpArgs false
open Go.RowKit
set_option maxRecDepth 100000 in
set_option maxHeartbeats 1000000 in
theorem cond_t (A:Nat→Prop) (t:Cnd) (w:World) (hI:InC A w t) (hw:Rsv w):Calls Tryz.prog 62 #[.agg (cdS.vals t).toArray] w fun e w'=>e = .returned (.bool (cdQ (mapT CdA.d t)))∧Ext w w':=by
 have hE0:Ext w (w.alloc (.cells (cdS.vals t).toArray 27)):=(Ext.refl w).alloc _
 have HB:=Lib.hid (BxT.new w (cdS.vals t) 27)
 have HI:=Lib.hid (InC.ext hI hE0)
 have HW:=Lib.hid (hw.ext hE0)
 have HC:=Lib.hid (check_c A t _ HI.out)
 obtain⟨G,hG⟩:∃G,cdQ (mapT CdA.d t)=G:=⟨_,rfl⟩
 rw[hG]
 unfold cdQ at hG
 cases hf:frmQ (mapT CdA.d t)with
 | false=>
   rw[hf,Bool.false_and]at hG
   subst hG
   rw[hf]at HC
   clear hf hI hw
   go_enter Tryz.func62,Tryz.ntmps62
   go_wp2_with (first
    | ((with_reducible show wpList _ _ _ (⟨some 3,.load _ _,_,_,_,_⟩::_) _ _);refine wpl_load rfl 27 _ rfl w.heap.size 0 rfl (cdS.vals t) _ HB.out.rd Tryz.underlying27 rfl (info_c t) ?_)
    | (go_at_call 87;(with_reducible refine HC.out.mono ?_);rintro e w1 ⟨⟨z,rfl,hz⟩,hE1⟩;obtain rfl:=hz.2 rfl;clear hz))
   go_ret
   exact⟨rfl,hE0.trans hE1⟩
 | true=>
   rw[hf,Bool.true_and,←fmd_eq _ 1 (frm_gd hf).1]at hG
   rw[hf]at HC
   have HQ:=fun wx hE=>Lib.hid (qformed_c (szC t) t (Nat.le_refl _) A wx (InC.ext HI.out hE) (HW.out.ext hE))
   rw[hG]at HQ
   clear hf hI hw hG
   go_enter Tryz.func62,Tryz.ntmps62
   go_wp2_with (first
    | ((with_reducible show wpList _ _ _ (⟨some 3,.load _ _,_,_,_,_⟩::_) _ _);refine wpl_load rfl 27 _ rfl w.heap.size 0 rfl (cdS.vals t) _ HB.out.rd Tryz.underlying27 rfl (info_c t) ?_)
    | (go_at_call 87;(with_reducible refine HC.out.mono ?_);rintro e w1 ⟨⟨z,rfl,hz⟩,hE1⟩;have hz1:(z != 1)=true:=(by rw[bne_iff_ne];exact fun q=>by have:=hz.1 q;cases this);have HB1:=HB.out.ext hE1;clear hz)
    | ((with_reducible show wpList _ _ _ (⟨some 7,.load _ _,_,_,_,_⟩::_) _ _);refine wpl_load rfl 27 _ rfl w.heap.size 0 rfl (cdS.vals t) _ HB1.rd Tryz.underlying27 rfl (info_c t) ?_)
    | (go_at_call 131;(with_reducible refine(HQ _ hE1).out.mono ?_);rintro e w2 ⟨rfl,hE2⟩))
   go_ret
   exact⟨rfl,(hE0.trans hE1).trans hE2⟩
end Go.Proofs.YtlmeinikknoeeaaGreatDoor
