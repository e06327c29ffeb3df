/- Queries: the parser in memory; a query that is none, one that is too deep; a query, whole. -/
import Derived.Test.YtlmeinikknoeeaaGreatDoorQ32
import Derived.Test.YtlmeinikknoeeaaGreatDoorQ33
import Derived.Test.YtlmeinikknoeeaaGreatDoorQ34
import Derived.Test.YtlmeinikknoeeaaGreatDoorQ31
namespace Go.Proofs.YtlmeinikknoeeaaGreatDoor
set_option maxRecDepth 100000
set_option maxHeartbeats 16000000
set_option linter.unusedVariables false
set_option linter.unnecessarySimpa false
set_option linter.unusedSimpArgs false
open Go.RowKit
theorem qrP_none {L:List TkD} {k i:Nat} (hi:L[i]? = none):qrP L k i = .bad 0 0 4:=by
 cases k<;>(rw[qrP];unfold pkP;rw[hi];rfl)
theorem qrP_no {L:List TkD} {k i:Nat} {t:TkD} (hi:L[i]? = some t) (h:t.k≠1∨kndP t.tx=0):qrP L k i = .bad t.ln t.cl 3:=by
 cases k<;>(rw[qrP,pkP_at hi];exact(if_pos h).trans (wrP_at hi 3))
theorem qrP_deep {L:List TkD} {i:Nat} {t:TkD} (hi:L[i]? = some t) (h:¬(t.k≠1∨kndP t.tx=0)):qrP L 0 i = .bad t.ln t.cl 5:=by
 rw[qrP,pkP_at hi];exact(if_neg h).trans (wrP_at hi 5)
theorem kndP_is {s:List UInt8} (h:kndP s≠0):kndP s=1∨kndP s=2∨kndP s=3∨kndP s=4∨kndP s=5∨kndP s=6∨kndP s=7∨kndP s=8∨kndP s=9∨kndP s=10:=by
 unfold kndP at h ⊢
 repeat (split at h;simp_all)
 exact absurd rfl h
section
variable {L:List TkD} {ao:Option Addr} {cap B:Nat}
theorem query_zero {k:Nat} {d:Int} {i:Nat} {w:World} (h:Psr L ao cap B i w) (t:TkD) (hi:L[i]? = some t) (hk:t.k=1) (hn:kndP t.tx=0) :
  Calls Tryz.prog 58 #[.pointer (some ⟨B,0,none⟩),.int .i64 d] w (PR L ao cap B w (QyV w.heap.size) (qrP L k i)):=by
 obtain⟨G,hG⟩:∃G,qrP L k i=G:=⟨_,rfl⟩
 have HG:Hid (G = .bad t.ln t.cl 3):=by rw[Hid,←hG];exact qrP_no hi (.inr hn)
 rw[hG]
 clear hG
 have HP:=fun w' (hE:Ext w w')=>Lib.hid (peek_ok (h.ext hE) t hi)
 have HW:=fun w' (hP:Psr L ao cap B i w')=>Lib.hid (wrong_ok 3 hP t hi)
 have hBl:=h.hB
 have ht:=(h.bdt hi).1
 unfold Bs at ht
 have hil:=h.lt2 hi
 have hl7:=h.hl
 have k1:(t.k==1)=true:=by rw[hk];rfl
 have Hk:=Lib.hid hk
 have Hn:=Lib.hid hn
 have hx1:(i:Int)≤70000:=by omega
 clear hi hk hn
 go_enter Tryz.func58,Tryz.ntmps58
 go_wp2_with (first
  | ((with_reducible show wpList _ _ _ (⟨some 4,.alloc _,_,_,_,_⟩::_) _ _);refine wpl_new rfl 32 zeroQ rfl alloc_q ?_;intro W1 hE1 hR1 hz1)
  | (go_at_call 107;(with_reducible refine(HP _ hE1).out.mono ?_);rintro x w2 ⟨rfl,hE2⟩)
  | ((with_reducible show wpList _ _ _ (⟨some 5,.alloc _,_,_,_,_⟩::_) _ _);refine wpl_new rfl 140 zeroT rfl alloc_t ?_;intro W3 hE3 hR3 hz3)
  | ((with_reducible show wpList _ _ _ (⟨none,.store _ (.tmp 5) _,_,_,_,_⟩::_) _ _);refine wpl_st rfl 140 _ _ rfl w2.heap.size zeroT (tkC t) rfl rfl hR3 rfl (info_t t) (vals_one_t t) ?_;intro W4 hF4 hR4;have ct0:=hR4.at 0 _ rfl)
  | ((with_reducible show wpList _ _ _ (⟨some 6,.alloc _,_,_,_,_⟩::_) _ _);refine wpl_new rfl 32 zeroQ rfl alloc_q ?_;intro W5 hE5 hR5 hz5)
  | ((with_reducible show wpList _ _ _ (⟨none,.store _ (.tmp 6) _,_,_,_,_⟩::_) _ _);refine wpl_st rfl 32 _ _ rfl W4.heap.size zeroQ (qnS.vals (gqA 0 [] none 0 [] none 0 0)) rfl rfl hR5 rfl (info_q (gqA 0 [] none 0 [] none 0 0)) (vals_one_q (gqA 0 [] none 0 [] none 0 0)) ?_;intro W6 hF6 hR6;have ct1:=(hR4.ext hE5).frm hF6 (fun e=>by have:=hR4.hD;omega);have ct0:=ct1.at 0 _ rfl))
 have hs2:=hE2.size
 have hs4:=hF4.size
 have hs6:=hF6.size
 generalize hDD:W4.heap.size=D at *
 generalize hTT:w2.heap.size=T5 at *
 have HT5:=Lib.hid ct1
 have hEx6:Ext w W6:=Frm.far ((Frm.far ((hE1.trans hE2).trans hE3) hF4 (fun k h1 e=>by omega)).trans hE5) hF6 (fun k h1 e=>by omega)
 have HE6:=Lib.hid hEx6
 have HR6:=Lib.hid hR6
 have HRes:Hid (BxT w.heap.size zeroQ W6):=((((hR1.ext hE2).ext hE3).frm hF4 (fun e=>by omega)).ext hE5).frm hF6 (fun e=>by omega)
 have hwD:w.heap.size<D:=by omega
 have hT5D:T5≠D:=by omega
 clear ct0 ct1 hR4 hR3 hR5 hR6 hF4 hF6 hE5 hE3 hE2 hEx6 hR1
 refine wp_region_grow [16,17,18,19,20] [KdO,fun x _=>x = .pointer (some ⟨T5,1,none⟩),fun x _=>x = .string ⟨t.tx.toArray⟩,fun x _=>x = .int .i64 0,fun x _=>x = .pointer (some ⟨D,0,none⟩)] 1 (by kernel_rfl) (by kernel_rfl) (by kernel_rfl) (by kernel_rfl) ?_ ?_ ?_
 ·intro Rl hRl
  simp only[List.mem_cons,List.not_mem_nil,or_false]at hRl
  rcases hRl with rfl|rfl|rfl|rfl|rfl
  all_goals first
   | exact fun _ _ _ h _=>h
   | exact fun _ _ _ h hE=>KdO.ext h hE
 ·refine⟨?_,?_,?_,?_,?_,trivial⟩
  all_goals intro a wv hE hF hD K hK
  ·refine gs_callZ rfl (yr_callZ rfl rfl (show(#[]:Array Operand).map a.eval = #[] by simp) (by kernel_rfl)) (kinds_c wv) ?_
   rintro e w' ⟨M,rfl,hM,hE2⟩
   exact .inl ⟨_,rfl,hK _ _ ⟨M,rfl,hM⟩ hE2⟩
  ·exact gs_valZ rfl (yr_fieldZ rfl ((hF 5 (fr_ofZ rfl)).trans rfl) (fa_t1 T5 wv)) (hK _ _ rfl (Ext.refl _))
  ·have u0:a.eval (.tmp 17) = .pointer (some ⟨T5,1,none⟩):=hD 1 (by kernel_rfl)
   exact gs_valZ rfl (yr_loadZ rfl u0 (ld_str T5 1 _ wv ((HT5.out.ext hE).at 1 _ rfl))) (hK _ _ rfl (Ext.refl _))
  ·obtain⟨M,u1,hM⟩:KdO (a.eval (.tmp 16)) wv:=hD 0 (by kernel_rfl)
   have u2:a.eval (.tmp 18) = .string ⟨t.tx.toArray⟩:=hD 2 (by kernel_rfl)
   exact gs_valZ rfl (yr_lookZ rfl u1 u2 (hM.look t.tx ht _ Hn.out)) (hK _ _ rfl (Ext.refl _))
  ·exact gs_valZ rfl (yr_fieldZ rfl ((hF 6 (fr_ofZ rfl)).trans rfl) (fa_q0 D wv)) (hK _ _ rfl (Ext.refl _))
 intro vals wz hEz hRz
 obtain⟨-,-,-,h3,h4,-⟩:=hRz
 have e19:vals 3 = .int .i64 0:=h3
 have e20:vals 4 = .pointer (some ⟨D,0,none⟩):=h4
 simp only[putF,Act.put,List.length_cons,List.length_nil,List.getD_cons_zero,List.getD_cons_succ,List.setIfInBounds_toArray,List.set_cons_zero,List.set_cons_succ,Nat.reduceAdd,e19,e20]
 clear e19 e20 h3 h4
 refine wpAny_opZ (i:=5) (by kernel_rfl) rfl (by rfl) ?_
 refine gs_st1Z rfl 3 _ _ rfl D 0 (qnS.vals (gqA 0 [] none 0 [] none 0 0)) (.int .i64 0) rfl rfl (HR6.out.ext hEz) (by show 0<16;omega) (st_int D 0 _) ?_
 intro W7 hF7 hR7
 refine wpAny_done (by kernel_rfl) ?_ _
 simp only[Act.put]
 have hzz:=hEz.size
 have hX7:=HE6.out.trans hEz
 have hP7:Psr L ao cap B i W7:=(h.ext hX7).frm hF7 (fun x e=>by omega)
 have HF7:Hid (Frm (fun k=>k=B) w W7):=(Frm.of_ext hX7).step hF7 (fun x h1 e=>by omega)
 have HR7:Hid (BxT D (qnS.vals (qN 0 [] [] none 0 [] none 0 (lfC CdD.zero) 0 0 0 0 none 0 [])) W7):=hR7
 have HE7:=Lib.hid ((HRes.out.ext hEz).frm hF7 (fun e=>by omega))
 have c0:=hR7.at 0 _ rfl
 have c1:=hP7.c1
 have f1:=hP7.f1
 have hB7:=hP7.hB
 have hne:¬D=B:=by omega
 have hne2:¬B=D:=by omega
 have hs7:=hF7.size
 have hD7:=hR7.hD
 have HP7:=Lib.hid hP7
 clear hX7 hEz hP7 hF7 hR7 HE6 HR6 HRes HR7 HE7
 go_wp2_with (first
  | (go_at_call 106;(with_reducible refine(HW _ HP7.out).out.mono ?_);rintro x wG ⟨rfl,hEG⟩))
 exact⟨rfl,PR.no HG.out (HF7.out.trans (Frm.of_ext hEG))⟩
theorem query_deep {k:Nat} {d:Int} {i:Nat} {w:World} (h:Psr L ao cap B i w) (t:TkD) (hi:L[i]? = some t) (hk:t.k=1) (K:Int) (hn:kndP t.tx=K) (hK:K≠0) (hd:12<d) :
  Calls Tryz.prog 58 #[.pointer (some ⟨B,0,none⟩),.int .i64 d] w (PR L ao cap B w (QyV w.heap.size) (qrP L 0 i)):=by
 obtain⟨G,hG⟩:∃G,qrP L 0 i=G:=⟨_,rfl⟩
 have HG:Hid (G = .bad t.ln t.cl 5):=by rw[Hid,←hG];exact qrP_deep hi (by rw[hk,hn];simp[hK])
 rw[hG]
 clear hG
 have HP:=fun w' (hE:Ext w w')=>Lib.hid (peek_ok (h.ext hE) t hi)
 have HW:=fun w' (hP:Psr L ao cap B i w')=>Lib.hid (wrong_ok 5 hP t hi)
 have hBl:=h.hB
 have ht:=(h.bdt hi).1
 unfold Bs at ht
 have hil:=h.lt2 hi
 have hl7:=h.hl
 have k1:(t.k==1)=true:=by rw[hk];rfl
 have Hk:=Lib.hid hk
 have Hn:=Lib.hid hn
 have hx1:(i:Int)≤70000:=by omega
 have hKz:(K==0)=false:=by rw[beq_eq_false_iff_ne];exact hK
 clear hi hk hn hK
 go_enter Tryz.func58,Tryz.ntmps58
 go_wp2_with (first
  | ((with_reducible show wpList _ _ _ (⟨some 4,.alloc _,_,_,_,_⟩::_) _ _);refine wpl_new rfl 32 zeroQ rfl alloc_q ?_;intro W1 hE1 hR1 hz1)
  | (go_at_call 107;(with_reducible refine(HP _ hE1).out.mono ?_);rintro x w2 ⟨rfl,hE2⟩)
  | ((with_reducible show wpList _ _ _ (⟨some 5,.alloc _,_,_,_,_⟩::_) _ _);refine wpl_new rfl 140 zeroT rfl alloc_t ?_;intro W3 hE3 hR3 hz3)
  | ((with_reducible show wpList _ _ _ (⟨none,.store _ (.tmp 5) _,_,_,_,_⟩::_) _ _);refine wpl_st rfl 140 _ _ rfl w2.heap.size zeroT (tkC t) rfl rfl hR3 rfl (info_t t) (vals_one_t t) ?_;intro W4 hF4 hR4;have ct0:=hR4.at 0 _ rfl)
  | ((with_reducible show wpList _ _ _ (⟨some 6,.alloc _,_,_,_,_⟩::_) _ _);refine wpl_new rfl 32 zeroQ rfl alloc_q ?_;intro W5 hE5 hR5 hz5)
  | ((with_reducible show wpList _ _ _ (⟨none,.store _ (.tmp 6) _,_,_,_,_⟩::_) _ _);refine wpl_st rfl 32 _ _ rfl W4.heap.size zeroQ (qnS.vals (gqA 0 [] none 0 [] none 0 0)) rfl rfl hR5 rfl (info_q (gqA 0 [] none 0 [] none 0 0)) (vals_one_q (gqA 0 [] none 0 [] none 0 0)) ?_;intro W6 hF6 hR6;have ct1:=(hR4.ext hE5).frm hF6 (fun e=>by have:=hR4.hD;omega);have ct0:=ct1.at 0 _ rfl))
 have hs2:=hE2.size
 have hs4:=hF4.size
 have hs6:=hF6.size
 generalize hDD:W4.heap.size=D at *
 generalize hTT:w2.heap.size=T5 at *
 have HT5:=Lib.hid ct1
 have hEx6:Ext w W6:=Frm.far ((Frm.far ((hE1.trans hE2).trans hE3) hF4 (fun k h1 e=>by omega)).trans hE5) hF6 (fun k h1 e=>by omega)
 have HE6:=Lib.hid hEx6
 have HR6:=Lib.hid hR6
 have HRes:Hid (BxT w.heap.size zeroQ W6):=((((hR1.ext hE2).ext hE3).frm hF4 (fun e=>by omega)).ext hE5).frm hF6 (fun e=>by omega)
 have hwD:w.heap.size<D:=by omega
 have hT5D:T5≠D:=by omega
 clear ct0 ct1 hR4 hR3 hR5 hR6 hF4 hF6 hE5 hE3 hE2 hEx6 hR1
 refine wp_region_grow [16,17,18,19,20] [KdO,fun x _=>x = .pointer (some ⟨T5,1,none⟩),fun x _=>x = .string ⟨t.tx.toArray⟩,fun x _=>x = .int .i64 K,fun x _=>x = .pointer (some ⟨D,0,none⟩)] 1 (by kernel_rfl) (by kernel_rfl) (by kernel_rfl) (by kernel_rfl) ?_ ?_ ?_
 ·intro Rl hRl
  simp only[List.mem_cons,List.not_mem_nil,or_false]at hRl
  rcases hRl with rfl|rfl|rfl|rfl|rfl
  all_goals first
   | exact fun _ _ _ h _=>h
   | exact fun _ _ _ h hE=>KdO.ext h hE
 ·refine⟨?_,?_,?_,?_,?_,trivial⟩
  all_goals intro a wv hE hF hD K hK
  ·refine gs_callZ rfl (yr_callZ rfl rfl (show(#[]:Array Operand).map a.eval = #[] by simp) (by kernel_rfl)) (kinds_c wv) ?_
   rintro e w' ⟨M,rfl,hM,hE2⟩
   exact .inl ⟨_,rfl,hK _ _ ⟨M,rfl,hM⟩ hE2⟩
  ·exact gs_valZ rfl (yr_fieldZ rfl ((hF 5 (fr_ofZ rfl)).trans rfl) (fa_t1 T5 wv)) (hK _ _ rfl (Ext.refl _))
  ·have u0:a.eval (.tmp 17) = .pointer (some ⟨T5,1,none⟩):=hD 1 (by kernel_rfl)
   exact gs_valZ rfl (yr_loadZ rfl u0 (ld_str T5 1 _ wv ((HT5.out.ext hE).at 1 _ rfl))) (hK _ _ rfl (Ext.refl _))
  ·obtain⟨M,u1,hM⟩:KdO (a.eval (.tmp 16)) wv:=hD 0 (by kernel_rfl)
   have u2:a.eval (.tmp 18) = .string ⟨t.tx.toArray⟩:=hD 2 (by kernel_rfl)
   exact gs_valZ rfl (yr_lookZ rfl u1 u2 (hM.look t.tx ht _ Hn.out)) (hK _ _ rfl (Ext.refl _))
  ·exact gs_valZ rfl (yr_fieldZ rfl ((hF 6 (fr_ofZ rfl)).trans rfl) (fa_q0 D wv)) (hK _ _ rfl (Ext.refl _))
 intro vals wz hEz hRz
 obtain⟨-,-,-,h3,h4,-⟩:=hRz
 have e19:vals 3 = .int .i64 K:=h3
 have e20:vals 4 = .pointer (some ⟨D,0,none⟩):=h4
 simp only[putF,Act.put,List.length_cons,List.length_nil,List.getD_cons_zero,List.getD_cons_succ,List.setIfInBounds_toArray,List.set_cons_zero,List.set_cons_succ,Nat.reduceAdd,e19,e20]
 clear e19 e20 h3 h4
 refine wpAny_opZ (i:=5) (by kernel_rfl) rfl (by rfl) ?_
 refine gs_st1Z rfl 3 _ _ rfl D 0 (qnS.vals (gqA 0 [] none 0 [] none 0 0)) (.int .i64 K) rfl rfl (HR6.out.ext hEz) (by show 0<16;omega) (st_int D 0 _) ?_
 intro W7 hF7 hR7
 refine wpAny_done (by kernel_rfl) ?_ _
 simp only[Act.put]
 have hzz:=hEz.size
 have hX7:=HE6.out.trans hEz
 have hP7:Psr L ao cap B i W7:=(h.ext hX7).frm hF7 (fun x e=>by omega)
 have HF7:Hid (Frm (fun k=>k=B) w W7):=(Frm.of_ext hX7).step hF7 (fun x h1 e=>by omega)
 have HR7:Hid (BxT D (qnS.vals (qN K [] [] none 0 [] none 0 (lfC CdD.zero) 0 0 0 0 none 0 [])) W7):=hR7
 have HE7:=Lib.hid ((HRes.out.ext hEz).frm hF7 (fun e=>by omega))
 have c0:=hR7.at 0 _ rfl
 have c1:=hP7.c1
 have f1:=hP7.f1
 have hB7:=hP7.hB
 have hne:¬D=B:=by omega
 have hne2:¬B=D:=by omega
 have hs7:=hF7.size
 have hD7:=hR7.hD
 have HP7:=Lib.hid hP7
 clear hX7 hEz hP7 hF7 hR7 HE6 HR6 HRes HR7 HE7
 go_wp2_with (first
  | (go_at_call 106;(with_reducible refine(HW _ HP7.out).out.mono ?_);rintro x wG ⟨rfl,hEG⟩))
 exact⟨rfl,PR.no HG.out (HF7.out.trans (Frm.of_ext hEG))⟩
theorem query_word {k:Nat} {d:Int} {i:Nat} {w:World} (h:Psr L ao cap B i w) (t:TkD) (hi:L[i]? = some t) (hk:t.k≠1) :
  Calls Tryz.prog 58 #[.pointer (some ⟨B,0,none⟩),.int .i64 d] w (PR L ao cap B w (QyV w.heap.size) (qrP L k i)):=by
 obtain⟨G,hG⟩:∃G,qrP L k i=G:=⟨_,rfl⟩
 have HG:Hid (G = .bad t.ln t.cl 3):=by rw[Hid,←hG];exact qrP_no hi (.inl hk)
 rw[hG]
 clear hG
 have HP:=fun w' (hE:Ext w w')=>Lib.hid (peek_ok (h.ext hE) t hi)
 have HW:=fun w' (hP:Psr L ao cap B i w')=>Lib.hid (wrong_ok 3 hP t hi)
 have hBl:=h.hB
 have k1:(t.k==1)=false:=by rw[beq_eq_false_iff_ne];exact hk
 clear hi hk
 go_enter Tryz.func58,Tryz.ntmps58
 go_wp2_with (first
  | ((with_reducible show wpList _ _ _ (⟨some 4,.alloc _,_,_,_,_⟩::_) _ _);refine wpl_new rfl 32 zeroQ rfl alloc_q ?_;intro W1 hE1 hR1 hz1)
  | (go_at_call 107;(with_reducible refine(HP _ hE1).out.mono ?_);rintro x w2 ⟨rfl,hE2⟩)
  | ((with_reducible show wpList _ _ _ (⟨some 5,.alloc _,_,_,_,_⟩::_) _ _);refine wpl_new rfl 140 zeroT rfl alloc_t ?_;intro W3 hE3 hR3 hz3)
  | ((with_reducible show wpList _ _ _ (⟨none,.store _ (.tmp 5) _,_,_,_,_⟩::_) _ _);refine wpl_st rfl 140 _ _ rfl w2.heap.size zeroT (tkC t) rfl rfl hR3 rfl (info_t t) (vals_one_t t) ?_;intro W4 hF4 hR4;have ct0:=hR4.at 0 _ rfl)
  | ((with_reducible show wpList _ _ _ (⟨some 6,.alloc _,_,_,_,_⟩::_) _ _);refine wpl_new rfl 32 zeroQ rfl alloc_q ?_;intro W5 hE5 hR5 hz5)
  | ((with_reducible show wpList _ _ _ (⟨none,.store _ (.tmp 6) _,_,_,_,_⟩::_) _ _);refine wpl_st rfl 32 _ _ rfl W4.heap.size zeroQ (qnS.vals (gqA 0 [] none 0 [] none 0 0)) rfl rfl hR5 rfl (info_q (gqA 0 [] none 0 [] none 0 0)) (vals_one_q (gqA 0 [] none 0 [] none 0 0)) ?_;intro W6 hF6 hR6;have ct1:=(hR4.ext hE5).frm hF6 (fun e=>by have:=hR4.hD;omega);have ct0:=ct1.at 0 _ rfl;have c00:=hR6.at 0 _ rfl;have hs2:=hE2.size;have hs4:=hF4.size;have hEx6:Ext w W6:=Frm.far ((Frm.far ((hE1.trans hE2).trans hE3) hF4 (fun k h1 e=>by omega)).trans hE5) hF6 (fun k h1 e=>by omega);have hP6:=h.ext hEx6)
  | (go_at_call 106;(with_reducible refine(HW _ hP6).out.mono ?_);rintro x wG ⟨rfl,hEG⟩))
 exact⟨rfl,PR.no HG.out (Frm.of_ext (hEx6.trans hEG))⟩
theorem query_none {k:Nat} {d:Int} {i:Nat} {w:World} (h:Psr L ao cap B i w) (hi:L[i]? = none) :
  Calls Tryz.prog 58 #[.pointer (some ⟨B,0,none⟩),.int .i64 d] w (PR L ao cap B w (QyV w.heap.size) (qrP L k i)):=by
 rw[qrP_none hi]
 have HP:=fun w' (hE:Ext w w')=>Lib.hid (peek_no (h.ext hE) (h.end hi))
 clear hi
 go_enter Tryz.func58,Tryz.ntmps58
 go_wp2_with (first
  | ((with_reducible show wpList _ _ _ (⟨some 4,.alloc _,_,_,_,_⟩::_) _ _);refine wpl_new rfl 32 zeroQ rfl alloc_q ?_;intro W1 hE1 hR1 hz1)
  | (go_at_call 107;(with_reducible refine(HP _ hE1).out.mono ?_);rintro x w2 ⟨rfl,hE2⟩))
 exact⟨rfl,PR.no rfl (Frm.of_ext (hE1.trans hE2))⟩
theorem query_all:∀(k:Nat),k≤12→QrK L ao cap B k (13-(k:Int))
 | k,hk=>fun i w h=>by
   cases hi:L[i]? with
   | none=>exact query_none h hi
   | some t=>
     by_cases h1:t.k=1
     ·by_cases h2:kndP t.tx=0
      ·exact query_zero h t hi h1 h2
      ·cases k with
       | zero=>exact query_deep (k:=0) h t hi h1 _ rfl h2 (by simp)
       | succ k=>
         have hQ:=query_all k (by omega)
         have e:(13:Int)-(k:Int)=13-((k+1:Nat):Int)+1:=by omega
         rw[e]at hQ
         have hd:1≤(13:Int)-((k+1:Nat):Int)∧(13:Int)-((k+1:Nat):Int)≤12:=by omega
         rcases kndP_is h2 with q|q|q|q|q|q|q|q|q|q
         ·exact query_A hQ h t hi h1 q (by decide) hd
         ·exact query_B hQ h t hi h1 q (by decide) hd
         ·exact query_A hQ h t hi h1 q (by decide) hd
         ·exact query_4 hQ h t hi h1 q hd
         ·exact query_A hQ h t hi h1 q (by decide) hd
         ·exact query_A hQ h t hi h1 q (by decide) hd
         ·exact query_A hQ h t hi h1 q (by decide) hd
         ·exact query_A hQ h t hi h1 q (by decide) hd
         ·exact query_B hQ h t hi h1 q (by decide) hd
         ·exact query_10 hQ h t hi h1 q hd
     ·exact query_word h t hi h1
theorem query_top {i:Nat} {w:World} (h:Psr L ao cap B i w) :
  Calls Tryz.prog 58 #[.pointer (some ⟨B,0,none⟩),.int .i64 1] w (PR L ao cap B w (QyV w.heap.size) (qrP L 12 i)):=query_all 12 (Nat.le_refl _) i w h
end
end Go.Proofs.YtlmeinikknoeeaaGreatDoor
namespace Go.Proofs.YtlmeinikknoeeaaGreatDoor
set_option linter.unusedVariables false
set_option linter.unnecessarySimpa false
set_option linter.unusedSimpArgs false
open Go.RowKit
def QyW (C b:Nat) (q:Tr QnD) (w:World):Prop:=∃t:Qry,BxT C (qnS.vals t) w∧InQ (fun k=>b≤k) w t∧mapT QnA.d t=q
def CdW (C b:Nat) (q:Tr CdD) (w:World):Prop:=∃t:Cnd,BxT C (cdS.vals t) w∧InC (fun k=>b≤k) w t∧mapT CdA.d t=q
theorem QyW.frm {C b:Nat} {q:Tr QnD} {S:Nat→Prop} {w w':World} (h:QyW C b q w) (hF:Frm S w w') (hC:¬S C) (hS:∀k,b≤k→¬S k):QyW C b q w':=by
 obtain⟨t,h1,h2,h3⟩:=h
 exact⟨t,h1.frm hF hC,h2.kp (Kp.frm hF hS),h3⟩
theorem CdW.frm {C b:Nat} {q:Tr CdD} {S:Nat→Prop} {w w':World} (h:CdW C b q w) (hF:Frm S w w') (hC:¬S C) (hS:∀k,b≤k→¬S k):CdW C b q w':=by
 obtain⟨t,h1,h2,h3⟩:=h
 exact⟨t,h1.frm hF hC,h2.kp (Kp.frm hF hS),h3⟩
theorem Psr.away {L:List TkD} {ao:Option Addr} {cap B C i b:Nat} {w w':World} (h:Psr L ao cap B i w) (hF:Frm (fun k=>k=C) w w') (hCB:C<B) (hr:RsvB C w) (ht:∀j,j<L.length→∃R,ao=some ⟨R,0,none⟩∧b≤R) (hb:C<b):Psr L ao cap B i w':=by
 have hB:=h.hB
 refine⟨hF.lt hB,(hF.cel hB (by omega) _).trans h.c0,(hF.cel hB (by omega) _).trans h.c1,(hF.frz hB (by omega) _).trans h.f1,h.hi,h.hl,h.hc,fun k hk=>?_,h.bd,(hr.frm hF (fun k e=>by omega)).up (by omega)⟩
 obtain⟨R,e,n,l,r⟩:=h.tk k hk
 obtain⟨R',e2,hR⟩:=ht k hk
 have:R=R':=by
  rw[e]at e2
  injection e2 with e2
  injection e2
 exact⟨R,e,n,hF.lt l,fun o v hv=>(hF.cel l (by omega) _).trans (r o v hv)⟩
set_option maxRecDepth 100000 in
set_option maxHeartbeats 1000000 in
theorem what_q {L:List TkD} {ao:Option Addr} {cp Bp C b:Nat} {w:World} (us:List Value) (hus:us.length=16) (h:Psr L ao cp Bp 0 w) (hB:BxT C us w) (hCB:C<Bp) (hb:b≤w.heap.size) (hT:TkS b L ao cp w) (hbC:C<b) (hr:RsvB C w) :
  Calls Tryz.prog 57 #[.pointer (some ⟨Bp,0,none⟩),.pointer (some ⟨C,0,none⟩)] w (WhV L ao cp Bp C w (QyW C b) (qrP L 12 0)):=by
 have HQ:=Lib.hid (query_top (L:=L) (ao:=ao) (cap:=cp) (B:=Bp) h)
 have hBl:=h.hB
 have HB:=Lib.hid hB
 have HT:Hid (∀j,j<L.length→∃R,ao=some ⟨R,0,none⟩∧b≤R):=fun j hj=>by
  obtain⟨R,e1,e2,_⟩:=hT.2.2 j hj
  exact⟨R,e1,e2⟩
 have HR:=Lib.hid hr
 clear hT hr
 cases hx:qrP L 12 0 with
 | bad l c er=>
   rw[hx]at HQ
   clear hx h hB
   go_enter Tryz.func57,Tryz.ntmps57
   go_wp2_with (go_at_call 58;(with_reducible refine HQ.out.mono ?_);rintro e w1 ⟨hF,rfl⟩)
   exact⟨rfl,hF.mono (fun x _ h=>.inl h),rfl⟩
 | ok a j=>
   rw[hx]at HQ
   clear hx h hB
   go_enter Tryz.func57,Tryz.ntmps57
   go_wp2_with (first
    | (go_at_call 58;(with_reducible refine HQ.out.mono ?_);rintro e w1 ⟨hF,v,rfl,⟨t,rfl,hI,hm⟩,hP⟩;have HF:=Lib.hid hF;have HI:=Lib.hid hI;have HM:=Lib.hid hm;have HP:=Lib.hid hP;have HB1:=Lib.hid (HB.out.frm hF (fun e=>by omega));clear hF hI hm hP)
    | ((with_reducible show wpList _ _ _ (⟨none,.store _ _ _,_,_,_,_⟩::_) _ _);refine wpl_st rfl 32 _ _ rfl C us (qnS.vals t) rfl rfl HB1.out hus (info_q t) (vals_one_q t) ?_;intro W8 hF8 hB8))
   go_end0
   exact⟨(HF.out.mono (fun x _ h=>.inl h)).trans (hF8.mono (fun x _ h=>.inr h)),rfl,⟨t,hB8,(HI.out.mono (A':=fun k=>w.heap.size≤k) (fun k h1 _=>h1)).kp (Kp.frm hF8 (fun k h1 e=>by omega)) |>.mono (fun k h1 _=>by omega),HM.out⟩,HP.out.away hF8 hCB (HR.out.frm HF.out (fun k e=>by omega)) HT.out hbC⟩
end Go.Proofs.YtlmeinikknoeeaaGreatDoor
namespace Go.Proofs.YtlmeinikknoeeaaGreatDoor
set_option linter.unusedVariables false
set_option linter.unnecessarySimpa false
set_option linter.unusedSimpArgs false
open Go.RowKit
theorem read_c {α:Type} (p:List TkD→Nat→Rs α) (V:α→World→Prop) (C:Nat) (fid:FuncId) (cv:Value) (s:List UInt8) (w:World) (hs:s.length≤9223372036854775807)
  (hr:RsvB w.heap.size w) (hC:C<w.heap.size) (hcf:∀(xs:Array Value) (w':World),(callFunc fid xs).run Tryz.prog w' = .ok (.enter fid xs) w')
  (hW:∀L ao cp Bp w1,Psr L ao cp Bp 0 w1→TkS (w.heap.size+2) L ao cp w1→Ext w w1→w.heap.size+2≤Bp→Calls Tryz.prog fid #[.pointer (some ⟨Bp,0,none⟩),cv] w1 (WhV L ao cp Bp C w1 V (p L 0)))
  (hV:∀a w1 w2,V a w1→Frm (fun k=>k=w.heap.size∨k=w.heap.size+1) w1 w2→V a w2) :
  Calls Tryz.prog 56 #[.string ⟨s.toArray⟩,.func (.func fid) #[] #[cv]] w (RdP C w V (reP untZ p s)):=by
 cases hL:lexT untZ s with
 | bad l c er=>exact read_bad p V C _ s w hs l c er hL
 | ok L=>exact read_ok p V C fid cv s w hs L hL hr hC hcf (fun ao cp Bp w1 h1 h2 h3 h4=>hW L ao cp Bp w1 h1 h2 h3 h4) hV
theorem readq_c (C:Nat) (us:List Value) (hus:us.length=16) (s:List UInt8) (w:World) (hs:s.length≤9223372036854775807) (hr:RsvB C w) (hC:C<w.heap.size) (hB:BxT C us w) :
  Calls Tryz.prog 56 #[.string ⟨s.toArray⟩,.func (.func 57) #[] #[.pointer (some ⟨C,0,none⟩)]] w (RdP C w (QyW C (w.heap.size+2)) (reP untZ (fun L=>qrP L 12) s)):=by
 refine read_c (fun L=>qrP L 12) (QyW C (w.heap.size+2)) C _ _ s w hs (hr.up (by omega)) hC (fun _ _=>by kernel_rfl) (fun L ao cp Bp w1 h1 h2 h3 h4=>?_) (fun a w1 w2 h hF=>h.frm hF (by omega) (fun k h1 e=>by omega))
 exact what_q us hus h1 (hB.ext h3) (by omega) (by have:=h1.hB;omega) h2 (by omega) (hr.ext h3)
end Go.Proofs.YtlmeinikknoeeaaGreatDoor
