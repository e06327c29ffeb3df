/- Queries: the parser in memory; a query of each kind (more). -/
import Derived.Test.YtlmeinikknoeeaaGreatDoorQ29
namespace Go.Proofs.YtlmeinikknoeeaaGreatDoor
set_option linter.unusedVariables false
set_option linter.unnecessarySimpa false
set_option linter.unusedSimpArgs false
open Go.RowKit
section
variable {L:List TkD} {ao:Option Addr} {cap B:Nat}
set_option maxRecDepth 100000 in
set_option maxHeartbeats 16000000 in
theorem query_B {k:Nat} {d:Int} (hQ:QrK L ao cap B k (d+1)) {i:Nat} {w:World} (h:Psr L ao cap B i w) (t:TkD) (hi:L[i]? = some t) (hk:t.k=1) {K:Int} (hn:kndP t.tx=K) (hKs:K=2∨K=9) (hd:1≤d∧d≤12) :
  Calls Tryz.prog 58 #[.pointer (some ⟨B,0,none⟩),.int .i64 d] w (PR L ao cap B w (QyV w.heap.size) (qrP L (k+1) i)):=by
 have hK0:K≠0:=by omega
 have hKz:(K==0)=false:=by rw[beq_eq_false_iff_ne];exact hK0
 obtain⟨G,hG⟩:∃G,qrP L (k+1) i=G:=⟨_,rfl⟩
 have hg:bdP L (qrP L k) K (i+1)=G:=by
  rw[←hG,qrP,pkP_at hi]
  show _=(if t.k≠1∨kndP t.tx=0 then wrP L 3 i else bdP L (qrP L k) (kndP t.tx) (i+1))
  rw[if_neg (by rw[hk,hn];simp[hK0]),hn]
 have HG:=Lib.hid hg
 rw[hG]
 clear hG hg
 have HP:=fun w' (hE:Ext w w')=>Lib.hid (peek_ok (h.ext hE) t hi)
 have HQ:=Lib.hid hQ
 have hBl:=h.hB
 have ht:=(h.bdt hi).1
 unfold Bs at ht
 have hil:=h.lt2 hi
 have hl7:=h.hl
 have k1:(t.k==1)=true:=by rw[hk];rfl
 have Hk:=Lib.hid hk
 have Hn:=Lib.hid hn
 have hd1:=hd.1
 have hd2:=hd.2
 have hx1:(i:Int)≤70000:=by omega
 have HKs:=Lib.hid hKs
 clear hi hk hn hd hQ hK0 hKs
 go_enter Tryz.func58,Tryz.ntmps58
 go_wp2_with (first
  | ((with_reducible show wpList _ _ _ (⟨some 4,.alloc _,_,_,_,_⟩::_) _ _);refine wpl_new rfl 32 zeroQ rfl alloc_q ?_;intro W1 hE1 hR1 hz1)
  | (go_at_call 107;(with_reducible refine(HP _ hE1).out.mono ?_);rintro x w2 ⟨rfl,hE2⟩)
  | ((with_reducible show wpList _ _ _ (⟨some 5,.alloc _,_,_,_,_⟩::_) _ _);refine wpl_new rfl 140 zeroT rfl alloc_t ?_;intro W3 hE3 hR3 hz3)
  | ((with_reducible show wpList _ _ _ (⟨none,.store _ (.tmp 5) _,_,_,_,_⟩::_) _ _);refine wpl_st rfl 140 _ _ rfl w2.heap.size zeroT (tkC t) rfl rfl hR3 rfl (info_t t) (vals_one_t t) ?_;intro W4 hF4 hR4;have ct0:=hR4.at 0 _ rfl)
  | ((with_reducible show wpList _ _ _ (⟨some 6,.alloc _,_,_,_,_⟩::_) _ _);refine wpl_new rfl 32 zeroQ rfl alloc_q ?_;intro W5 hE5 hR5 hz5)
  | ((with_reducible show wpList _ _ _ (⟨none,.store _ (.tmp 6) _,_,_,_,_⟩::_) _ _);refine wpl_st rfl 32 _ _ rfl W4.heap.size zeroQ (qnS.vals (gqA 0 [] none 0 [] none 0 0)) rfl rfl hR5 rfl (info_q (gqA 0 [] none 0 [] none 0 0)) (vals_one_q (gqA 0 [] none 0 [] none 0 0)) ?_;intro W6 hF6 hR6;have ct1:=(hR4.ext hE5).frm hF6 (fun e=>by have:=hR4.hD;omega);have ct0:=ct1.at 0 _ rfl))
 have hs2:=hE2.size
 have hs4:=hF4.size
 have hs6:=hF6.size
 generalize hDD:W4.heap.size=D at *
 generalize hTT:w2.heap.size=T5 at *
 have HT5:=Lib.hid ct1
 have hEx6:Ext w W6:=Frm.far ((Frm.far ((hE1.trans hE2).trans hE3) hF4 (fun k h1 e=>by omega)).trans hE5) hF6 (fun k h1 e=>by omega)
 have HE6:=Lib.hid hEx6
 have HR6:=Lib.hid hR6
 have HRes:Hid (BxT w.heap.size zeroQ W6):=((((hR1.ext hE2).ext hE3).frm hF4 (fun e=>by omega)).ext hE5).frm hF6 (fun e=>by omega)
 have hwD:w.heap.size<D:=by omega
 have hT5D:T5≠D:=by omega
 clear ct0 ct1 hR4 hR3 hR5 hR6 hF4 hF6 hE5 hE3 hE2 hEx6 hR1
 refine wp_region_grow [16,17,18,19,20] [KdO,fun x _=>x = .pointer (some ⟨T5,1,none⟩),fun x _=>x = .string ⟨t.tx.toArray⟩,fun x _=>x = .int .i64 K,fun x _=>x = .pointer (some ⟨D,0,none⟩)] 1 (by kernel_rfl) (by kernel_rfl) (by kernel_rfl) (by kernel_rfl) ?_ ?_ ?_
 ·intro Rl hRl
  simp only[List.mem_cons,List.not_mem_nil,or_false]at hRl
  rcases hRl with rfl|rfl|rfl|rfl|rfl
  all_goals first
   | exact fun _ _ _ h _=>h
   | exact fun _ _ _ h hE=>KdO.ext h hE
 ·refine⟨?_,?_,?_,?_,?_,trivial⟩
  all_goals intro a wv hE hF hD K hK
  ·refine gs_callZ rfl (yr_callZ rfl rfl (show(#[]:Array Operand).map a.eval = #[] by simp) (by kernel_rfl)) (kinds_c wv) ?_
   rintro e w' ⟨M,rfl,hM,hE2⟩
   exact .inl ⟨_,rfl,hK _ _ ⟨M,rfl,hM⟩ hE2⟩
  ·exact gs_valZ rfl (yr_fieldZ rfl ((hF 5 (fr_ofZ rfl)).trans rfl) (fa_t1 T5 wv)) (hK _ _ rfl (Ext.refl _))
  ·have u0:a.eval (.tmp 17) = .pointer (some ⟨T5,1,none⟩):=hD 1 (by kernel_rfl)
   exact gs_valZ rfl (yr_loadZ rfl u0 (ld_str T5 1 _ wv ((HT5.out.ext hE).at 1 _ rfl))) (hK _ _ rfl (Ext.refl _))
  ·obtain⟨M,u1,hM⟩:KdO (a.eval (.tmp 16)) wv:=hD 0 (by kernel_rfl)
   have u2:a.eval (.tmp 18) = .string ⟨t.tx.toArray⟩:=hD 2 (by kernel_rfl)
   exact gs_valZ rfl (yr_lookZ rfl u1 u2 (hM.look t.tx ht _ Hn.out)) (hK _ _ rfl (Ext.refl _))
  ·exact gs_valZ rfl (yr_fieldZ rfl ((hF 6 (fr_ofZ rfl)).trans rfl) (fa_q0 D wv)) (hK _ _ rfl (Ext.refl _))
 intro vals wz hEz hRz
 obtain⟨-,-,-,h3,h4,-⟩:=hRz
 have e19:vals 3 = .int .i64 K:=h3
 have e20:vals 4 = .pointer (some ⟨D,0,none⟩):=h4
 simp only[putF,Act.put,List.length_cons,List.length_nil,List.getD_cons_zero,List.getD_cons_succ,List.setIfInBounds_toArray,List.set_cons_zero,List.set_cons_succ,Nat.reduceAdd,e19,e20]
 clear e19 e20 h3 h4
 refine wpAny_opZ (i:=5) (by kernel_rfl) rfl (by rfl) ?_
 refine gs_st1Z rfl 3 _ _ rfl D 0 (qnS.vals (gqA 0 [] none 0 [] none 0 0)) (.int .i64 K) rfl rfl (HR6.out.ext hEz) (by show 0<16;omega) (st_int D 0 _) ?_
 intro W7 hF7 hR7
 refine wpAny_done (by kernel_rfl) ?_ _
 simp only[Act.put]
 have hzz:=hEz.size
 have hX7:=HE6.out.trans hEz
 have hP7:Psr L ao cap B i W7:=(h.ext hX7).frm hF7 (fun x e=>by omega)
 have HF7:Hid (Frm (fun k=>k=B) w W7):=(Frm.of_ext hX7).step hF7 (fun x h1 e=>by omega)
 have HR7:Hid (BxT D (qnS.vals (qN K [] [] none 0 [] none 0 (lfC CdD.zero) 0 0 0 0 none 0 [])) W7):=hR7
 have HE7:=Lib.hid ((HRes.out.ext hEz).frm hF7 (fun e=>by omega))
 have c0:=hR7.at 0 _ rfl
 have c1:=hP7.c1
 have f1:=hP7.f1
 have hB7:=hP7.hB
 have hne:¬D=B:=by omega
 have hne2:¬B=D:=by omega
 have hs7:=hF7.size
 have hD7:=hR7.hD
 have HG8:=Lib.hid (hP7.go (Ext.refl _) (j:=i+1) hil (x:=(i:Int)+1) (by omega))
 have hd3:¬(12:Int)<d:=by omega
 clear hX7 hEz hP7 hF7 hR7 HE6 HR6 HRes
 go_upto_if 46 with fail
 obtain⟨W8,hW8⟩:∃W8,W8=W7.setCell ⟨B,1,none⟩ (.int .i64 ((i:Int)+1)):=⟨_,rfl⟩
 have HG9:=HG8.out
 rw[←hW8]at HG9 ⊢
 obtain⟨hp8,hf8⟩:=HG9
 have HP8:=Lib.hid hp8
 have HF8:=Lib.hid (HF7.out.trans hf8)
 have HR8:=Lib.hid (HR7.out.frm hf8 (fun e=>by omega))
 have HE8:=Lib.hid (HE7.out.frm hf8 (fun e=>by omega))
 have hz8:=hf8.size
 clear hf8 hp8 hW8 HG8 c0 c1 f1 HR7 HF7 HE7 hd3
 rcases HKs.out with rfl|rfl
 all_goals clear HKs
 ·have hg:=HG.out
  unfold bdP at hg
  rw[if_neg (show ¬(2:Int)=1 by decide),if_pos (show(2:Int)=2 from rfl)]at hg
  have HG:=Lib.hid hg
  clear hg
  go_wp2_with fail
  (go_at_call 110;refine(exp_c HP8.out wLp (by decide)).mono ?_)
  rintro x w9 hp
  cases hx:exP L wLp (i+1)with
  | bad l c e=>
    have hg:=HG.out
    rw[hx]at hp hg
    obtain⟨hF,rfl⟩:=hp
    exact⟨rfl,PR.no hg.symm (HF8.out.trans hF)⟩
  | ok u j=>
    have hg:=HG.out
    rw[hx]at hp hg
    simp only[Rs.ok_bind]at hg
    have HG:=Lib.hid hg
    obtain⟨hFx,vx,rfl,rfl,hPx⟩:=hp
    clear hx hg
    have hFx9:=Lib.hid hFx
    have HP9:=Lib.hid hPx
    have HR9:=Lib.hid (HR8.out.frm hFx (fun e=>by omega))
    have HE9:=Lib.hid (HE8.out.frm hFx (fun e=>by omega))
    have HF9:=Lib.hid (HF8.out.trans hFx)
    have hz9:=hFx.size
    clear HP8 HR8 HE8 HF8
    clear hFx hPx
    go_wp2_with fail
    (go_at_call 67;refine(cond_all HP9.out).mono ?_)
    rintro x w10 hp
    cases hx:cdP L 12 j with
    | bad l c e=>
      have hg:=HG.out
      rw[hx]at hp hg
      obtain⟨hF,rfl⟩:=hp
      exact⟨rfl,PR.no hg.symm (HF9.out.trans hF)⟩
    | ok c j2=>
      have hg:=HG.out
      rw[hx]at hp hg
      simp only[Rs.ok_bind]at hg
      have HG:=Lib.hid hg
      obtain⟨hFx,vx,rfl,⟨tc,rfl,hIc,hmc⟩,hPx⟩:=hp
      clear hx hg
      have hFx10:=Lib.hid hFx
      have HP10:=Lib.hid hPx
      have HR10:=Lib.hid (HR9.out.frm hFx (fun e=>by omega))
      have HE10:=Lib.hid (HE9.out.frm hFx (fun e=>by omega))
      have HF10:=Lib.hid (HF9.out.trans hFx)
      have hz10:=hFx.size
      clear HP9 HR9 HE9 HF9
      clear hFx hPx
      have Hmc:=Lib.hid hmc
      have IC_10:=Lib.hid (show InC (fun k=>w.heap.size<k∧k≠D) w10 tc from hIc.mono (fun k h1 h2=>⟨by omega,by omega⟩))
      go_wp2_with (first
       | ((with_reducible show wpList _ _ _ (⟨none,.store _ (.tmp 57) _,_,_,_,_⟩::_) _ _);refine wpl_stn rfl 27 _ _ rfl D 4 [.int .i64 2,.string ⟨#[]⟩,.slice none 0 0,.slice none 0 0] zeroC [.int .i64 0,.int .i64 0,.int .i64 0,.int .i64 0,.slice none 0 0] (cdS.vals tc) rfl rfl HR10.out rfl rfl (info_c tc) (vals_one_c tc) ?_;intro W11 hFy hRy))
      have HP11:=Lib.hid (HP10.out.frm hFy (fun x e=>by omega))
      have HR11:Hid (BxT D (qnS.vals (qN 2 [] [] none 0 [] none 0 tc 0 0 0 0 none 0 [])) W11):=hRy
      have HE11:=Lib.hid (HE10.out.frm hFy (fun e=>by omega))
      have HF11:Hid (Frm (fun k=>k=B) w W11):=HF10.out.step hFy (fun x h1 e=>by omega)
      have IC_11:=Lib.hid (IC_10.out.kp (Kp.frm hFy (fun k h1 e=>by omega)))
      have hz11:=hFy.size
      clear HP10 HR10 HE10 HF10 IC_10
      clear hFy hRy
      (go_at_call 110;refine(exp_c HP11.out wRp (by decide)).mono ?_)
      rintro x w12 hp
      cases hx:exP L wRp j2 with
      | bad l c e=>
        have hg:=HG.out
        rw[hx]at hp hg
        obtain⟨hF,rfl⟩:=hp
        exact⟨rfl,PR.no hg.symm (HF11.out.trans hF)⟩
      | ok u2 j3=>
        have hg:=HG.out
        rw[hx]at hp hg
        simp only[Rs.ok_bind]at hg
        have HG:=Lib.hid hg
        obtain⟨hFx,vx,rfl,rfl,hPx⟩:=hp
        clear hx hg
        have hFx12:=Lib.hid hFx
        have HP12:=Lib.hid hPx
        have HR12:=Lib.hid (HR11.out.frm hFx (fun e=>by omega))
        have HE12:=Lib.hid (HE11.out.frm hFx (fun e=>by omega))
        have HF12:=Lib.hid (HF11.out.trans hFx)
        have IC_12:=Lib.hid (IC_11.out.kp (Kp.frm hFx (fun k h1 e=>by omega)))
        have hz12:=hFx.size
        clear HP11 HR11 HE11 HF11 IC_11
        clear hFx hPx
        go_wp2_with fail
        (go_at_call 111;refine(of_c HQ.out HP12.out).mono ?_)
        rintro x w13 hp
        cases hx:ofP L (qrP L k) j3 with
        | bad l c e=>
          have hg:=HG.out
          rw[hx]at hp hg
          obtain⟨hF,rfl⟩:=hp
          exact⟨rfl,PR.no hg.symm (HF12.out.trans hF)⟩
        | ok ql jz=>
          have hg:=HG.out
          rw[hx]at hp hg
          simp only[Rs.ok_bind]at hg
          have HG:=Lib.hid hg
          obtain⟨hFx,vx,rfl,⟨ts,qo,qc,rfl,hql⟩,hPx⟩:=hp
          clear hx hg
          have hFx13:=Lib.hid hFx
          have HP13:=Lib.hid hPx
          have HR13:=Lib.hid (HR12.out.frm hFx (fun e=>by omega))
          have HE13:=Lib.hid (HE12.out.frm hFx (fun e=>by omega))
          have HF13:=Lib.hid (HF12.out.trans hFx)
          have IC_13:=Lib.hid (IC_12.out.kp (Kp.frm hFx (fun k h1 e=>by omega)))
          have hz13:=hFx.size
          clear HP12 HR12 HE12 HF12 IC_12
          clear hFx hPx
          have HQL:Hid (QlB (fun k=>w.heap.size<k∧k≠D) ql ts qo qc w13):=hql.mono (fun k h1 h2=>⟨by omega,by omega⟩)
          go_wp2_with (first
           | ((with_reducible show wpList _ _ _ (⟨none,.store _ (.tmp 64) _,_,_,_,_⟩::_) _ _);refine wpl_st1 rfl 30 _ _ rfl D 15 (qnS.vals (qN 2 [] [] none 0 [] none 0 tc 0 0 0 0 none 0 [])) (.slice qo ts.length qc) rfl rfl HR13.out (by show 15<16;omega) (st_slq D 15 _ _ _) ?_;intro W14 hFy hRy;have hRq:BxT D (qnS.vals (qN 2 [] [] none 0 [] none 0 tc 0 0 0 0 qo qc ts)) W14:=hRy;have hEq:=HE13.out.frm hFy (fun e=>by omega))
           | ((with_reducible show wpList _ _ _ (⟨some 167,.load _ _,_,_,_,_⟩::_) _ _);refine wpl_load rfl 32 _ rfl D 0 rfl (qnS.vals (qN 2 [] [] none 0 [] none 0 tc 0 0 0 0 qo qc ts)) _ hRq.rd Tryz.underlying32 rfl (info_q (qN 2 [] [] none 0 [] none 0 tc 0 0 0 0 qo qc ts)) ?_)
           | ((with_reducible show wpList _ _ _ (⟨none,.store _ (.tmp 4) _,_,_,_,_⟩::_) _ _);refine wpl_st rfl 32 _ _ rfl w.heap.size zeroQ (qnS.vals (qN 2 [] [] none 0 [] none 0 tc 0 0 0 0 qo qc ts)) rfl rfl hEq rfl (info_q (qN 2 [] [] none 0 [] none 0 tc 0 0 0 0 qo qc ts)) (vals_one_q (qN 2 [] [] none 0 [] none 0 tc 0 0 0 0 qo qc ts)) ?_;intro WZ hFZ hRZ))
          refine bodyPost_ret (v:=.agg (qnS.vals (qN 2 [] [] none 0 [] none 0 tc 0 0 0 0 qo qc ts)).toArray) (results_c9 rfl rfl (run_loadVar_mid WZ w.heap.size 0 32 _ _ hRZ.rd Tryz.underlying32 rfl (info_q (qN 2 [] [] none 0 [] none 0 tc 0 0 0 0 qo qc ts)))) rfl ?_
          refine PR.endq HG.out.symm (HP13.out.frm hFy (fun x e=>by omega)) (HF13.out.step hFy (fun x h1 e=>by omega)) hBl ?_ ?_ hFZ
          ·refine InQ.qN ?_ ?_ ?_ ?_ ?_ ?_ ?_ ?_ ?_ ?_ ?_
           ·exact TxA.nil _ _
           ·exact TxA.nil _ _
           ·exact(IC_13.out.kp (Kp.frm hFy (fun k h1 e=>by omega))).mono (fun k h1 _=>h1.1)
           ·exact bs_zero
           ·exact(show Bi 2 by unfold Bi;omega)
           ·exact bi_zero
           ·exact bi_zero
           ·exact bi_zero
           ·exact bi_zero
           ·exact(HQL.out.kp (Kp.frm hFy (fun k h1 e=>by omega))).rd.mono (fun k h1 _=>h1.1)
           ·exact fun x hx=>((HQL.out.kp (Kp.frm hFy (fun k h1 e=>by omega))).inn x hx).mono (fun k h1 _=>h1.1)
          ·rw[map_qN,HQL.out.eq,Hmc.out];rfl
 ·have hg:=HG.out
  unfold bdP at hg
  rw[if_neg (show ¬(9:Int)=1 by decide),if_neg (show ¬(9:Int)=2 by decide),if_neg (show ¬(9:Int)=3 by decide),if_neg (show ¬(9:Int)=4 by decide),if_neg (show ¬(9:Int)=8 by decide),if_pos (show(9:Int)=9 from rfl)]at hg
  have HG:=Lib.hid hg
  clear hg
  go_wp2_with fail
  (go_at_call 115;refine(group_c HP8.out (by omega) HR8.out).mono ?_)
  rintro x w9 hp
  cases hx:grP L (i+1)with
  | bad l c e=>
    have hg:=HG.out
    rw[hx]at hp hg
    obtain⟨hF,rfl⟩:=hp
    exact⟨rfl,PR.no hg.symm (HF8.out.step hF (fun x h1 e=>by omega))⟩
  | ok gv j=>
    have hg:=HG.out
    rw[hx]at hp hg
    simp only[Rs.ok_bind]at hg
    have HG:=Lib.hid hg
    obtain⟨hFx,vx,rfl,⟨ca,cc,na,nc,rfl,hRx,hT1,hT2⟩,hPx⟩:=hp
    have Hfn:Hid (Bi gv.2.1):=grP_fn hx
    clear hx hg
    have hz9:=hFx.size
    have HP9:=Lib.hid hPx
    have HR9:Hid (BxT D (qnS.vals (qN 9 [] gv.1 ca cc gv.2.2 na nc (lfC CdD.zero) 0 gv.2.1 0 0 none 0 [])) w9):=hRx
    have HE9:=Lib.hid (HE8.out.frm hFx (fun e=>by omega))
    have HF9:=Lib.hid (HF8.out.step hFx (fun x h1 e=>by omega))
    have hDz:=HR8.out.hD
    clear HP8 HR8 HE8 HF8 hPx hRx hFx
    have TX_9:=Lib.hid (show TxA (fun k=>w.heap.size<k∧k≠D) w9 ca cc gv.1 from hT1.mono (fun k h1 h2=>⟨by omega,by omega⟩))
    have TY_9:=Lib.hid (show TxA (fun k=>w.heap.size<k∧k≠D) w9 na nc gv.2.2 from hT2.mono (fun k h1 h2=>⟨by omega,by omega⟩))
    go_wp2_with fail
    (go_at_call 111;refine(of_c HQ.out HP9.out).mono ?_)
    rintro x w10 hp
    cases hx:ofP L (qrP L k) j with
    | bad l c e=>
      have hg:=HG.out
      rw[hx]at hp hg
      obtain⟨hF,rfl⟩:=hp
      exact⟨rfl,PR.no hg.symm (HF9.out.trans hF)⟩
    | ok ql jz=>
      have hg:=HG.out
      rw[hx]at hp hg
      simp only[Rs.ok_bind]at hg
      have HG:=Lib.hid hg
      obtain⟨hFx,vx,rfl,⟨ts,qo,qc,rfl,hql⟩,hPx⟩:=hp
      clear hx hg
      have hFx10:=Lib.hid hFx
      have HP10:=Lib.hid hPx
      have HR10:=Lib.hid (HR9.out.frm hFx (fun e=>by omega))
      have HE10:=Lib.hid (HE9.out.frm hFx (fun e=>by omega))
      have HF10:=Lib.hid (HF9.out.trans hFx)
      have TX_10:=Lib.hid (TX_9.out.kp (Kp.frm hFx (fun k h1 e=>by omega)))
      have TY_10:=Lib.hid (TY_9.out.kp (Kp.frm hFx (fun k h1 e=>by omega)))
      have hz10:=hFx.size
      clear HP9 HR9 HE9 HF9 TX_9 TY_9
      clear hFx hPx
      have HQL:Hid (QlB (fun k=>w.heap.size<k∧k≠D) ql ts qo qc w10):=hql.mono (fun k h1 h2=>⟨by omega,by omega⟩)
      go_wp2_with (first
       | ((with_reducible show wpList _ _ _ (⟨none,.store _ (.tmp 126) _,_,_,_,_⟩::_) _ _);refine wpl_st1 rfl 30 _ _ rfl D 15 (qnS.vals (qN 9 [] gv.1 ca cc gv.2.2 na nc (lfC CdD.zero) 0 gv.2.1 0 0 none 0 [])) (.slice qo ts.length qc) rfl rfl HR10.out (by show 15<16;omega) (st_slq D 15 _ _ _) ?_;intro W11 hFy hRy;have hRq:BxT D (qnS.vals (qN 9 [] gv.1 ca cc gv.2.2 na nc (lfC CdD.zero) 0 gv.2.1 0 0 qo qc ts)) W11:=hRy;have hEq:=HE10.out.frm hFy (fun e=>by omega))
       | ((with_reducible show wpList _ _ _ (⟨some 167,.load _ _,_,_,_,_⟩::_) _ _);refine wpl_load rfl 32 _ rfl D 0 rfl (qnS.vals (qN 9 [] gv.1 ca cc gv.2.2 na nc (lfC CdD.zero) 0 gv.2.1 0 0 qo qc ts)) _ hRq.rd Tryz.underlying32 rfl (info_q (qN 9 [] gv.1 ca cc gv.2.2 na nc (lfC CdD.zero) 0 gv.2.1 0 0 qo qc ts)) ?_)
       | ((with_reducible show wpList _ _ _ (⟨none,.store _ (.tmp 4) _,_,_,_,_⟩::_) _ _);refine wpl_st rfl 32 _ _ rfl w.heap.size zeroQ (qnS.vals (qN 9 [] gv.1 ca cc gv.2.2 na nc (lfC CdD.zero) 0 gv.2.1 0 0 qo qc ts)) rfl rfl hEq rfl (info_q (qN 9 [] gv.1 ca cc gv.2.2 na nc (lfC CdD.zero) 0 gv.2.1 0 0 qo qc ts)) (vals_one_q (qN 9 [] gv.1 ca cc gv.2.2 na nc (lfC CdD.zero) 0 gv.2.1 0 0 qo qc ts)) ?_;intro WZ hFZ hRZ))
      refine bodyPost_ret (v:=.agg (qnS.vals (qN 9 [] gv.1 ca cc gv.2.2 na nc (lfC CdD.zero) 0 gv.2.1 0 0 qo qc ts)).toArray) (results_c9 rfl rfl (run_loadVar_mid WZ w.heap.size 0 32 _ _ hRZ.rd Tryz.underlying32 rfl (info_q (qN 9 [] gv.1 ca cc gv.2.2 na nc (lfC CdD.zero) 0 gv.2.1 0 0 qo qc ts)))) rfl ?_
      refine PR.endq HG.out.symm (HP10.out.frm hFy (fun x e=>by omega)) (HF10.out.step hFy (fun x h1 e=>by omega)) hBl ?_ ?_ hFZ
      ·refine InQ.qN ?_ ?_ ?_ ?_ ?_ ?_ ?_ ?_ ?_ ?_ ?_
       ·exact(TX_10.out.kp (Kp.frm hFy (fun k h1 e=>by omega))).mono (fun k h1 _=>h1.1)
       ·exact(TY_10.out.kp (Kp.frm hFy (fun k h1 e=>by omega))).mono (fun k h1 _=>h1.1)
       ·exact InC.leaf cd_zero_ok
       ·exact bs_zero
       ·exact(show Bi 9 by unfold Bi;omega)
       ·exact bi_zero
       ·exact Hfn.out
       ·exact bi_zero
       ·exact bi_zero
       ·exact(HQL.out.kp (Kp.frm hFy (fun k h1 e=>by omega))).rd.mono (fun k h1 _=>h1.1)
       ·exact fun x hx=>((HQL.out.kp (Kp.frm hFy (fun k h1 e=>by omega))).inn x hx).mono (fun k h1 _=>h1.1)
      ·rw[map_qN,map_leaf,HQL.out.eq];rfl
end
end Go.Proofs.YtlmeinikknoeeaaGreatDoor
