/- Queries: the parser in memory; a query of each kind (more). -/
import Derived.Test.YtlmeinikknoeeaaGreatDoorQ29
namespace Go.Proofs.YtlmeinikknoeeaaGreatDoor
set_option linter.unusedVariables false
set_option linter.unnecessarySimpa false
set_option linter.unusedSimpArgs false
open Go.RowKit
section
variable {L:List TkD} {ao:Option Addr} {cap B:Nat}
set_option maxRecDepth 100000 in
set_option maxHeartbeats 16000000 in
theorem query_10 {k:Nat} {d:Int} (hQ:QrK L ao cap B k (d+1)) {i:Nat} {w:World} (h:Psr L ao cap B i w) (t:TkD) (hi:L[i]? = some t) (hk:t.k=1) (hn:kndP t.tx=10) (hd:1≤d∧d≤12) :
  Calls Tryz.prog 58 #[.pointer (some ⟨B,0,none⟩),.int .i64 d] w (PR L ao cap B w (QyV w.heap.size) (qrP L (k+1) i)):=by
 obtain⟨G,hG⟩:∃G,qrP L (k+1) i=G:=⟨_,rfl⟩
 have hg:bdP L (qrP L k) 10 (i+1)=G:=by
  rw[←hG,qrP,pkP_at hi]
  show _=(if t.k≠1∨kndP t.tx=0 then wrP L 3 i else bdP L (qrP L k) (kndP t.tx) (i+1))
  rw[if_neg (by rw[hk,hn];simp),hn]
 unfold bdP at hg
 rw[if_neg (show ¬(10:Int)=1 by decide),if_neg (show ¬(10:Int)=2 by decide),if_neg (show ¬(10:Int)=3 by decide),if_neg (show ¬(10:Int)=4 by decide),if_neg (show ¬(10:Int)=8 by decide),if_neg (show ¬(10:Int)=9 by decide),if_pos (show(10:Int)=10 from rfl)]at hg
 have HG:=Lib.hid hg
 rw[hG]
 clear hG hg
 have HP:=fun w' (hE:Ext w w')=>Lib.hid (peek_ok (h.ext hE) t hi)
 have HQ:=Lib.hid hQ
 have hBl:=h.hB
 have ht:=(h.bdt hi).1
 unfold Bs at ht
 have hil:=h.lt2 hi
 have hl7:=h.hl
 have k1:(t.k==1)=true:=by rw[hk];rfl
 have Hk:=Lib.hid hk
 have Hn:=Lib.hid hn
 have hd1:=hd.1
 have hd2:=hd.2
 have hx1:(i:Int)≤70000:=by omega
 clear hi hk hn hd hQ
 go_enter Tryz.func58,Tryz.ntmps58
 go_wp2_with (first
  | ((with_reducible show wpList _ _ _ (⟨some 4,.alloc _,_,_,_,_⟩::_) _ _);refine wpl_new rfl 32 zeroQ rfl alloc_q ?_;intro W1 hE1 hR1 hz1)
  | (go_at_call 107;(with_reducible refine(HP _ hE1).out.mono ?_);rintro x w2 ⟨rfl,hE2⟩)
  | ((with_reducible show wpList _ _ _ (⟨some 5,.alloc _,_,_,_,_⟩::_) _ _);refine wpl_new rfl 140 zeroT rfl alloc_t ?_;intro W3 hE3 hR3 hz3)
  | ((with_reducible show wpList _ _ _ (⟨none,.store _ (.tmp 5) _,_,_,_,_⟩::_) _ _);refine wpl_st rfl 140 _ _ rfl w2.heap.size zeroT (tkC t) rfl rfl hR3 rfl (info_t t) (vals_one_t t) ?_;intro W4 hF4 hR4;have ct0:=hR4.at 0 _ rfl)
  | ((with_reducible show wpList _ _ _ (⟨some 6,.alloc _,_,_,_,_⟩::_) _ _);refine wpl_new rfl 32 zeroQ rfl alloc_q ?_;intro W5 hE5 hR5 hz5)
  | ((with_reducible show wpList _ _ _ (⟨none,.store _ (.tmp 6) _,_,_,_,_⟩::_) _ _);refine wpl_st rfl 32 _ _ rfl W4.heap.size zeroQ (qnS.vals (gqA 0 [] none 0 [] none 0 0)) rfl rfl hR5 rfl (info_q (gqA 0 [] none 0 [] none 0 0)) (vals_one_q (gqA 0 [] none 0 [] none 0 0)) ?_;intro W6 hF6 hR6;have ct1:=(hR4.ext hE5).frm hF6 (fun e=>by have:=hR4.hD;omega);have ct0:=ct1.at 0 _ rfl))
 have hs2:=hE2.size
 have hs4:=hF4.size
 have hs6:=hF6.size
 generalize hDD:W4.heap.size=D at *
 generalize hTT:w2.heap.size=T5 at *
 have HT5:=Lib.hid ct1
 have hEx6:Ext w W6:=Frm.far ((Frm.far ((hE1.trans hE2).trans hE3) hF4 (fun k h1 e=>by omega)).trans hE5) hF6 (fun k h1 e=>by omega)
 have HE6:=Lib.hid hEx6
 have HR6:=Lib.hid hR6
 have HRes:Hid (BxT w.heap.size zeroQ W6):=((((hR1.ext hE2).ext hE3).frm hF4 (fun e=>by omega)).ext hE5).frm hF6 (fun e=>by omega)
 have hwD:w.heap.size<D:=by omega
 have hT5D:T5≠D:=by omega
 clear ct0 ct1 hR4 hR3 hR5 hR6 hF4 hF6 hE5 hE3 hE2 hEx6 hR1
 refine wp_region_grow [16,17,18,19,20] [KdO,fun x _=>x = .pointer (some ⟨T5,1,none⟩),fun x _=>x = .string ⟨t.tx.toArray⟩,fun x _=>x = .int .i64 10,fun x _=>x = .pointer (some ⟨D,0,none⟩)] 1 (by kernel_rfl) (by kernel_rfl) (by kernel_rfl) (by kernel_rfl) ?_ ?_ ?_
 ·intro Rl hRl
  simp only[List.mem_cons,List.not_mem_nil,or_false]at hRl
  rcases hRl with rfl|rfl|rfl|rfl|rfl
  all_goals first
   | exact fun _ _ _ h _=>h
   | exact fun _ _ _ h hE=>KdO.ext h hE
 ·refine⟨?_,?_,?_,?_,?_,trivial⟩
  all_goals intro a wv hE hF hD K hK
  ·refine gs_callZ rfl (yr_callZ rfl rfl (show(#[]:Array Operand).map a.eval = #[] by simp) (by kernel_rfl)) (kinds_c wv) ?_
   rintro e w' ⟨M,rfl,hM,hE2⟩
   exact .inl ⟨_,rfl,hK _ _ ⟨M,rfl,hM⟩ hE2⟩
  ·exact gs_valZ rfl (yr_fieldZ rfl ((hF 5 (fr_ofZ rfl)).trans rfl) (fa_t1 T5 wv)) (hK _ _ rfl (Ext.refl _))
  ·have u0:a.eval (.tmp 17) = .pointer (some ⟨T5,1,none⟩):=hD 1 (by kernel_rfl)
   exact gs_valZ rfl (yr_loadZ rfl u0 (ld_str T5 1 _ wv ((HT5.out.ext hE).at 1 _ rfl))) (hK _ _ rfl (Ext.refl _))
  ·obtain⟨M,u1,hM⟩:KdO (a.eval (.tmp 16)) wv:=hD 0 (by kernel_rfl)
   have u2:a.eval (.tmp 18) = .string ⟨t.tx.toArray⟩:=hD 2 (by kernel_rfl)
   exact gs_valZ rfl (yr_lookZ rfl u1 u2 (hM.look t.tx ht _ Hn.out)) (hK _ _ rfl (Ext.refl _))
  ·exact gs_valZ rfl (yr_fieldZ rfl ((hF 6 (fr_ofZ rfl)).trans rfl) (fa_q0 D wv)) (hK _ _ rfl (Ext.refl _))
 intro vals wz hEz hRz
 obtain⟨-,-,-,h3,h4,-⟩:=hRz
 have e19:vals 3 = .int .i64 10:=h3
 have e20:vals 4 = .pointer (some ⟨D,0,none⟩):=h4
 simp only[putF,Act.put,List.length_cons,List.length_nil,List.getD_cons_zero,List.getD_cons_succ,List.setIfInBounds_toArray,List.set_cons_zero,List.set_cons_succ,Nat.reduceAdd,e19,e20]
 clear e19 e20 h3 h4
 refine wpAny_opZ (i:=5) (by kernel_rfl) rfl (by rfl) ?_
 refine gs_st1Z rfl 3 _ _ rfl D 0 (qnS.vals (gqA 0 [] none 0 [] none 0 0)) (.int .i64 10) rfl rfl (HR6.out.ext hEz) (by show 0<16;omega) (st_int D 0 _) ?_
 intro W7 hF7 hR7
 refine wpAny_done (by kernel_rfl) ?_ _
 simp only[Act.put]
 have hzz:=hEz.size
 have hX7:=HE6.out.trans hEz
 have hP7:Psr L ao cap B i W7:=(h.ext hX7).frm hF7 (fun x e=>by omega)
 have HF7:Hid (Frm (fun k=>k=B) w W7):=(Frm.of_ext hX7).step hF7 (fun x h1 e=>by omega)
 have HR7:Hid (BxT D (qnS.vals (qN 10 [] [] none 0 [] none 0 (lfC CdD.zero) 0 0 0 0 none 0 [])) W7):=hR7
 have HE7:=Lib.hid ((HRes.out.ext hEz).frm hF7 (fun e=>by omega))
 have c0:=hR7.at 0 _ rfl
 have c1:=hP7.c1
 have f1:=hP7.f1
 have hB7:=hP7.hB
 have hne:¬D=B:=by omega
 have hne2:¬B=D:=by omega
 have hs7:=hF7.size
 have hD7:=hR7.hD
 have HG8:=Lib.hid (hP7.go (Ext.refl _) (j:=i+1) hil (x:=(i:Int)+1) (by omega))
 have hd3:¬(12:Int)<d:=by omega
 clear hX7 hEz hP7 hF7 hR7 HE6 HR6 HRes
 go_upto_if 46 with fail
 obtain⟨W8,hW8⟩:∃W8,W8=W7.setCell ⟨B,1,none⟩ (.int .i64 ((i:Int)+1)):=⟨_,rfl⟩
 have HG9:=HG8.out
 rw[←hW8]at HG9 ⊢
 obtain⟨hp8,hf8⟩:=HG9
 have HP8:=Lib.hid hp8
 have HF8:=Lib.hid (HF7.out.trans hf8)
 have HR8:=Lib.hid (HR7.out.frm hf8 (fun e=>by omega))
 have HE8:=Lib.hid (HE7.out.frm hf8 (fun e=>by omega))
 have hz8:=hf8.size
 clear hf8 hp8 hW8 HG8 c0 c1 f1 HR7 HF7 HE7 hd3
 obtain⟨K0,hK0⟩:∃K0:Nat→Nat→Rs (Tr QnD),K0=fun r i=>(prP L (qrP L k) i).bind fun l i=>.ok (.mk {QnD.zero with k:=10,rel:=(r:Int)} l) i:=⟨_,rfl⟩
 have HG0:Hid ((rlL L L.length 0 (i+1)).bind K0=G):=by rw[hK0];exact HG.out
 have HK0:=Lib.hid hK0
 clear hK0 HG
 have hD8:=HR8.out.hD
 have hwD8:w.heap.size<D:=by omega
 have hBD8:B<D:=by omega
 go_wp2_with fail
 go_loopg [129] L.length (fun g _ wx=>Hid (RlR L ao cap B D w K0 G g wx))
 case atStart=>exact⟨0,i+1,by omega,HG0.out,HP8.out,HR8.out,HE8.out,HF8.out,by omega⟩
 case round=>
  obtain⟨r,q,hgq,hgr,hpq,hrq,heq,hfq,hr8⟩:=hrel.out
  have hqL:=hpq.hi
  obtain⟨g',rfl⟩:∃g',gk=g'+1:=⟨gk-1,by omega⟩
  have HY:=Lib.hid hgr
  have HPq:=Lib.hid hpq;have HRq:=Lib.hid hrq;have HEq:=Lib.hid heq;have HFq:=Lib.hid hfq
  have hDr:=hrq.hD
  clear hgr hpq hrq heq hfq hrel HP8 HR8 HE8 HF8 HG0
  cases hu:L[q]? with
  | none=>
    have HB:Hid (G = .bad 0 0 4):=by rw[Hid,←HY.out,rlL];unfold pkP;rw[hu];rfl
    have HPk:=Lib.hid (peek_no HPq.out (HPq.out.end hu))
    clear hu
    go_wp2_with (first
     | (go_at_call 107;(with_reducible refine HPk.out.mono ?_);rintro x wE ⟨rfl,hEE⟩))
    exact⟨rfl,PR.no HB.out (HFq.out.trans (Frm.of_ext hEE))⟩
  | some u=>
    have HPk:=Lib.hid (peek_ok HPq.out u hu)
    have hut:=(HPq.out.bdt hu).1
    unfold Bs at hut
    have hul:=HPq.out.lt2 hu
    have Hu:=Lib.hid hu
    have HI:=fun w'=>Lib.hid (iparse_c u.tx w' hut)
    clear hu
    have hx2:(q:Int)≤70000:=by omega
    by_cases hok:u.k=1∧(relP u.tx).isSome=true
    ·obtain⟨z,hz⟩:=Option.isSome_iff_exists.1 hok.2
     have hz13:=relP_lt hz
     have hku:=hok.1
     have HY1:Hid ((if isP L wCm (q+1)=true then rlL L g' (r ||| 2 ^ z) (q+2)else .ok (r ||| 2 ^ z) (q+1)).bind K0=G):=by have hg:=HY.out;rw[rlL_yes Hu.out hku hz]at hg;exact hg
     have hV:relV u.tx=(z:Int):=by unfold relV;rw[hz];rfl
     have hE:relE u.tx=0:=by unfold relE;rw[hz]
     rw[hV,hE]at HI
     have k1u:(u.k != 1)=false:=by rw[hku];rfl
     clear hok hz hku hV hE HY
     go_wp2_with (first
      | (go_at_call 107;(with_reducible refine HPk.out.mono ?_);rintro x wE ⟨rfl,hEE⟩)
      | ((with_reducible show wpList _ _ _ (⟨some 7,.alloc _,_,_,_,_⟩::_) _ _);refine wpl_new rfl 140 zeroT rfl alloc_t ?_;intro WT hET hRT hzT)
      | ((with_reducible show wpList _ _ _ (⟨none,.store _ (.tmp 7) _,_,_,_,_⟩::_) _ _);refine wpl_st rfl 140 _ _ rfl wE.heap.size zeroT (tkC u) rfl rfl hRT rfl (info_t u) (vals_one_t u) ?_;intro WU hFU hRU;have ct1:=hRU.at 1 _ rfl;have hsU:=hFU.size;have hsT:=hET.size)
      | (go_at_call 116;(with_reducible refine(HI _).out.mono ?_);rintro x wI ⟨rfl,hEI⟩;have ct0:=(hRU.ext hEI).at 0 _ rfl;have hsE:=hEE.size;have hsI:=hEI.size;have hEU:Ext wr wI:=(Frm.far (hEE.trans hET) hFU (fun k h1 e=>by omega)).trans hEI;have hPI:=HPq.out.ext hEU;have c1:=hPI.c1;have f1:=hPI.f1;have hB7:=hPI.hB;have HGI:=Lib.hid (hPI.go (Ext.refl _) (j:=q+1) hul (x:=(q:Int)+1) (by omega));have hRI:=HRq.out.ext hEU))
     have HEU:=Lib.hid hEU
     obtain⟨W9,hW9⟩:∃W9,W9=wI.setCell ⟨B,1,none⟩ (.int .i64 ((q:Int)+1)):=⟨_,rfl⟩
     have hgi:=HGI.out
     rw[←hW9]at hgi ⊢
     have HP9:=Lib.hid hgi.1
     have HR9:=Lib.hid (hRI.frm hgi.2 (fun e=>by omega))
     have HE9:=Lib.hid ((HEq.out.ext hEU).frm hgi.2 (fun e=>by omega))
     have HF9:=Lib.hid ((HFq.out.trans (Frm.of_ext hEU)).trans hgi.2)
     have hs9:=hgi.2.size
     clear ct0 ct1 c1 f1 hgi hW9 HGI hPI hRI hEU hEI hRU hFU hRT hET hEE HPk HI HPq HRq HEq HFq HEU k1u
     refine wp_region_grow [153,154,155,156,157,158] [fun x _=>x = .pointer (some ⟨D,11,none⟩),fun x _=>x = .int .i64 (r:Int),fun x _=>x = .int .i64 (z:Int),fun x _=>x = .int .i64 ((2 ^ z:Nat):Int),fun x _=>x = .int .i64 ((r ||| 2 ^ z:Nat):Int),fun x _=>x = .pointer (some ⟨D,11,none⟩)] 1 (by kernel_rfl) (by kernel_rfl) (by kernel_rfl) (by kernel_rfl) ?_ ?_ ?_
     ·intro Rl hRl
      simp only[List.mem_cons,List.not_mem_nil,or_false]at hRl
      rcases hRl with rfl|rfl|rfl|rfl|rfl|rfl
      all_goals exact fun _ _ _ h _=>h
     ·refine⟨?_,?_,?_,?_,?_,?_,trivial⟩
      all_goals intro a wv hE hF hD K hK
      ·exact gs_valZ rfl (yr_fieldZ rfl ((hF 6 (fr_ofZ rfl)).trans rfl) (fa_q5 D wv)) (hK _ _ rfl (Ext.refl _))
      ·have u0:a.eval (.tmp 153) = .pointer (some ⟨D,11,none⟩):=hD 0 (by kernel_rfl)
       exact gs_valZ rfl (yr_loadZ rfl u0 (ld_int D 11 _ wv ((HR9.out.ext hE).at 11 _ rfl))) (hK _ _ rfl (Ext.refl _))
      ·exact gs_valZ rfl (yr_moveZ rfl ((hF 8 (fr_ofZ rfl)).trans rfl)) (hK _ _ rfl (Ext.refl _))
      ·have u0:a.eval (.tmp 155) = .int .i64 (z:Int):=hD 2 (by kernel_rfl)
       exact gs_valZ rfl (yr_shlZ rfl rfl u0 hz13) (hK _ _ rfl (Ext.refl _))
      ·have u0:a.eval (.tmp 154) = .int .i64 (r:Int):=hD 1 (by kernel_rfl)
       have u1:a.eval (.tmp 156) = .int .i64 ((2 ^ z:Nat):Int):=hD 3 (by kernel_rfl)
       exact gs_valZ rfl (yr_orZ rfl u0 u1 hr8 (pow_13 hz13)) (hK _ _ rfl (Ext.refl _))
      ·exact gs_valZ rfl (yr_fieldZ rfl ((hF 6 (fr_ofZ rfl)).trans rfl) (fa_q5 D wv)) (hK _ _ rfl (Ext.refl _))
     intro vals wz hEz hRz
     obtain⟨-,-,-,-,h4,h5,-⟩:=hRz
     have e157:vals 4 = .int .i64 ((r ||| 2 ^ z:Nat):Int):=h4
     have e158:vals 5 = .pointer (some ⟨D,11,none⟩):=h5
     simp only[putF,Act.put,List.length_cons,List.length_nil,List.getD_cons_zero,List.getD_cons_succ,List.setIfInBounds_toArray,List.set_cons_zero,List.set_cons_succ,Nat.reduceAdd,e157,e158]
     clear e157 e158 h4 h5
     refine wpAny_opZ (i:=6) (by kernel_rfl) rfl (by rfl) ?_
     refine gs_st1Z rfl 3 _ _ rfl D 11 (qnS.vals (qN 10 [] [] none 0 [] none 0 (lfC CdD.zero) (r:Int) 0 0 0 none 0 [])) (.int .i64 ((r ||| 2 ^ z:Nat):Int)) rfl rfl (HR9.out.ext hEz) (by show 11<16;omega) (st_int D 11 _) ?_
     intro WA hFA hRA
     refine wpAny_done (by kernel_rfl) ?_ _
     simp only[Act.put]
     have hzz2:=hEz.size
     have hsA:=hFA.size
     have HPA:=Lib.hid ((HP9.out.ext hEz).frm hFA (fun x e=>by omega))
     have HRA:Hid (BxT D (qnS.vals (qN 10 [] [] none 0 [] none 0 (lfC CdD.zero) ((r ||| 2 ^ z:Nat):Int) 0 0 0 none 0 [])) WA):=hRA
     have HEA:=Lib.hid ((HE9.out.ext hEz).frm hFA (fun e=>by omega))
     have HFA:=Lib.hid ((HF9.out.trans (Frm.of_ext hEz)).step hFA (fun x h1 e=>by omega))
     have hr9:r ||| 2 ^ z<8192:=Nat.or_lt_two_pow (n:=13) (by omega) (pow_13 hz13)
     generalize r ||| 2 ^ z=r2 at *
     clear hFA hRA hEz HP9 HR9 HE9 HF9
     cases hc:isP L wCm (q+1)with
     | true=>
       have HA:=Lib.hid (acc_yes HPA.out wCm (by decide) hc)
       have hlt:=is_lt hc
       have HY4:Hid ((rlL L g' r2 (q+2)).bind K0=G):=by have hg:=HY1.out;rw[if_pos hc]at hg;exact hg
       clear hc
       go_wp2_with (first
        | (go_at_call 113;(with_reducible refine HA.out.mono ?_);rintro x w5 ⟨rfl,hP5,hF5⟩))
       go_roundg g'
       case measure=>omega
       case rel=>exact⟨r2,q+2,by omega,HY4.out,hP5,HRA.out.frm hF5 (fun e=>by omega),HEA.out.frm hF5 (fun e=>by omega),HFA.out.trans hF5,hr9⟩
     | false=>
       have HA:=Lib.hid (acc_no HPA.out wCm (by decide) hc)
       have HG:Hid ((prP L (qrP L k) (q+1)).bind (fun l i=>.ok (.mk {QnD.zero with k:=10,rel:=(r2:Int)} l) i)=G):=by have hg:=HY1.out;rw[if_neg (by rw[hc];simp),HK0.out]at hg;exact hg
       clear hc
       go_wp2_with (first
        | (go_at_call 113;(with_reducible refine HA.out.mono ?_);rintro x w20 ⟨rfl,n5,hw20⟩)
        | (go_at_call 117;skip;fail))
       have hE20:Ext WA w20:=by rw[←hw20];exact(Ext.refl _).drewN n5
       have HP20:=Lib.hid (HPA.out.ext hE20)
       have HR20:=Lib.hid (HRA.out.ext hE20)
       have HE20:=Lib.hid (HEA.out.ext hE20)
       have HF20:=Lib.hid (HFA.out.trans (Frm.of_ext hE20))
       have hz20:=hE20.size
       clear hw20 hE20 HPA HRA HEA HFA
       go_wp2_with fail
       (go_at_call 117;refine(pair_c HQ.out HP20.out).mono ?_)
       rintro x w21 hp
       cases hx:prP L (qrP L k) (q+1)with
       | bad l c e=>
         have hg:=HG.out
         rw[hx]at hp hg
         obtain⟨hF,rfl⟩:=hp
         exact⟨rfl,PR.no hg.symm (HF20.out.trans hF)⟩
       | ok ql jz=>
         have hg:=HG.out
         rw[hx]at hp hg
         simp only[Rs.ok_bind]at hg
         have HG:=Lib.hid hg
         obtain⟨hFx,vx,rfl,⟨ts,qo,qc,rfl,hql⟩,hPx⟩:=hp
         clear hx hg
         have hFx21:=Lib.hid hFx
         have HP21:=Lib.hid hPx
         have HR21:=Lib.hid (HR20.out.frm hFx (fun e=>by omega))
         have HE21:=Lib.hid (HE20.out.frm hFx (fun e=>by omega))
         have HF21:=Lib.hid (HF20.out.trans hFx)
         have hz21:=hFx.size
         clear HP20 HR20 HE20 HF20
         clear hFx hPx
         have HQL:Hid (QlB (fun k=>w.heap.size<k∧k≠D) ql ts qo qc w21):=hql.mono (fun k h1 h2=>⟨by omega,by omega⟩)
         go_wp2_with (first
          | ((with_reducible show wpList _ _ _ (⟨none,.store _ (.tmp 166) _,_,_,_,_⟩::_) _ _);refine wpl_st1 rfl 30 _ _ rfl D 15 (qnS.vals (qN 10 [] [] none 0 [] none 0 (lfC CdD.zero) (r2:Int) 0 0 0 none 0 [])) (.slice qo ts.length qc) rfl rfl HR21.out (by show 15<16;omega) (st_slq D 15 _ _ _) ?_;intro W22 hFy hRy;have hRq:BxT D (qnS.vals (qN 10 [] [] none 0 [] none 0 (lfC CdD.zero) (r2:Int) 0 0 0 qo qc ts)) W22:=hRy;have hEq:=HE21.out.frm hFy (fun e=>by omega))
          | ((with_reducible show wpList _ _ _ (⟨some 167,.load _ _,_,_,_,_⟩::_) _ _);refine wpl_load rfl 32 _ rfl D 0 rfl (qnS.vals (qN 10 [] [] none 0 [] none 0 (lfC CdD.zero) (r2:Int) 0 0 0 qo qc ts)) _ hRq.rd Tryz.underlying32 rfl (info_q (qN 10 [] [] none 0 [] none 0 (lfC CdD.zero) (r2:Int) 0 0 0 qo qc ts)) ?_)
          | ((with_reducible show wpList _ _ _ (⟨none,.store _ (.tmp 4) _,_,_,_,_⟩::_) _ _);refine wpl_st rfl 32 _ _ rfl w.heap.size zeroQ (qnS.vals (qN 10 [] [] none 0 [] none 0 (lfC CdD.zero) (r2:Int) 0 0 0 qo qc ts)) rfl rfl hEq rfl (info_q (qN 10 [] [] none 0 [] none 0 (lfC CdD.zero) (r2:Int) 0 0 0 qo qc ts)) (vals_one_q (qN 10 [] [] none 0 [] none 0 (lfC CdD.zero) (r2:Int) 0 0 0 qo qc ts)) ?_;intro WZ hFZ hRZ))
         refine bodyPost_ret (v:=.agg (qnS.vals (qN 10 [] [] none 0 [] none 0 (lfC CdD.zero) (r2:Int) 0 0 0 qo qc ts)).toArray) (results_c9 rfl rfl (run_loadVar_mid WZ w.heap.size 0 32 _ _ hRZ.rd Tryz.underlying32 rfl (info_q (qN 10 [] [] none 0 [] none 0 (lfC CdD.zero) (r2:Int) 0 0 0 qo qc ts)))) rfl ?_
         refine PR.endq HG.out.symm (HP21.out.frm hFy (fun x e=>by omega)) (HF21.out.step hFy (fun x h1 e=>by omega)) hBl ?_ ?_ hFZ
         ·refine InQ.qN ?_ ?_ ?_ ?_ ?_ ?_ ?_ ?_ ?_ ?_ ?_
          ·exact TxA.nil _ _
          ·exact TxA.nil _ _
          ·exact InC.leaf cd_zero_ok
          ·exact bs_zero
          ·exact(show Bi 10 by unfold Bi;omega)
          ·exact(show Bi (r2:Int) by unfold Bi;omega)
          ·exact bi_zero
          ·exact bi_zero
          ·exact bi_zero
          ·exact(HQL.out.kp (Kp.frm hFy (fun k h1 e=>by omega))).rd.mono (fun k h1 _=>h1.1)
          ·exact fun x hx=>((HQL.out.kp (Kp.frm hFy (fun k h1 e=>by omega))).inn x hx).mono (fun k h1 _=>h1.1)
         ·rw[map_qN,map_leaf,HQL.out.eq];rfl
    ·have HB:Hid (G = .bad u.ln u.cl 3):=by rw[Hid,←HY.out,rlL_no Hu.out hok];rfl
     have HW:=fun w' (hE:Ext wr w')=>Lib.hid (wrong_ok 3 (HPq.out.ext hE) u Hu.out)
     by_cases hku:u.k=1
     ·have hz:relP u.tx=none:=by
       cases hz:relP u.tx with
       | none=>rfl
       | some z=>exact absurd ⟨hku,by rw[hz];rfl⟩ hok
      have hV:relV u.tx=0:=by unfold relV;rw[hz];rfl
      have hE:relE u.tx=3:=by unfold relE;rw[hz]
      rw[hV,hE]at HI
      have k1u:(u.k != 1)=false:=by rw[hku];rfl
      clear hok hz hku hV hE HY
      go_wp2_with (first
       | (go_at_call 107;(with_reducible refine HPk.out.mono ?_);rintro x wE ⟨rfl,hEE⟩)
       | ((with_reducible show wpList _ _ _ (⟨some 7,.alloc _,_,_,_,_⟩::_) _ _);refine wpl_new rfl 140 zeroT rfl alloc_t ?_;intro WT hET hRT hzT)
       | ((with_reducible show wpList _ _ _ (⟨none,.store _ (.tmp 7) _,_,_,_,_⟩::_) _ _);refine wpl_st rfl 140 _ _ rfl wE.heap.size zeroT (tkC u) rfl rfl hRT rfl (info_t u) (vals_one_t u) ?_;intro WU hFU hRU;have ct1:=hRU.at 1 _ rfl;have hsU:=hFU.size;have hsT:=hET.size)
       | (go_at_call 116;(with_reducible refine(HI _).out.mono ?_);rintro x wI ⟨rfl,hEI⟩;have ct0:=(hRU.ext hEI).at 0 _ rfl;have hsE:=hEE.size;have hEU:Ext wr wI:=(Frm.far (hEE.trans hET) hFU (fun k h1 e=>by omega)).trans hEI)
       | (go_at_call 106;(with_reducible refine(HW _ hEU).out.mono ?_);rintro x wG ⟨rfl,hEG⟩))
      exact⟨rfl,PR.no HB.out (HFq.out.trans (Frm.of_ext (hEU.trans hEG)))⟩
     ·have k1u:(u.k != 1)=true:=by rw[bne_iff_ne];exact hku
      clear hok hku HY
      go_wp2_with (first
       | (go_at_call 107;(with_reducible refine HPk.out.mono ?_);rintro x wE ⟨rfl,hEE⟩)
       | ((with_reducible show wpList _ _ _ (⟨some 7,.alloc _,_,_,_,_⟩::_) _ _);refine wpl_new rfl 140 zeroT rfl alloc_t ?_;intro WT hET hRT hzT)
       | ((with_reducible show wpList _ _ _ (⟨none,.store _ (.tmp 7) _,_,_,_,_⟩::_) _ _);refine wpl_st rfl 140 _ _ rfl wE.heap.size zeroT (tkC u) rfl rfl hRT rfl (info_t u) (vals_one_t u) ?_;intro WU hFU hRU;have ct1:=hRU.at 1 _ rfl;have hsU:=hFU.size;have hsT:=hET.size)
       | (go_at_call 116;(with_reducible refine(HI _).out.mono ?_);rintro x wI ⟨rfl,hEI⟩;have ct0:=(hRU.ext hEI).at 0 _ rfl;have hsE:=hEE.size;have hEU:Ext wr wI:=(Frm.far (hEE.trans hET) hFU (fun k h1 e=>by omega)).trans hEI)
       | (go_at_call 106;(with_reducible refine(HW _ hEU).out.mono ?_);rintro x wG ⟨rfl,hEG⟩))
      exact⟨rfl,PR.no HB.out (HFq.out.trans (Frm.of_ext (hEU.trans hEG)))⟩
end
end Go.Proofs.YtlmeinikknoeeaaGreatDoor
