/- Queries: the parser in memory; a query of each kind (more). -/
import Derived.Test.YtlmeinikknoeeaaGreatDoorQ29
namespace Go.Proofs.YtlmeinikknoeeaaGreatDoor
set_option linter.unusedVariables false
set_option linter.unnecessarySimpa false
set_option linter.unusedSimpArgs false
open Go.RowKit
section
variable {L:List TkD} {ao:Option Addr} {cap B:Nat}
set_option maxRecDepth 100000 in
set_option maxHeartbeats 16000000 in
theorem query_4 {k:Nat} {d:Int} (hQ:QrK L ao cap B k (d+1)) {i:Nat} {w:World} (h:Psr L ao cap B i w) (t:TkD) (hi:L[i]? = some t) (hk:t.k=1) (hn:kndP t.tx=4) (hd:1≤d∧d≤12) :
  Calls Tryz.prog 58 #[.pointer (some ⟨B,0,none⟩),.int .i64 d] w (PR L ao cap B w (QyV w.heap.size) (qrP L (k+1) i)):=by
 obtain⟨G,hG⟩:∃G,qrP L (k+1) i=G:=⟨_,rfl⟩
 have hg:bdP L (qrP L k) 4 (i+1)=G:=by
  rw[←hG,qrP,pkP_at hi]
  show _=(if t.k≠1∨kndP t.tx=0 then wrP L 3 i else bdP L (qrP L k) (kndP t.tx) (i+1))
  rw[if_neg (by rw[hk,hn];simp),hn]
 unfold bdP at hg
 rw[if_neg (show ¬(4:Int)=1 by decide),if_neg (show ¬(4:Int)=2 by decide),if_neg (show ¬(4:Int)=3 by decide),if_pos (show(4:Int)=4 from rfl)]at hg
 have HG:=Lib.hid hg
 rw[hG]
 clear hG hg
 have HP:=fun w' (hE:Ext w w')=>Lib.hid (peek_ok (h.ext hE) t hi)
 have HQ:=Lib.hid hQ
 have hBl:=h.hB
 have ht:=(h.bdt hi).1
 unfold Bs at ht
 have hil:=h.lt2 hi
 have hl7:=h.hl
 have k1:(t.k==1)=true:=by rw[hk];rfl
 have Hk:=Lib.hid hk
 have Hn:=Lib.hid hn
 have hd1:=hd.1
 have hd2:=hd.2
 have hx1:(i:Int)≤70000:=by omega
 clear hi hk hn hd hQ
 go_enter Tryz.func58,Tryz.ntmps58
 go_wp2_with (first
  | ((with_reducible show wpList _ _ _ (⟨some 4,.alloc _,_,_,_,_⟩::_) _ _);refine wpl_new rfl 32 zeroQ rfl alloc_q ?_;intro W1 hE1 hR1 hz1)
  | (go_at_call 107;(with_reducible refine(HP _ hE1).out.mono ?_);rintro x w2 ⟨rfl,hE2⟩)
  | ((with_reducible show wpList _ _ _ (⟨some 5,.alloc _,_,_,_,_⟩::_) _ _);refine wpl_new rfl 140 zeroT rfl alloc_t ?_;intro W3 hE3 hR3 hz3)
  | ((with_reducible show wpList _ _ _ (⟨none,.store _ (.tmp 5) _,_,_,_,_⟩::_) _ _);refine wpl_st rfl 140 _ _ rfl w2.heap.size zeroT (tkC t) rfl rfl hR3 rfl (info_t t) (vals_one_t t) ?_;intro W4 hF4 hR4;have ct0:=hR4.at 0 _ rfl)
  | ((with_reducible show wpList _ _ _ (⟨some 6,.alloc _,_,_,_,_⟩::_) _ _);refine wpl_new rfl 32 zeroQ rfl alloc_q ?_;intro W5 hE5 hR5 hz5)
  | ((with_reducible show wpList _ _ _ (⟨none,.store _ (.tmp 6) _,_,_,_,_⟩::_) _ _);refine wpl_st rfl 32 _ _ rfl W4.heap.size zeroQ (qnS.vals (gqA 0 [] none 0 [] none 0 0)) rfl rfl hR5 rfl (info_q (gqA 0 [] none 0 [] none 0 0)) (vals_one_q (gqA 0 [] none 0 [] none 0 0)) ?_;intro W6 hF6 hR6;have ct1:=(hR4.ext hE5).frm hF6 (fun e=>by have:=hR4.hD;omega);have ct0:=ct1.at 0 _ rfl))
 have hs2:=hE2.size
 have hs4:=hF4.size
 have hs6:=hF6.size
 generalize hDD:W4.heap.size=D at *
 generalize hTT:w2.heap.size=T5 at *
 have HT5:=Lib.hid ct1
 have hEx6:Ext w W6:=Frm.far ((Frm.far ((hE1.trans hE2).trans hE3) hF4 (fun k h1 e=>by omega)).trans hE5) hF6 (fun k h1 e=>by omega)
 have HE6:=Lib.hid hEx6
 have HR6:=Lib.hid hR6
 have HRes:Hid (BxT w.heap.size zeroQ W6):=((((hR1.ext hE2).ext hE3).frm hF4 (fun e=>by omega)).ext hE5).frm hF6 (fun e=>by omega)
 have hwD:w.heap.size<D:=by omega
 have hT5D:T5≠D:=by omega
 clear ct0 ct1 hR4 hR3 hR5 hR6 hF4 hF6 hE5 hE3 hE2 hEx6 hR1
 refine wp_region_grow [16,17,18,19,20] [KdO,fun x _=>x = .pointer (some ⟨T5,1,none⟩),fun x _=>x = .string ⟨t.tx.toArray⟩,fun x _=>x = .int .i64 4,fun x _=>x = .pointer (some ⟨D,0,none⟩)] 1 (by kernel_rfl) (by kernel_rfl) (by kernel_rfl) (by kernel_rfl) ?_ ?_ ?_
 ·intro Rl hRl
  simp only[List.mem_cons,List.not_mem_nil,or_false]at hRl
  rcases hRl with rfl|rfl|rfl|rfl|rfl
  all_goals first
   | exact fun _ _ _ h _=>h
   | exact fun _ _ _ h hE=>KdO.ext h hE
 ·refine⟨?_,?_,?_,?_,?_,trivial⟩
  all_goals intro a wv hE hF hD K hK
  ·refine gs_callZ rfl (yr_callZ rfl rfl (show(#[]:Array Operand).map a.eval = #[] by simp) (by kernel_rfl)) (kinds_c wv) ?_
   rintro e w' ⟨M,rfl,hM,hE2⟩
   exact .inl ⟨_,rfl,hK _ _ ⟨M,rfl,hM⟩ hE2⟩
  ·exact gs_valZ rfl (yr_fieldZ rfl ((hF 5 (fr_ofZ rfl)).trans rfl) (fa_t1 T5 wv)) (hK _ _ rfl (Ext.refl _))
  ·have u0:a.eval (.tmp 17) = .pointer (some ⟨T5,1,none⟩):=hD 1 (by kernel_rfl)
   exact gs_valZ rfl (yr_loadZ rfl u0 (ld_str T5 1 _ wv ((HT5.out.ext hE).at 1 _ rfl))) (hK _ _ rfl (Ext.refl _))
  ·obtain⟨M,u1,hM⟩:KdO (a.eval (.tmp 16)) wv:=hD 0 (by kernel_rfl)
   have u2:a.eval (.tmp 18) = .string ⟨t.tx.toArray⟩:=hD 2 (by kernel_rfl)
   exact gs_valZ rfl (yr_lookZ rfl u1 u2 (hM.look t.tx ht _ Hn.out)) (hK _ _ rfl (Ext.refl _))
  ·exact gs_valZ rfl (yr_fieldZ rfl ((hF 6 (fr_ofZ rfl)).trans rfl) (fa_q0 D wv)) (hK _ _ rfl (Ext.refl _))
 intro vals wz hEz hRz
 obtain⟨-,-,-,h3,h4,-⟩:=hRz
 have e19:vals 3 = .int .i64 4:=h3
 have e20:vals 4 = .pointer (some ⟨D,0,none⟩):=h4
 simp only[putF,Act.put,List.length_cons,List.length_nil,List.getD_cons_zero,List.getD_cons_succ,List.setIfInBounds_toArray,List.set_cons_zero,List.set_cons_succ,Nat.reduceAdd,e19,e20]
 clear e19 e20 h3 h4
 refine wpAny_opZ (i:=5) (by kernel_rfl) rfl (by rfl) ?_
 refine gs_st1Z rfl 3 _ _ rfl D 0 (qnS.vals (gqA 0 [] none 0 [] none 0 0)) (.int .i64 4) rfl rfl (HR6.out.ext hEz) (by show 0<16;omega) (st_int D 0 _) ?_
 intro W7 hF7 hR7
 refine wpAny_done (by kernel_rfl) ?_ _
 simp only[Act.put]
 have hzz:=hEz.size
 have hX7:=HE6.out.trans hEz
 have hP7:Psr L ao cap B i W7:=(h.ext hX7).frm hF7 (fun x e=>by omega)
 have HF7:Hid (Frm (fun k=>k=B) w W7):=(Frm.of_ext hX7).step hF7 (fun x h1 e=>by omega)
 have HR7:Hid (BxT D (qnS.vals (qN 4 [] [] none 0 [] none 0 (lfC CdD.zero) 0 0 0 0 none 0 [])) W7):=hR7
 have HE7:=Lib.hid ((HRes.out.ext hEz).frm hF7 (fun e=>by omega))
 have c0:=hR7.at 0 _ rfl
 have c1:=hP7.c1
 have f1:=hP7.f1
 have hB7:=hP7.hB
 have hne:¬D=B:=by omega
 have hne2:¬B=D:=by omega
 have hs7:=hF7.size
 have hD7:=hR7.hD
 have HG8:=Lib.hid (hP7.go (Ext.refl _) (j:=i+1) hil (x:=(i:Int)+1) (by omega))
 have hd3:¬(12:Int)<d:=by omega
 clear hX7 hEz hP7 hF7 hR7 HE6 HR6 HRes
 go_upto_if 46 with fail
 obtain⟨W8,hW8⟩:∃W8,W8=W7.setCell ⟨B,1,none⟩ (.int .i64 ((i:Int)+1)):=⟨_,rfl⟩
 have HG9:=HG8.out
 rw[←hW8]at HG9 ⊢
 obtain⟨hp8,hf8⟩:=HG9
 have HP8:=Lib.hid hp8
 have HF8:=Lib.hid (HF7.out.trans hf8)
 have HR8:=Lib.hid (HR7.out.frm hf8 (fun e=>by omega))
 have HE8:=Lib.hid (HE7.out.frm hf8 (fun e=>by omega))
 have hz8:=hf8.size
 clear hf8 hp8 hW8 HG8 c0 c1 f1 HR7 HF7 HE7 hd3
 obtain⟨K0,hK0⟩:∃K0:List (List UInt8)×List (List UInt8)→Nat→Rs (Tr QnD),K0=fun s i=>(ofP L (qrP L k) i).bind fun l i=>.ok (.mk {QnD.zero with k:=4,cols:=s.1,nms:=s.2} l) i:=⟨_,rfl⟩
 have HG0:Hid ((rnL L L.length [] [] (i+1)).bind K0=G):=by rw[hK0];exact HG.out
 have HK0:=Lib.hid hK0
 obtain⟨i0,hi0,hz0,hz1x,hz2⟩:=info_parts infoStrZ
 have Hi:=Lib.hid hi0;have Hz0:=Lib.hid hz0;have Hz1:=Lib.hid hz1x;have Hz2:=Lib.hid hz2
 clear hK0 HG hi0 hz0 hz1x hz2
 obtain⟨b0,hb0⟩:∃b0,b0=W8.heap.size:=⟨_,rfl⟩
 have hD8:=HR8.out.hD
 have hDb:D<b0:=by omega
 have hwb:w.heap.size<b0:=by omega
 have hbb:b0≤W8.heap.size:=by omega
 clear hb0
 go_wp2_with fail
 go_loopg [77] L.length (fun g _ wx=>Hid (RnR L ao cap B D w b0 K0 G g wx))
 case atStart=>exact⟨[],[],none,0,none,0,i+1,by omega,HG0.out,HP8.out,HR8.out,HE8.out,World.ownsRow_nil _ _ _ _,World.ownsRow_nil _ _ _ _,(fun k hk=>by cases hk),(fun x hx=>by cases hx),(fun x hx=>by cases hx),by simp,by simp,HF8.out,hbb⟩
 case round=>
  obtain⟨cs,ns,ca,cc,na,nc,q,hgq,hgr,hpq,hrq,heq,hoc,hon,hdj,hac,han,hlc,hln,hfq,hbq⟩:=hrel.out
  have hqL:=hpq.hi
  obtain⟨g',rfl⟩:∃g',gk=g'+1:=⟨gk-1,by omega⟩
  rw[rnL]at hgr
  have HY:=Lib.hid hgr
  have HPq:=Lib.hid hpq;have HRq:=Lib.hid hrq;have HEq:=Lib.hid heq;have HOc:=Lib.hid hoc;have HOn:=Lib.hid hon;have Hdj:=Lib.hid hdj;have Hac:=Lib.hid hac;have Han:=Lib.hid han;have HFq:=Lib.hid hfq
  have HNm:=fun w' (hP:Psr L ao cap B q w')=>(pname_c hP)
  have hbk:∀k,(Value.slice ca cs.length cc).ownBlock=some k→b0≤k∧k<wr.heap.size:=fun k hk=>HOc.out.lt k hk
  have hPl:cs.length≤70000:=by omega
  clear hgr hpq hrq heq hoc hon hdj hac han hfq hrel HP8 HR8 HE8 HF8 HG0
  go_wp2_with fail
  cases hn:naP L q with
  | bad l c e=>
    have HB:Hid (G = .bad l c e):=by have hg:=HY.out;rw[hn]at hg;exact hg.symm
    rw[hn]at HNm
    have HNm:=fun w' hP=>Lib.hid (HNm w' hP)
    clear hn
    refine wp_region_growX [some 77,some 78,some 79,some 80,some 81,some 82,some 83] [fun x _=>x = .pointer (some ⟨D,2,none⟩),fun x _=>x = .slice ca cs.length cc,fun x _=>x = .pointer (some ⟨B,0,none⟩),fun _ _=>False,fun _ _=>False,fun _ _=>False,fun x _=>x = .pointer (some ⟨D,2,none⟩)] (fun y z=>y=3∧z=B∨y=5∧(Value.slice ca cs.length cc).ownBlock=some z) 1 (by kernel_rfl) (by kernel_rfl) (by kernel_rfl) (by kernel_rfl) ?_ ?_ ?_
    ·refine⟨?_,?_,?_,?_,?_,?_,?_,trivial⟩
     ·exact fun _ _ _ h _=>h
     ·exact fun _ _ _ h _=>h
     ·exact fun _ _ _ h _=>h
     ·exact fun _ _ _ h _=>h
     ·exact fun _ _ _ h _=>h
     ·exact fun _ _ _ h _=>h
     ·exact fun _ _ _ h _=>h
    ·refine⟨?_,?_,?_,?_,?_,?_,?_,trivial⟩
     ·intro a wv hE hdf hF hD K hK
      have u:a.eval (.tmp 6) = .pointer (some ⟨D,0,none⟩):=(hF 6 (fr_ofOZ rfl)).trans rfl
      exact gs_valZ rfl (yr_fieldZ rfl u (fa_q2 D wv)) (hK _ _ rfl (Frm.refl _ _))
     ·intro a wv hE hdf hF hD K hK
      have u:a.eval (.tmp 77) = .pointer (some ⟨D,2,none⟩):=hD 0 (by kernel_rfl)
      have hb:BxT D (qnS.vals (qN 4 [] cs ca cc ns na nc (lfC CdD.zero) 0 0 0 0 none 0 [])) wv:=HRq.out.frm hE (fun⟨y,h1,h2⟩=>by
       rcases h2 with⟨h2,h3⟩|⟨h2,h3⟩
       ·omega
       ·have:=hbk _ h3;omega)
      exact gs_valZ rfl (yr_loadZ rfl u (ld_sl D 2 _ wv (hb.at 2 _ rfl))) (hK _ _ rfl (Frm.refl _ _))
     ·intro a wv hE hdf hF hD K hK
      exact gs_valZ rfl (yr_moveZ rfl ((hF 0 (fr_ofOZ rfl)).trans rfl)) (hK _ _ rfl (Frm.refl _ _))
     ·intro a wv hE hdf hF hD K hK
      have hP:Psr L ao cap B q wv:=HPq.out.frm hE (fun k ⟨y,h1,h2⟩=>by
       rcases h2 with⟨h2,h3⟩|⟨h2,h3⟩
       ·exact absurd h2 h1
       ·have:=hbk k h3;omega)
      have hC:=(HNm wv hP).out
      have u:a.eval (.tmp 79) = .pointer (some ⟨B,0,none⟩):=hD 2 (by kernel_rfl)
      refine gs_callZ rfl (yr_callZ rfl rfl (show(#[Operand.tmp 79]:Array Operand).map a.eval = #[.pointer (some ⟨B,0,none⟩)] by simp only[List.map_toArray,List.map_cons,List.map_nil,u]) (by kernel_rfl)) hC ?_
      rintro e w' ⟨hF6,rfl⟩
      refine .inr ⟨_,rfl,hdf,PR.no HB.out ((HFq.out.step hE (fun x h1 ⟨y,h0,h2⟩=>?_)).step hF6 (fun x h1 h2=>?_))⟩
      ·rcases h2 with⟨h2,h3⟩|⟨h2,h3⟩
       ·exact h3
       ·have:=hbk x h3;omega
      ·exact h2
     ·intro a wv hE hdf hF hD K hK
      exact(hD 3 (by kernel_rfl)).elim
     ·intro a wv hE hdf hF hD K hK
      exact(hD 4 (by kernel_rfl)).elim
     ·intro a wv hE hdf hF hD K hK
      have u:a.eval (.tmp 6) = .pointer (some ⟨D,0,none⟩):=(hF 6 (fr_ofOZ rfl)).trans rfl
      exact gs_valZ rfl (yr_fieldZ rfl u (fa_q2 D wv)) (hK _ _ rfl (Frm.refl _ _))
    ·intro vals wz hEz hRz
     obtain⟨-,-,-,hc,-⟩:=hRz
     exact hc.elim
  | ok s1 j1=>
    obtain⟨rfl,hs1,-⟩:=naP_ok hn
    have Hs1:=Lib.hid hs1
    have HY1:Hid (((exP L wTo (q+1)).bind fun _ i=>(naP L i).bind fun b i=>if isP L wCm i=true then rnL L g' (cs ++ [s1]) (ns ++ [b]) (i+1)else .ok (cs ++ [s1],ns ++ [b]) i).bind K0=G):=by have hg:=HY.out;rw[hn]at hg;exact hg
    rw[hn]at HNm
    have HNm:=fun w' hP=>Lib.hid (HNm w' hP)
    clear hn hs1 HY
    refine wp_region_growX [some 77,some 78,some 79,some 80,some 81,some 82,some 83] [fun x _=>x = .pointer (some ⟨D,2,none⟩),fun x _=>x = .slice ca cs.length cc,fun x _=>x = .pointer (some ⟨B,0,none⟩),fun x wv=>x = .string ⟨s1.toArray⟩∧Psr L ao cap B (q+1) wv,ApS wr.heap.size s1,ApR2 (Value.slice ca cs.length cc).ownBlock wr.heap.size b0 (cs ++ [s1]),fun x _=>x = .pointer (some ⟨D,2,none⟩)] (fun y z=>y=3∧z=B∨y=5∧(Value.slice ca cs.length cc).ownBlock=some z) 1 (by kernel_rfl) (by kernel_rfl) (by kernel_rfl) (by kernel_rfl) ?_ ?_ ?_
    ·refine⟨?_,?_,?_,?_,?_,?_,?_,trivial⟩
     ·exact fun _ _ _ h _=>h
     ·exact fun _ _ _ h _=>h
     ·exact fun _ _ _ h _=>h
     ·exact fun v w1 w2 h hF=>⟨h.1,h.2.frm hF (fun k ⟨y,h1,h2⟩=>by
       rcases h2 with⟨h2,h3⟩|⟨h2,h3⟩
       ·exact absurd h2 h1
       ·have:=hbk k h3;omega)⟩
     ·exact fun v w1 w2 h hF=>ApS.frm h hF (fun k ⟨y,h1,h2⟩=>by
       rcases h2 with⟨h2,h3⟩|⟨h2,h3⟩
       ·have:=HPq.out.hB;omega
       ·have:=hbk k h3;omega)
     ·exact fun v w1 w2 h hF=>ApR2.frm h hF (fun k ⟨y,h1,h2⟩=>by
       rcases h2 with⟨h2,h3⟩|⟨h2,h3⟩
       ·omega
       ·exact absurd h2 h1)
     ·exact fun _ _ _ h _=>h
    ·refine⟨?_,?_,?_,?_,?_,?_,?_,trivial⟩
     ·intro a wv hE hdf hF hD K hK
      have u:a.eval (.tmp 6) = .pointer (some ⟨D,0,none⟩):=(hF 6 (fr_ofOZ rfl)).trans rfl
      exact gs_valZ rfl (yr_fieldZ rfl u (fa_q2 D wv)) (hK _ _ rfl (Frm.refl _ _))
     ·intro a wv hE hdf hF hD K hK
      have u:a.eval (.tmp 77) = .pointer (some ⟨D,2,none⟩):=hD 0 (by kernel_rfl)
      have hb:BxT D (qnS.vals (qN 4 [] cs ca cc ns na nc (lfC CdD.zero) 0 0 0 0 none 0 [])) wv:=HRq.out.frm hE (fun⟨y,h1,h2⟩=>by
       rcases h2 with⟨h2,h3⟩|⟨h2,h3⟩
       ·omega
       ·have:=hbk _ h3;omega)
      exact gs_valZ rfl (yr_loadZ rfl u (ld_sl D 2 _ wv (hb.at 2 _ rfl))) (hK _ _ rfl (Frm.refl _ _))
     ·intro a wv hE hdf hF hD K hK
      exact gs_valZ rfl (yr_moveZ rfl ((hF 0 (fr_ofOZ rfl)).trans rfl)) (hK _ _ rfl (Frm.refl _ _))
     ·intro a wv hE hdf hF hD K hK
      have hP:Psr L ao cap B q wv:=HPq.out.frm hE (fun k ⟨y,h1,h2⟩=>by
       rcases h2 with⟨h2,h3⟩|⟨h2,h3⟩
       ·exact absurd h2 h1
       ·have:=hbk k h3;omega)
      have hC:=(HNm wv hP).out
      have u:a.eval (.tmp 79) = .pointer (some ⟨B,0,none⟩):=hD 2 (by kernel_rfl)
      refine gs_callZ rfl (yr_callZ rfl rfl (show(#[Operand.tmp 79]:Array Operand).map a.eval = #[.pointer (some ⟨B,0,none⟩)] by simp only[List.map_toArray,List.map_cons,List.map_nil,u]) (by kernel_rfl)) hC ?_
      rintro e w' ⟨hF6,v,rfl,rfl,hP6⟩
      exact .inl ⟨_,rfl,hK _ _ ⟨rfl,hP6⟩ (hF6.mono (fun x _ e=>.inl ⟨rfl,e⟩))⟩
     ·intro a wv hE hdf hF hD K hK
      have u:a.eval (.tmp 80) = .string ⟨s1.toArray⟩:=(hD 3 (by kernel_rfl)).1
      have hz:=hE.size
      exact gs_mkEZ rfl (yr_bs1Z rfl u (bs1_s s1 wv)) (hK _ _ ⟨wv.heap.size,rfl,hz,by simp,(BxT.new wv [.string ⟨s1.toArray⟩] 9).at 0 _ rfl⟩ (Frm.of_ext ((Ext.refl _).alloc _)))
     ·intro a wv hE hdf hF hD K hK
      have u1:a.eval (.tmp 78) = .slice ca cs.length cc:=hD 1 (by kernel_rfl)
      obtain⟨Y,u2,hY1,hY2,hY3⟩:ApS wr.heap.size s1 (a.eval (.tmp 81)) wv:=hD 4 (by kernel_rfl)
      have hown:wv.ownsRow b0 9 1 (.slice ca cs.length cc) cs.length (sv cs):=own_frmZ HOc.out hE (fun k h5 h6 ⟨y,h1,h2⟩=>by
       rcases h2 with⟨h2,h3⟩|⟨h2,h3⟩
       ·omega
       ·exact absurd h2 h1)
      have hz:=hE.size
      refine wp_append_own_atZ _ (.tmp 78) (.tmp 81) 22 rfl b0 9 i0 (.string ByteArray.empty) 1 16 Tryz.underlying22 Hi.out Hz0.out Hz1.out Hz2.out rfl (by decide) _ _ _ u1 hown ⟨Y,0,none⟩ 1 1 [.string ⟨s1.toArray⟩] u2 rfl (ap_cell hY3) (fun x hx=>by simp at hx;subst hx;rfl) (by unfold maxLen;omega) (by omega) (by omega) ?_
      intro v' w' hown' hgrow hat
      exact hK _ _ (ApR2.mk hown' (fun k hk=>by
       rcases hat with q|q
       ·exact .inl (q.symm.trans hk)
       ·have hk2:=q.symm.trans hk;injection hk2 with hk2;exact .inr (by omega))) ⟨hgrow.os,hgrow.tape,hgrow.output,hgrow.size,fun k h1 h2=>hgrow.block k h1 (fun e=>h2 (.inr ⟨rfl,e.symm⟩))⟩
     ·intro a wv hE hdf hF hD K hK
      have u:a.eval (.tmp 6) = .pointer (some ⟨D,0,none⟩):=(hF 6 (fr_ofOZ rfl)).trans rfl
      exact gs_valZ rfl (yr_fieldZ rfl u (fa_q2 D wv)) (hK _ _ rfl (Frm.refl _ _))
    ·intro vals wz hEz hRz
     obtain⟨-,-,-,hc,-,hr,hl,-⟩:=hRz
     obtain⟨-,hcz⟩:vals 3 = .string ⟨s1.toArray⟩∧Psr L ao cap B (q+1) wz:=hc
     obtain⟨no2,nc2,er,hr2,hat2⟩:ApR2 (Value.slice ca cs.length cc).ownBlock wr.heap.size b0 (cs ++ [s1]) (vals 5) wz:=hr
     have el:vals 6 = .pointer (some ⟨D,2,none⟩):=hl
     have hAll:∀x,AllS (fun y z=>y=3∧z=B∨y=5∧(Value.slice ca cs.length cc).ownBlock=some z) x→x=B∨b0≤x:=fun x ⟨y,h2⟩=>by
      rcases h2 with⟨h2,h3⟩|⟨h2,h3⟩
      ·exact .inl h3
      ·have:=hbk x h3;omega
     have hbz:BxT D (qnS.vals (qN 4 [] cs ca cc ns na nc (lfC CdD.zero) 0 0 0 0 none 0 [])) wz:=HRq.out.frm hEz (fun q=>by have:=hAll D q;omega)
     simp only[putG,putD,Act.put,List.length_cons,List.length_nil,List.getD_cons_zero,List.getD_cons_succ,List.setIfInBounds_toArray,List.set_cons_zero,List.set_cons_succ,Nat.reduceAdd,er,el]
     refine wpAny_opZ (i:=7) (by kernel_rfl) rfl (by rfl) ?_
     refine gs_st1Z rfl 22 _ _ rfl D 2 (qnS.vals (qN 4 [] cs ca cc ns na nc (lfC CdD.zero) 0 0 0 0 none 0 [])) (.slice no2 (cs ++ [s1]).length nc2) rfl rfl hbz (by show 2<16;omega) (st_sl D 2 _ _ _) ?_
     intro WY hFY hRY
     refine wpAny_done (by kernel_rfl) ?_ _
     simp only[Act.put]
     have hsz1:=hEz.size
     have hsz2:=hFY.size
     have HP1:=Lib.hid (hcz.frm hFY (fun x e=>by omega))
     have HR1:Hid (BxT D (qnS.vals (qN 4 [] (cs ++ [s1]) no2 nc2 ns na nc (lfC CdD.zero) 0 0 0 0 none 0 [])) WY):=hRY
     have HE1:=Lib.hid ((HEq.out.frm hEz (fun e=>by have:=hAll _ e;omega)).frm hFY (fun e=>by omega))
     have HF1:Hid (Frm (fun k=>k=B) w WY):=(HFq.out.step hEz (fun x h1 e=>by have:=hAll x e;omega)).step hFY (fun x h1 e=>by omega)
     have HOc1:=Lib.hid (own_frmZ hr2 hFY (fun k h1 h2 e=>by omega))
     have hnal:∀k,(Value.slice na ns.length nc).ownBlock=some k→b0≤k∧k<wr.heap.size:=fun k hk=>HOn.out.lt k hk
     have HOn1:Hid (WY.ownsRow b0 9 1 (.slice na ns.length nc) ns.length (sv ns)):=own_frmZ (own_frmY HOn.out hEz (fun k hk ⟨y,h2⟩=>by
      have:=hnal k hk
      rcases h2 with⟨h2,h3⟩|⟨h2,h3⟩
      ·omega
      ·exact Hdj.out k h3 hk)) hFY (fun k h1 h2 e=>by omega)
     have Hdj1:Hid (∀k,(Value.slice na ns.length nc).ownBlock=some k→(Value.slice no2 (cs ++ [s1]).length nc2).ownBlock≠some k):=fun k hk hk2=>by
      rcases hat2 k hk2 with q1|q1
      ·exact Hdj.out k q1 hk
      ·have:=hnal k hk;omega
     have hbY:b0≤WY.heap.size:=by omega
     clear hFY hRY hEz hcz hr2 hat2 hbz hbk HPq HRq HEq HFq HOc HOn Hdj hAll er el hnal
     go_wp2_with fail
     (go_at_call 110;refine(exp_c HP1.out wTo (by decide)).mono ?_)
     rintro x w2 hp
     cases hx:exP L wTo (q+1)with
     | bad l c e=>
       have hg:=HY1.out
       rw[hx]at hp hg
       obtain⟨hF,rfl⟩:=hp
       exact⟨rfl,PR.no hg.symm (HF1.out.trans hF)⟩
     | ok u2 j2=>
       obtain rfl:=exP_gt hx
       have hg:=HY1.out
       rw[hx]at hp hg
       simp only[Rs.ok_bind]at hg
       have HY2:=Lib.hid hg
       obtain⟨hFx,vx,rfl,rfl,hPx⟩:=hp
       clear hx hg HY1
       have hsz3:=hFx.size
       have HP2:=Lib.hid hPx
       have HR2:=Lib.hid (HR1.out.frm hFx (fun e=>by omega))
       have HE2:=Lib.hid (HE1.out.frm hFx (fun e=>by omega))
       have HF2:=Lib.hid (HF1.out.trans hFx)
       have HOc2:=Lib.hid (own_frmZ HOc1.out hFx (fun k h1 h2 e=>by omega))
       have HOn2:=Lib.hid (own_frmZ HOn1.out hFx (fun k h1 h2 e=>by omega))
       have hb2:b0≤w2.heap.size:=by omega
       have hbk:∀k,(Value.slice na ns.length nc).ownBlock=some k→b0≤k∧k<w2.heap.size:=fun k hk=>HOn2.out.lt k hk
       have hPl:ns.length≤70000:=by omega
       have HNn:=fun w' (hP:Psr L ao cap B (q+1+1) w')=>(pname_c hP)
       clear hFx hPx HP1 HR1 HE1 HF1 HOc1 HOn1 HNm
       go_wp2_with fail
       cases hn:naP L (q+1+1)with
       | bad l c e=>
         have HB:Hid (G = .bad l c e):=by have hg:=HY2.out;rw[hn]at hg;exact hg.symm
         rw[hn]at HNn
         have HNn:=fun w' hP=>Lib.hid (HNn w' hP)
         clear hn
         refine wp_region_growX [some 86,some 87,some 88,some 89,some 90,some 91,some 92] [fun x _=>x = .pointer (some ⟨D,3,none⟩),fun x _=>x = .slice na ns.length nc,fun x _=>x = .pointer (some ⟨B,0,none⟩),fun _ _=>False,fun _ _=>False,fun _ _=>False,fun x _=>x = .pointer (some ⟨D,3,none⟩)] (fun y z=>y=3∧z=B∨y=5∧(Value.slice na ns.length nc).ownBlock=some z) 1 (by kernel_rfl) (by kernel_rfl) (by kernel_rfl) (by kernel_rfl) ?_ ?_ ?_
         ·refine⟨?_,?_,?_,?_,?_,?_,?_,trivial⟩
          ·exact fun _ _ _ h _=>h
          ·exact fun _ _ _ h _=>h
          ·exact fun _ _ _ h _=>h
          ·exact fun _ _ _ h _=>h
          ·exact fun _ _ _ h _=>h
          ·exact fun _ _ _ h _=>h
          ·exact fun _ _ _ h _=>h
         ·refine⟨?_,?_,?_,?_,?_,?_,?_,trivial⟩
          ·intro a wv hE hdf hF hD K hK
           have u:a.eval (.tmp 6) = .pointer (some ⟨D,0,none⟩):=(hF 6 (fr_ofOZ rfl)).trans rfl
           exact gs_valZ rfl (yr_fieldZ rfl u (fa_q3 D wv)) (hK _ _ rfl (Frm.refl _ _))
          ·intro a wv hE hdf hF hD K hK
           have u:a.eval (.tmp 86) = .pointer (some ⟨D,3,none⟩):=hD 0 (by kernel_rfl)
           have hb:BxT D (qnS.vals (qN 4 [] (cs ++ [s1]) no2 nc2 ns na nc (lfC CdD.zero) 0 0 0 0 none 0 [])) wv:=HR2.out.frm hE (fun⟨y,h1,h2⟩=>by
            rcases h2 with⟨h2,h3⟩|⟨h2,h3⟩
            ·omega
            ·have:=hbk _ h3;omega)
           exact gs_valZ rfl (yr_loadZ rfl u (ld_sl D 3 _ wv (hb.at 3 _ rfl))) (hK _ _ rfl (Frm.refl _ _))
          ·intro a wv hE hdf hF hD K hK
           exact gs_valZ rfl (yr_moveZ rfl ((hF 0 (fr_ofOZ rfl)).trans rfl)) (hK _ _ rfl (Frm.refl _ _))
          ·intro a wv hE hdf hF hD K hK
           have hP:Psr L ao cap B (q+1+1) wv:=HP2.out.frm hE (fun k ⟨y,h1,h2⟩=>by
            rcases h2 with⟨h2,h3⟩|⟨h2,h3⟩
            ·exact absurd h2 h1
            ·have:=hbk k h3;omega)
           have hC:=(HNn wv hP).out
           have u:a.eval (.tmp 88) = .pointer (some ⟨B,0,none⟩):=hD 2 (by kernel_rfl)
           refine gs_callZ rfl (yr_callZ rfl rfl (show(#[Operand.tmp 88]:Array Operand).map a.eval = #[.pointer (some ⟨B,0,none⟩)] by simp only[List.map_toArray,List.map_cons,List.map_nil,u]) (by kernel_rfl)) hC ?_
           rintro e w' ⟨hF6,rfl⟩
           refine .inr ⟨_,rfl,hdf,PR.no HB.out ((HF2.out.step hE (fun x h1 ⟨y,h0,h2⟩=>?_)).step hF6 (fun x h1 h2=>?_))⟩
           ·rcases h2 with⟨h2,h3⟩|⟨h2,h3⟩
            ·exact h3
            ·have:=hbk x h3;omega
           ·exact h2
          ·intro a wv hE hdf hF hD K hK
           exact(hD 3 (by kernel_rfl)).elim
          ·intro a wv hE hdf hF hD K hK
           exact(hD 4 (by kernel_rfl)).elim
          ·intro a wv hE hdf hF hD K hK
           have u:a.eval (.tmp 6) = .pointer (some ⟨D,0,none⟩):=(hF 6 (fr_ofOZ rfl)).trans rfl
           exact gs_valZ rfl (yr_fieldZ rfl u (fa_q3 D wv)) (hK _ _ rfl (Frm.refl _ _))
         ·intro vals wz hEz hRz
          obtain⟨-,-,-,hc,-⟩:=hRz
          exact hc.elim
       | ok s2 j3=>
         obtain⟨rfl,hs2,-⟩:=naP_ok hn
         have Hs2:=Lib.hid hs2
         have HY3:Hid ((if isP L wCm (q+1+1+1)=true then rnL L g' (cs ++ [s1]) (ns ++ [s2]) (q+1+1+1+1)else .ok (cs ++ [s1],ns ++ [s2]) (q+1+1+1)).bind K0=G):=by have hg:=HY2.out;rw[hn]at hg;exact hg
         rw[hn]at HNn
         have HNn:=fun w' hP=>Lib.hid (HNn w' hP)
         clear hn hs2 HY2
         refine wp_region_growX [some 86,some 87,some 88,some 89,some 90,some 91,some 92] [fun x _=>x = .pointer (some ⟨D,3,none⟩),fun x _=>x = .slice na ns.length nc,fun x _=>x = .pointer (some ⟨B,0,none⟩),fun x wv=>x = .string ⟨s2.toArray⟩∧Psr L ao cap B (q+1+1+1) wv,ApS w2.heap.size s2,ApR2 (Value.slice na ns.length nc).ownBlock w2.heap.size b0 (ns ++ [s2]),fun x _=>x = .pointer (some ⟨D,3,none⟩)] (fun y z=>y=3∧z=B∨y=5∧(Value.slice na ns.length nc).ownBlock=some z) 1 (by kernel_rfl) (by kernel_rfl) (by kernel_rfl) (by kernel_rfl) ?_ ?_ ?_
         ·refine⟨?_,?_,?_,?_,?_,?_,?_,trivial⟩
          ·exact fun _ _ _ h _=>h
          ·exact fun _ _ _ h _=>h
          ·exact fun _ _ _ h _=>h
          ·exact fun v w1 w2 h hF=>⟨h.1,h.2.frm hF (fun k ⟨y,h1,h2⟩=>by
            rcases h2 with⟨h2,h3⟩|⟨h2,h3⟩
            ·exact absurd h2 h1
            ·have:=hbk k h3;omega)⟩
          ·exact fun v w1 w2 h hF=>ApS.frm h hF (fun k ⟨y,h1,h2⟩=>by
            rcases h2 with⟨h2,h3⟩|⟨h2,h3⟩
            ·have:=HP2.out.hB;omega
            ·have:=hbk k h3;omega)
          ·exact fun v w1 w2 h hF=>ApR2.frm h hF (fun k ⟨y,h1,h2⟩=>by
            rcases h2 with⟨h2,h3⟩|⟨h2,h3⟩
            ·omega
            ·exact absurd h2 h1)
          ·exact fun _ _ _ h _=>h
         ·refine⟨?_,?_,?_,?_,?_,?_,?_,trivial⟩
          ·intro a wv hE hdf hF hD K hK
           have u:a.eval (.tmp 6) = .pointer (some ⟨D,0,none⟩):=(hF 6 (fr_ofOZ rfl)).trans rfl
           exact gs_valZ rfl (yr_fieldZ rfl u (fa_q3 D wv)) (hK _ _ rfl (Frm.refl _ _))
          ·intro a wv hE hdf hF hD K hK
           have u:a.eval (.tmp 86) = .pointer (some ⟨D,3,none⟩):=hD 0 (by kernel_rfl)
           have hb:BxT D (qnS.vals (qN 4 [] (cs ++ [s1]) no2 nc2 ns na nc (lfC CdD.zero) 0 0 0 0 none 0 [])) wv:=HR2.out.frm hE (fun⟨y,h1,h2⟩=>by
            rcases h2 with⟨h2,h3⟩|⟨h2,h3⟩
            ·omega
            ·have:=hbk _ h3;omega)
           exact gs_valZ rfl (yr_loadZ rfl u (ld_sl D 3 _ wv (hb.at 3 _ rfl))) (hK _ _ rfl (Frm.refl _ _))
          ·intro a wv hE hdf hF hD K hK
           exact gs_valZ rfl (yr_moveZ rfl ((hF 0 (fr_ofOZ rfl)).trans rfl)) (hK _ _ rfl (Frm.refl _ _))
          ·intro a wv hE hdf hF hD K hK
           have hP:Psr L ao cap B (q+1+1) wv:=HP2.out.frm hE (fun k ⟨y,h1,h2⟩=>by
            rcases h2 with⟨h2,h3⟩|⟨h2,h3⟩
            ·exact absurd h2 h1
            ·have:=hbk k h3;omega)
           have hC:=(HNn wv hP).out
           have u:a.eval (.tmp 88) = .pointer (some ⟨B,0,none⟩):=hD 2 (by kernel_rfl)
           refine gs_callZ rfl (yr_callZ rfl rfl (show(#[Operand.tmp 88]:Array Operand).map a.eval = #[.pointer (some ⟨B,0,none⟩)] by simp only[List.map_toArray,List.map_cons,List.map_nil,u]) (by kernel_rfl)) hC ?_
           rintro e w' ⟨hF6,v,rfl,rfl,hP6⟩
           exact .inl ⟨_,rfl,hK _ _ ⟨rfl,hP6⟩ (hF6.mono (fun x _ e=>.inl ⟨rfl,e⟩))⟩
          ·intro a wv hE hdf hF hD K hK
           have u:a.eval (.tmp 89) = .string ⟨s2.toArray⟩:=(hD 3 (by kernel_rfl)).1
           have hz:=hE.size
           exact gs_mkEZ rfl (yr_bs1Z rfl u (bs1_s s2 wv)) (hK _ _ ⟨wv.heap.size,rfl,hz,by simp,(BxT.new wv [.string ⟨s2.toArray⟩] 9).at 0 _ rfl⟩ (Frm.of_ext ((Ext.refl _).alloc _)))
          ·intro a wv hE hdf hF hD K hK
           have u1:a.eval (.tmp 87) = .slice na ns.length nc:=hD 1 (by kernel_rfl)
           obtain⟨Y,u2,hY1,hY2,hY3⟩:ApS w2.heap.size s2 (a.eval (.tmp 90)) wv:=hD 4 (by kernel_rfl)
           have hown:wv.ownsRow b0 9 1 (.slice na ns.length nc) ns.length (sv ns):=own_frmZ HOn2.out hE (fun k h5 h6 ⟨y,h1,h2⟩=>by
            rcases h2 with⟨h2,h3⟩|⟨h2,h3⟩
            ·omega
            ·exact absurd h2 h1)
           have hz:=hE.size
           refine wp_append_own_atZ _ (.tmp 87) (.tmp 90) 22 rfl b0 9 i0 (.string ByteArray.empty) 1 16 Tryz.underlying22 Hi.out Hz0.out Hz1.out Hz2.out rfl (by decide) _ _ _ u1 hown ⟨Y,0,none⟩ 1 1 [.string ⟨s2.toArray⟩] u2 rfl (ap_cell hY3) (fun x hx=>by simp at hx;subst hx;rfl) (by unfold maxLen;omega) (by omega) (by omega) ?_
           intro v' w' hown' hgrow hat
           exact hK _ _ (ApR2.mk hown' (fun k hk=>by
            rcases hat with q|q
            ·exact .inl (q.symm.trans hk)
            ·have hk2:=q.symm.trans hk;injection hk2 with hk2;exact .inr (by omega))) ⟨hgrow.os,hgrow.tape,hgrow.output,hgrow.size,fun k h1 h2=>hgrow.block k h1 (fun e=>h2 (.inr ⟨rfl,e.symm⟩))⟩
          ·intro a wv hE hdf hF hD K hK
           have u:a.eval (.tmp 6) = .pointer (some ⟨D,0,none⟩):=(hF 6 (fr_ofOZ rfl)).trans rfl
           exact gs_valZ rfl (yr_fieldZ rfl u (fa_q3 D wv)) (hK _ _ rfl (Frm.refl _ _))
         ·intro vals wz hEz hRz
          obtain⟨-,-,-,hc,-,hr,hl,-⟩:=hRz
          obtain⟨-,hcz⟩:vals 3 = .string ⟨s2.toArray⟩∧Psr L ao cap B (q+1+1+1) wz:=hc
          obtain⟨no3,nc3,er,hr3,hat3⟩:ApR2 (Value.slice na ns.length nc).ownBlock w2.heap.size b0 (ns ++ [s2]) (vals 5) wz:=hr
          have el:vals 6 = .pointer (some ⟨D,3,none⟩):=hl
          have hAll:∀x,AllS (fun y z=>y=3∧z=B∨y=5∧(Value.slice na ns.length nc).ownBlock=some z) x→x=B∨b0≤x:=fun x ⟨y,h2⟩=>by
           rcases h2 with⟨h2,h3⟩|⟨h2,h3⟩
           ·exact .inl h3
           ·have:=hbk x h3;omega
          have hbz:BxT D (qnS.vals (qN 4 [] (cs ++ [s1]) no2 nc2 ns na nc (lfC CdD.zero) 0 0 0 0 none 0 [])) wz:=HR2.out.frm hEz (fun q=>by have:=hAll D q;omega)
          simp only[putG,putD,Act.put,List.length_cons,List.length_nil,List.getD_cons_zero,List.getD_cons_succ,List.setIfInBounds_toArray,List.set_cons_zero,List.set_cons_succ,Nat.reduceAdd,er,el]
          refine wpAny_opZ (i:=7) (by kernel_rfl) rfl (by rfl) ?_
          refine gs_st1Z rfl 22 _ _ rfl D 3 (qnS.vals (qN 4 [] (cs ++ [s1]) no2 nc2 ns na nc (lfC CdD.zero) 0 0 0 0 none 0 [])) (.slice no3 (ns ++ [s2]).length nc3) rfl rfl hbz (by show 3<16;omega) (st_sl D 3 _ _ _) ?_
          intro WY hFY hRY
          refine wpAny_done (by kernel_rfl) ?_ _
          simp only[Act.put]
          have hsz4:=hEz.size
          have hsz5:=hFY.size
          have HP3:=Lib.hid (hcz.frm hFY (fun x e=>by omega))
          have HR3:Hid (BxT D (qnS.vals (qN 4 [] (cs ++ [s1]) no2 nc2 (ns ++ [s2]) no3 nc3 (lfC CdD.zero) 0 0 0 0 none 0 [])) WY):=hRY
          have HE3:=Lib.hid ((HE2.out.frm hEz (fun e=>by have:=hAll _ e;omega)).frm hFY (fun e=>by omega))
          have HF3:Hid (Frm (fun k=>k=B) w WY):=(HF2.out.step hEz (fun x h1 e=>by have:=hAll x e;omega)).step hFY (fun x h1 e=>by omega)
          have HOn3:=Lib.hid (own_frmZ hr3 hFY (fun k h1 h2 e=>by omega))
          have hcal:∀k,(Value.slice no2 (cs ++ [s1]).length nc2).ownBlock=some k→b0≤k∧k<w2.heap.size:=fun k hk=>HOc2.out.lt k hk
          have HOc3:Hid (WY.ownsRow b0 9 1 (.slice no2 (cs ++ [s1]).length nc2) (cs ++ [s1]).length (sv (cs ++ [s1]))):=own_frmZ (own_frmY HOc2.out hEz (fun k hk ⟨y,h2⟩=>by
           have:=hcal k hk
           rcases h2 with⟨h2,h3⟩|⟨h2,h3⟩
           ·omega
           ·exact Hdj1.out k h3 hk)) hFY (fun k h1 h2 e=>by omega)
          have Hdj3:Hid (∀k,(Value.slice no2 (cs ++ [s1]).length nc2).ownBlock=some k→(Value.slice no3 (ns ++ [s2]).length nc3).ownBlock≠some k):=fun k hk hk2=>by
           rcases hat3 k hk2 with q1|q1
           ·exact Hdj1.out k q1 hk
           ·have:=hcal k hk;omega
          have hbY3:b0≤WY.heap.size:=by omega
          have Hac3:Hid (∀x∈cs ++ [s1],nmQ x=true):=fun x hx=>by
           rcases List.mem_append.1 hx with q1|q1
           ·exact Hac.out x q1
           ·rw[List.mem_singleton.1 q1];exact Hs1.out
          have Han3:Hid (∀x∈ns ++ [s2],nmQ x=true):=fun x hx=>by
           rcases List.mem_append.1 hx with q1|q1
           ·exact Han.out x q1
           ·rw[List.mem_singleton.1 q1];exact Hs2.out
          clear hFY hRY hEz hcz hr3 hat3 hbz hbk HP2 HR2 HE2 HF2 HOc2 HOn2 Hdj1 hAll er el hcal HNn
          cases hc:isP L wCm (q+1+1+1)with
          | true=>
            have HA:=Lib.hid (acc_yes HP3.out wCm (by decide) hc)
            have hlt:=is_lt hc
            have HY4:Hid ((rnL L g' (cs ++ [s1]) (ns ++ [s2]) (q+1+1+1+1)).bind K0=G):=by have hg:=HY3.out;rw[if_pos hc]at hg;exact hg
            clear hc
            go_wp2_with (first
             | (go_at_call 113;(with_reducible refine HA.out.mono ?_);rintro x w5 ⟨rfl,hP5,hF5⟩))
            have hsz6:=hF5.size
            go_roundg g'
            case measure=>omega
            case rel=>exact⟨cs ++ [s1],ns ++ [s2],no2,nc2,no3,nc3,q+1+1+1+1,by omega,HY4.out,hP5,HR3.out.frm hF5 (fun e=>by omega),HE3.out.frm hF5 (fun e=>by omega),own_frmZ HOc3.out hF5 (fun k h1 h2 e=>by omega),own_frmZ HOn3.out hF5 (fun k h1 h2 e=>by omega),Hdj3.out,Hac3.out,Han3.out,by rw[List.length_append,List.length_singleton];omega,by rw[List.length_append,List.length_singleton];omega,HF3.out.trans hF5,by omega⟩
          | false=>
            have HA:=Lib.hid (acc_no HP3.out wCm (by decide) hc)
            have HG:Hid ((ofP L (qrP L k) (q+1+1+1)).bind (fun l i=>.ok (.mk {QnD.zero with k:=4,cols:=cs ++ [s1],nms:=ns ++ [s2]} l) i)=G):=by have hg:=HY3.out;rw[if_neg (by rw[hc];simp),HK0.out]at hg;exact hg
            clear hc
            go_wp2_with (first
             | (go_at_call 113;(with_reducible refine HA.out.mono ?_);rintro x w20 ⟨rfl,n5,hw20⟩)
             | (go_at_call 111;skip;fail))
            have hE20:Ext WY w20:=by rw[←hw20];exact(Ext.refl _).drewN n5
            have HP20:=Lib.hid (HP3.out.ext hE20)
            have HR20:=Lib.hid (HR3.out.ext hE20)
            have HE20:=Lib.hid (HE3.out.ext hE20)
            have HF20:=Lib.hid (HF3.out.trans (Frm.of_ext hE20))
            have TX_20:Hid (TxA (fun k=>w.heap.size<k∧k≠D) w20 no2 nc2 (cs ++ [s1])):=(TxA.ext (NmV.of_own HOc3.out rfl (Nat.le_refl _) (fun x hx=>by have:=nmQ_len (Hac3.out x hx);unfold Bs;omega)) hE20).mono (fun k h1 _=>by omega)
            have TY_20:Hid (TxA (fun k=>w.heap.size<k∧k≠D) w20 no3 nc3 (ns ++ [s2])):=(TxA.ext (NmV.of_own HOn3.out rfl (Nat.le_refl _) (fun x hx=>by have:=nmQ_len (Han3.out x hx);unfold Bs;omega)) hE20).mono (fun k h1 _=>by omega)
            have hz20:=hE20.size
            clear hw20 hE20 HP3 HR3 HE3 HF3 HOc3 HOn3
            go_wp2_with fail
            (go_at_call 111;refine(of_c HQ.out HP20.out).mono ?_)
            rintro x w21 hp
            cases hx:ofP L (qrP L k) (q+1+1+1)with
            | bad l c e=>
              have hg:=HG.out
              rw[hx]at hp hg
              obtain⟨hF,rfl⟩:=hp
              exact⟨rfl,PR.no hg.symm (HF20.out.trans hF)⟩
            | ok ql jz=>
              have hg:=HG.out
              rw[hx]at hp hg
              simp only[Rs.ok_bind]at hg
              have HG:=Lib.hid hg
              obtain⟨hFx,vx,rfl,⟨ts,qo,qc,rfl,hql⟩,hPx⟩:=hp
              clear hx hg
              have hFx21:=Lib.hid hFx
              have HP21:=Lib.hid hPx
              have HR21:=Lib.hid (HR20.out.frm hFx (fun e=>by omega))
              have HE21:=Lib.hid (HE20.out.frm hFx (fun e=>by omega))
              have HF21:=Lib.hid (HF20.out.trans hFx)
              have TX_21:=Lib.hid (TX_20.out.kp (Kp.frm hFx (fun k h1 e=>by omega)))
              have TY_21:=Lib.hid (TY_20.out.kp (Kp.frm hFx (fun k h1 e=>by omega)))
              have hz21:=hFx.size
              clear HP20 HR20 HE20 HF20 TX_20 TY_20
              clear hFx hPx
              have HQL:Hid (QlB (fun k=>w.heap.size<k∧k≠D) ql ts qo qc w21):=hql.mono (fun k h1 h2=>⟨by omega,by omega⟩)
              go_wp2_with (first
               | ((with_reducible show wpList _ _ _ (⟨none,.store _ (.tmp 100) _,_,_,_,_⟩::_) _ _);refine wpl_st1 rfl 30 _ _ rfl D 15 (qnS.vals (qN 4 [] (cs ++ [s1]) no2 nc2 (ns ++ [s2]) no3 nc3 (lfC CdD.zero) 0 0 0 0 none 0 [])) (.slice qo ts.length qc) rfl rfl HR21.out (by show 15<16;omega) (st_slq D 15 _ _ _) ?_;intro W22 hFy hRy;have hRq:BxT D (qnS.vals (qN 4 [] (cs ++ [s1]) no2 nc2 (ns ++ [s2]) no3 nc3 (lfC CdD.zero) 0 0 0 0 qo qc ts)) W22:=hRy;have hEq:=HE21.out.frm hFy (fun e=>by omega))
               | ((with_reducible show wpList _ _ _ (⟨some 167,.load _ _,_,_,_,_⟩::_) _ _);refine wpl_load rfl 32 _ rfl D 0 rfl (qnS.vals (qN 4 [] (cs ++ [s1]) no2 nc2 (ns ++ [s2]) no3 nc3 (lfC CdD.zero) 0 0 0 0 qo qc ts)) _ hRq.rd Tryz.underlying32 rfl (info_q (qN 4 [] (cs ++ [s1]) no2 nc2 (ns ++ [s2]) no3 nc3 (lfC CdD.zero) 0 0 0 0 qo qc ts)) ?_)
               | ((with_reducible show wpList _ _ _ (⟨none,.store _ (.tmp 4) _,_,_,_,_⟩::_) _ _);refine wpl_st rfl 32 _ _ rfl w.heap.size zeroQ (qnS.vals (qN 4 [] (cs ++ [s1]) no2 nc2 (ns ++ [s2]) no3 nc3 (lfC CdD.zero) 0 0 0 0 qo qc ts)) rfl rfl hEq rfl (info_q (qN 4 [] (cs ++ [s1]) no2 nc2 (ns ++ [s2]) no3 nc3 (lfC CdD.zero) 0 0 0 0 qo qc ts)) (vals_one_q (qN 4 [] (cs ++ [s1]) no2 nc2 (ns ++ [s2]) no3 nc3 (lfC CdD.zero) 0 0 0 0 qo qc ts)) ?_;intro WZ hFZ hRZ))
              refine bodyPost_ret (v:=.agg (qnS.vals (qN 4 [] (cs ++ [s1]) no2 nc2 (ns ++ [s2]) no3 nc3 (lfC CdD.zero) 0 0 0 0 qo qc ts)).toArray) (results_c9 rfl rfl (run_loadVar_mid WZ w.heap.size 0 32 _ _ hRZ.rd Tryz.underlying32 rfl (info_q (qN 4 [] (cs ++ [s1]) no2 nc2 (ns ++ [s2]) no3 nc3 (lfC CdD.zero) 0 0 0 0 qo qc ts)))) rfl ?_
              refine PR.endq HG.out.symm (HP21.out.frm hFy (fun x e=>by omega)) (HF21.out.step hFy (fun x h1 e=>by omega)) hBl ?_ ?_ hFZ
              ·refine InQ.qN ?_ ?_ ?_ ?_ ?_ ?_ ?_ ?_ ?_ ?_ ?_
               ·exact(TX_21.out.kp (Kp.frm hFy (fun k h1 e=>by omega))).mono (fun k h1 _=>h1.1)
               ·exact(TY_21.out.kp (Kp.frm hFy (fun k h1 e=>by omega))).mono (fun k h1 _=>h1.1)
               ·exact InC.leaf cd_zero_ok
               ·exact bs_zero
               ·exact(show Bi 4 by unfold Bi;omega)
               ·exact bi_zero
               ·exact bi_zero
               ·exact bi_zero
               ·exact bi_zero
               ·exact(HQL.out.kp (Kp.frm hFy (fun k h1 e=>by omega))).rd.mono (fun k h1 _=>h1.1)
               ·exact fun x hx=>((HQL.out.kp (Kp.frm hFy (fun k h1 e=>by omega))).inn x hx).mono (fun k h1 _=>h1.1)
              ·rw[map_qN,map_leaf,HQL.out.eq];rfl
end
end Go.Proofs.YtlmeinikknoeeaaGreatDoor
