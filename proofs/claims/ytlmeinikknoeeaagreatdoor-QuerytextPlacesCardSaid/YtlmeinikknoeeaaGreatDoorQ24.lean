/- Queries: the parser in memory; chains of conditions. -/
import Derived.Test.YtlmeinikknoeeaaGreatDoorQ07
import Derived.Deep.CutRange
namespace Go.Proofs.YtlmeinikknoeeaaGreatDoor
set_option linter.unusedVariables false
set_option linter.unnecessarySimpa false
set_option linter.unusedSimpArgs false
open Go.RowKit
theorem chL_no {L:List TkD} {s:List UInt8} {k:Int} {op:Nat→Rs (Tr CdD)} {g i:Nat} {c:Tr CdD} (h:isP L s i=false):chL L s k op g c i = .ok c i:=by
 cases g with
 | zero=>rfl
 | succ g=>rw[chL,h];rfl
theorem chL_yes {L:List TkD} {s:List UInt8} {k:Int} {op:Nat→Rs (Tr CdD)} {g i:Nat} {c:Tr CdD} (h:isP L s i=true):chL L s k op (g+1) c i=(op (i+1)).bind fun d j=>chL L s k op g (.mk (opD k) [c,d]) j:=by rw[chL,h];rfl
def ChE (L:List TkD) (ao:Option Addr) (cap B b:Nat) (dd:Tr CdD) (j:Nat) (x:Value) (w:World):Prop:=∃d:Cnd,x = .agg (cdS.vals d).toArray∧InC (fun y=>b≤y) w d∧mapT CdA.d d=dd∧Psr L ao cap B j w
def ChS (b:Nat) (t:Cnd) (dd:Tr CdD) (x:Value) (w:World):Prop:=∃(d:Cnd) (Y:Nat),x = .slice (some ⟨Y,0,none⟩) 2 2∧b≤Y∧Y<w.heap.size∧w.rangeAt Y 0 (cdS.vals t++cdS.vals d)∧InC (fun y=>b≤y) w d∧mapT CdA.d d=dd
def ChN (A:Nat→Prop) (c:Tr CdD) (x:Value) (w:World):Prop:=∃n:Cnd,x = .agg (cdS.vals n).toArray∧InC A w n∧mapT CdA.d n=c
theorem ChE.ext {L:List TkD} {ao:Option Addr} {cap B b:Nat} {dd:Tr CdD} {j:Nat} {x:Value} {w w':World} (h:ChE L ao cap B b dd j x w) (hE:Ext w w'):ChE L ao cap B b dd j x w':=by
 obtain⟨d,h1,h2,h3,h4⟩:=h
 exact⟨d,h1,h2.ext hE,h3,h4.ext hE⟩
theorem ChS.frm {b:Nat} {t:Cnd} {dd:Tr CdD} {x:Value} {S:Nat→Prop} {w w':World} (h:ChS b t dd x w) (hF:Frm S w w') (hS:∀k,S k→k<b):ChS b t dd x w':=by
 obtain⟨d,Y,h1,h2,h3,h4,h5,h6⟩:=h
 exact⟨d,Y,h1,h2,hF.lt h3,fun j v hv=>(hF.cel h3 (fun e=>by have:=hS _ e;omega) _).trans (h4 j v hv),h5.kp (Kp.frm hF (fun k a e=>by have:=hS _ e;omega)),h6⟩
theorem ChN.frm {A S:Nat→Prop} {c:Tr CdD} {x:Value} {w w':World} (h:ChN A c x w) (hF:Frm S w w') (hS:∀k,A k→¬S k):ChN A c x w':=by
 obtain⟨n,h1,h2,h3⟩:=h
 exact⟨n,h1,h2.kp (Kp.frm hF hS),h3⟩
theorem oth_ext {S:Nat→Nat→Prop} {i:Nat} {w w':World} (hF:Frm (OthS S i) w w') (hS:∀j k,j≠i→¬S j k):Ext w w':=Frm.ext hF (fun k ⟨j,h1,h2⟩=>absurd h2 (hS j k h1))
set_option maxRecDepth 100000 in
set_option maxHeartbeats 4000000 in
theorem chain_c {L:List TkD} {ao:Option Addr} {cap B i:Nat} {w:World} (h:Psr L ao cap B i w) (s:List UInt8) (hs:s.length≤9223372036854775806) (k:Int) (hk:Bi k) (fid:FuncId) (caps:Array Value) (op:Nat→Rs (Tr CdD))
  (hcf:∀w',(callFunc fid caps).run Tryz.prog w' = .ok (.enter fid caps) w')
  (hop:∀j w',Frm (fun k=>k=B∨w.heap.size≤k) w w'→Psr L ao cap B j w'→Calls Tryz.prog fid caps w' (PR L ao cap B w' (CdV w'.heap.size) (op j)))
  (hgt:∀j c j',op j = .ok c j'→j<j') :
  Calls Tryz.prog 136 #[.pointer (some ⟨B,0,none⟩),.string ⟨s.toArray⟩,.int .i64 k,.func (.func fid) #[] caps] w (PR L ao cap B w (CdV w.heap.size) (chP L s k op i)):=by
 have HOP:=Lib.hid hop
 have HGT:=Lib.hid hgt
 have HK:=Lib.hid hk
 have hBl:=h.hB
 clear hop hgt hk
 cases hn:op i with
 | bad l c e=>
   have HB:Hid (chP L s k op i = .bad l c e):=by rw[Hid];unfold chP;rw[hn];rfl
   have HN:=Lib.hid hn
   clear hn
   go_enter Tryz.func136,Tryz.ntmps136
   go_wp2_with (first
    | ((with_reducible show wpList _ _ _ (⟨_,.alloc _,_,_,_,_⟩::_) _ _);refine wpl_new rfl 27 zeroC rfl alloc_c ?_;intro W1 hE1 hR1 hz1;have HC:=HOP.out i W1 (Frm.of_ext hE1) (h.ext hE1);rw[HN.out]at HC;have HC:=Lib.hid HC)
    | ((with_reducible refine HC.out.mono ?_);rintro x w2 ⟨hF2,rfl⟩))
   exact⟨rfl,PR.no HB.out ((Frm.of_ext hE1).trans hF2)⟩
 | ok c1 j1=>
   obtain⟨G,hG⟩:∃G,chP L s k op i=G:=⟨_,rfl⟩
   have HG:Hid (chL L s k op L.length c1 j1=G):=by rw[Hid,←hG];unfold chP;rw[hn];rfl
   have HQ:=Lib.hid hG
   have HN:=Lib.hid hn
   clear hG hn
   go_enter Tryz.func136,Tryz.ntmps136
   go_wp2_with (first
    | ((with_reducible show wpList _ _ _ (⟨some 8,.alloc _,_,_,_,_⟩::_) _ _);refine wpl_new rfl 27 zeroC rfl alloc_c ?_;intro W1 hE1 hR1 hz1;have HC:=HOP.out i W1 (Frm.of_ext hE1) (h.ext hE1);rw[HN.out]at HC;have HC:=Lib.hid HC)
    | ((with_reducible refine HC.out.mono ?_);rintro x w2 ⟨hF2,v,rfl,hV,hP2⟩;obtain⟨t1,rfl,hI1,hm1⟩:=hV)
    | ((with_reducible show wpList _ _ _ (⟨some 9,.alloc _,_,_,_,_⟩::_) _ _);refine wpl_new rfl 27 zeroC rfl alloc_c ?_;intro W3 hE3 hR3 hz3)
    | ((with_reducible show wpList _ _ _ (⟨none,.store _ _ _,_,_,_,_⟩::_) _ _);refine wpl_st rfl 27 _ _ rfl w2.heap.size zeroC (cdS.vals t1) rfl rfl hR3 rfl (info_c t1) (vals_one_c t1) ?_;intro W4 hF4 hR4))
   have hs2:=hF2.size
   generalize hD:w2.heap.size=D at hF4 hR4 hR3 hz3 hs2 ⊢
   have HD:=Lib.hid hD
   have hm1:=Lib.hid hm1
   go_frame
   go_loopg [12] L.length (fun g _ wx=>∃(t:Cnd) (q:Nat),L.length≤q+g∧Hid (Psr L ao cap B q wx)∧Hid (BxT D (cdS.vals t) wx)∧Hid (InC (fun k=>w.heap.size<k∧k≠D) wx t)∧Hid (Frm (fun k=>k=B) w wx)∧Hid (chL L s k op g (mapT CdA.d t) q=G)∧Hid (BxT w.heap.size zeroC wx)∧Hid (B<w.heap.size∧w.heap.size<D))
   case atStart=>
    have e1:∀k,k=D→B<k:=fun k e=>by omega
    refine⟨t1,j1,by omega,(hP2.ext hE3).frm hF4 e1,hR4,?_,?_,?_,?_,⟨hBl,by omega⟩⟩
    ·have hI3:=(InC.mono (A':=fun k=>w.heap.size<k∧k≠D) (fun k h1 h2=>⟨by omega,by omega⟩) hI1).ext hE3
     exact hI3.kp (Kp.frm hF4 (fun k h1 e=>h1.2 e))
    ·exact((((Frm.of_ext hE1).trans hF2).trans (Frm.of_ext hE3)).step hF4 (fun x h1 e=>by omega))
    ·rw[Hid,hm1.out];exact HG.out
    ·exact((((hR1.frm hF2 (by omega)).ext hE3).frm hF4 (by omega)))
   case round=>
    obtain⟨t,q,hgk,hps,hbx,hin,hfr,hrec,hrv,hBD⟩:=hrel
    cases hc:isP L s q with
    | false=>
      have HA:=Lib.hid (acc_no hps.out s hs hc)
      have HGk:Hid (G = .ok (mapT CdA.d t) q):=by rw[Hid,←hrec.out];exact chL_no hc
      clear hc
      go_wp2_with (first
       | (go_at_call 113;(with_reducible refine HA.out.mono ?_);rintro x w5 ⟨rfl,n,rfl⟩)
       | ((with_reducible show wpList _ _ _ (⟨_,.load _ _,_,_,_,_⟩::_) _ _);refine wpl_load rfl 27 _ rfl D 0 rfl (cdS.vals t) _ (hbx.out.ext ((Ext.refl _).drewN n)).rd Tryz.underlying27 rfl (info_c t) ?_)
       | ((with_reducible show wpList _ _ _ (⟨none,.store _ _ _,_,_,_,_⟩::_) _ _);refine wpl_st rfl 27 _ _ rfl w.heap.size zeroC (cdS.vals t) rfl rfl (hrv.out.ext ((Ext.refl _).drewN n)) rfl (info_c t) (vals_one_c t) ?_;intro W6 hF6 hR6))
      have hP6:=(hps.out.ext ((Ext.refl _).drewN n)).frm hF6 (fun k e=>by omega)
      have hfr6:=(hfr.out.trans (Frm.of_ext ((Ext.refl _).drewN n))).step hF6 (fun x h1 e=>by omega)
      have hin6:InC (fun k=>w.heap.size≤k) W6 t:=((hin.out.ext ((Ext.refl _).drewN n)).kp (Kp.frm hF6 (fun k h1 e=>by omega))).mono (fun k h1 _=>by omega)
      refine bodyPost_ret (v:=.agg (cdS.vals t).toArray) (results_c9 rfl rfl (run_loadVar_mid W6 w.heap.size 0 27 _ _ hR6.rd Tryz.underlying27 rfl (info_c t))) rfl ?_
      exact PR.fin (HQ.out.trans HGk.out) ⟨hP6,hfr6⟩ (Ext.refl _) ⟨t,rfl,hin6,rfl⟩
    | true=>
      have HA:=Lib.hid (acc_yes hps.out s hs hc)
      have hlt:=is_lt hc
      obtain⟨g',rfl⟩:∃g',gk=g'+1:=⟨gk-1,by omega⟩
      have HY:Hid ((op (q+1)).bind (fun d j=>chL L s k op g' (.mk (opD k) [mapT CdA.d t,d]) j)=G):=by rw[Hid,←hrec.out,chL_yes hc]
      clear hc
      go_wp2_with (first
       | (go_at_call 113;(with_reducible refine HA.out.mono ?_);rintro x w5 ⟨rfl,hP5,hF5⟩))
      have hP5:=Lib.hid hP5
      have hF5:=Lib.hid hF5
      have hfr5:=Lib.hid (hfr.out.trans hF5.out)
      have hbx5:=Lib.hid (hbx.out.frm hF5.out (fun e=>by have:=hBD.out;omega))
      have hrv5:=Lib.hid (hrv.out.frm hF5.out (fun e=>by have:=hBD.out;omega))
      have hin5:=Lib.hid (hin.out.kp (Kp.frm hF5.out (fun k h1 e=>by have:=hBD.out;omega)))
      have hsz5:=Lib.hid hF5.out.size
      cases hn2:op (q+1)with
      | bad l c e=>
        have HN2:=Lib.hid hn2
        rw[hn2]at HY
        have HB:Hid (chP L s k op i = .bad l c e):=by rw[Hid,HQ.out,←HY.out];rfl
        clear hn2
        refine wp_region_growX [some 15,some 16,some 17,some 18,some 19,some 20] [fun x _=>x = .int .i64 k,fun x _=>x = .agg (cdS.vals t).toArray,fun x _=>x = .func (.func fid) #[] caps,fun _ _=>False,fun _ _=>False,fun _ _=>False] (fun j y=>j=3∧y=B) 1 (by kernel_rfl) (by kernel_rfl) (by kernel_rfl) (by kernel_rfl) ?_ ?_ ?_
        ·refine⟨?_,?_,?_,?_,?_,?_,trivial⟩<;>exact fun _ _ _ h _=>h
        ·refine⟨?_,?_,?_,?_,?_,?_,trivial⟩
         ·intro a wv hE hdf hF hD K hK
          exact gs_valZ rfl (yr_moveZ rfl ((hF 2 (fr_ofOZ rfl)).trans rfl)) (hK _ _ rfl (Frm.refl _ _))
         ·intro a wv hE hdf hF hD K hK
          exact gs_valZ rfl (yr_loadZ rfl ((hF 9 (fr_ofOZ rfl)).trans rfl) (ld_c (hbx5.out.frm hE (fun⟨j,h1,h2,h3⟩=>by have:=hBD.out;omega)))) (hK _ _ rfl (Frm.refl _ _))
         ·intro a wv hE hdf hF hD K hK
          exact gs_valZ rfl (yr_moveZ rfl ((hF 3 (fr_ofOZ rfl)).trans rfl)) (hK _ _ rfl (Frm.refl _ _))
         ·intro a wv hE hdf hF hD K hK
          have hE5:=oth_ext hE (fun j k h1 h2=>h1 h2.1)
          have hC:=HOP.out (q+1) wv ((hfr5.out.trans (Frm.of_ext hE5)).mono (fun x _ e=>.inl e)) (hP5.out.ext hE5)
          rw[HN2.out]at hC
          have u17:a.eval (.tmp 17) = .func (.func fid) #[] caps:=hD 2 (by kernel_rfl)
          refine gs_callZ rfl (yr_callvZ rfl u17 (hcf wv)) hC ?_
          rintro e w' ⟨hF6,rfl⟩
          exact .inr ⟨_,rfl,hdf,PR.no HB.out ((hfr5.out.trans (Frm.of_ext hE5)).trans hF6)⟩
         ·intro a wv hE hdf hF hD K hK
          exact(hD 3 (by kernel_rfl)).elim
         ·intro a wv hE hdf hF hD K hK
          exact(hD 4 (by kernel_rfl)).elim
        ·intro vals wz hEz hRz
         obtain⟨-,-,-,h3,-⟩:=hRz
         exact h3.elim
      | ok dd jj=>
        have HN2:=Lib.hid hn2
        rw[hn2]at HY
        have HY2:Hid (chL L s k op g' (.mk (opD k) [mapT CdA.d t,dd]) jj=G):=HY.out
        have hjj:=HGT.out (q+1) dd jj hn2
        clear hn2
        have hBD1:B<w.heap.size:=hBD.out.1
        have hBD2:w.heap.size<D:=hBD.out.2
        have hD5:D<w5.heap.size:=hbx5.out.hD
        refine wp_region_growX [some 15,some 16,some 17,some 18,some 19,some 20] [fun x _=>x = .int .i64 k,fun x _=>x = .agg (cdS.vals t).toArray,fun x _=>x = .func (.func fid) #[] caps,ChE L ao cap B w5.heap.size dd jj,ChS w5.heap.size t dd,ChN (fun y=>w.heap.size<y∧y≠D) (.mk (opD k) [mapT CdA.d t,dd])] (fun j y=>j=3∧y=B) 1 (by kernel_rfl) (by kernel_rfl) (by kernel_rfl) (by kernel_rfl) ?_ ?_ ?_
        ·refine⟨?_,?_,?_,?_,?_,?_,trivial⟩
         ·exact fun _ _ _ h _=>h
         ·exact fun _ _ _ h _=>h
         ·exact fun _ _ _ h _=>h
         ·exact fun v w w' h hF=>ChE.ext h (oth_ext hF (fun j k h1 h2=>h1 h2.1))
         ·exact fun v w w' h hF=>ChS.frm h hF (fun k ⟨j,h1,h2,h3⟩=>by omega)
         ·exact fun v w w' h hF=>ChN.frm h hF (fun k h1 ⟨j,_,_,h3⟩=>by omega)
        ·refine⟨?_,?_,?_,?_,?_,?_,trivial⟩
         ·intro a wv hE hdf hF hD K hK
          exact gs_valZ rfl (yr_moveZ rfl ((hF 2 (fr_ofOZ rfl)).trans rfl)) (hK _ _ rfl (Frm.refl _ _))
         ·intro a wv hE hdf hF hD K hK
          exact gs_valZ rfl (yr_loadZ rfl ((hF 9 (fr_ofOZ rfl)).trans rfl) (ld_c (hbx5.out.frm hE (fun⟨j,h1,h2,h3⟩=>by omega)))) (hK _ _ rfl (Frm.refl _ _))
         ·intro a wv hE hdf hF hD K hK
          exact gs_valZ rfl (yr_moveZ rfl ((hF 3 (fr_ofOZ rfl)).trans rfl)) (hK _ _ rfl (Frm.refl _ _))
         ·intro a wv hE hdf hF hD K hK
          have hE5:=oth_ext hE (fun j k h1 h2=>h1 h2.1)
          have hC:=HOP.out (q+1) wv ((hfr5.out.trans (Frm.of_ext hE5)).mono (fun x _ e=>.inl e)) (hP5.out.ext hE5)
          rw[HN2.out]at hC
          have u17:a.eval (.tmp 17) = .func (.func fid) #[] caps:=hD 2 (by kernel_rfl)
          refine gs_callZ rfl (yr_callvZ rfl u17 (hcf wv)) hC ?_
          rintro e w' ⟨hF6,v,rfl,⟨d,rfl,hd1,hd2⟩,hP6⟩
          have hz:=hE5.size
          exact .inl ⟨_,rfl,hK _ _ ⟨d,rfl,hd1.mono (fun y h1 _=>by omega),hd2,hP6⟩ (hF6.mono (fun x _ e=>⟨rfl,e⟩))⟩
         ·intro a wv hE hdf hF hD K hK
          have u16:a.eval (.tmp 16) = .agg (cdS.vals t).toArray:=hD 1 (by kernel_rfl)
          obtain⟨d,u18,hd1,hd2,-⟩:ChE L ao cap B w5.heap.size dd jj (a.eval (.tmp 18)) wv:=hD 3 (by kernel_rfl)
          have hz:=hE.size
          refine gs_mkEZ rfl (yr_bsnZ rfl (us:=#[(0,.agg (cdS.vals t).toArray),(1,.agg (cdS.vals d).toArray)]) (by simp[u16,u18]) (bs2_c t d wv)) (hK _ _ ⟨d,wv.heap.size,rfl,hz,by simp,?_,hd1.ext ((Ext.refl _).alloc _),hd2⟩ (Frm.of_ext ((Ext.refl _).alloc _)))
          exact(BxT.new wv (cdS.vals t++cdS.vals d) 27).rd
         ·intro a wv hE hdf hF hD K hK
          have u15:a.eval (.tmp 15) = .int .i64 k:=hD 0 (by kernel_rfl)
          obtain⟨d,Y,u19,hY1,hY2,hY3,hd1,hd2⟩:ChS w5.heap.size t dd (a.eval (.tmp 19)) wv:=hD 4 (by kernel_rfl)
          refine gs_valZ rfl (yr_bld2Z rfl u15 u19 (bd2_c k Y t d wv)) (hK _ _ ⟨opC2 k Y t d,rfl,InC.op2 HK.out (hin5.out.kp (Kp.frm hE (fun y h1 ⟨j,_,_,h3⟩=>by omega))) (hd1.mono (fun y h1 _=>⟨by omega,by omega⟩)) Y ⟨by omega,by omega⟩ hY2 hY3,?_⟩ (Frm.refl _ _))
          rw[map_op2,hd2]
        ·intro vals wz hEz hRz
         obtain⟨-,-,-,h3,-,h5,-⟩:=hRz
         obtain⟨-,-,-,-,hP6⟩:ChE L ao cap B w5.heap.size dd jj (vals 3) wz:=h3
         obtain⟨n,e20,hn1,hn2⟩:ChN (fun y=>w.heap.size<y∧y≠D) (.mk (opD k) [mapT CdA.d t,dd]) (vals 5) wz:=h5
         have hFz:Frm (fun y=>y=B) w5 wz:=hEz.mono (fun y _ ⟨j,_,e⟩=>e)
         simp only[putG,putD,Act.put,List.length_cons,List.length_nil,List.getD_cons_zero,List.getD_cons_succ,List.setIfInBounds_toArray,List.set_cons_zero,List.set_cons_succ,Nat.reduceAdd,e20]
         refine wpAny_opZ (i:=6) (by kernel_rfl) rfl (by rfl) ?_
         refine gs_stZ rfl 27 _ _ rfl D (cdS.vals t) (cdS.vals n) rfl rfl (hbx5.out.frm hFz (fun e=>by omega)) rfl (info_c n) (vals_one_c n) ?_
         intro W8 hF8 hR8
         refine wpAny_done (by kernel_rfl) ?_ _
         simp only[Act.put]
         have hz5:=hFz.size
         go_wp2_with fail
         go_roundg g'
         case measure=>omega
         case rel=>exact⟨n,jj,by omega,hP6.frm hF8 (fun x e=>by omega),hR8,hn1.kp (Kp.frm hF8 (fun x h1 e=>h1.2 e)),(hfr5.out.trans hFz).step hF8 (fun x h1 e=>by omega),by rw[Hid,hn2];exact HY2.out,(hrv5.out.frm hFz (fun e=>by omega)).frm hF8 (fun e=>by omega),⟨hBD1,hBD2⟩⟩
end Go.Proofs.YtlmeinikknoeeaaGreatDoor
namespace Go.Proofs.YtlmeinikknoeeaaGreatDoor
set_option maxRecDepth 100000
set_option maxHeartbeats 2000000
set_option linter.unusedVariables false
set_option linter.unnecessarySimpa false
set_option linter.unusedSimpArgs false
open Go.RowKit
theorem chL_gt {L:List TkD} {s:List UInt8} {k:Int} {op:Nat→Rs (Tr CdD)} (hgt:∀j c j',op j = .ok c j'→j<j'):∀(g i:Nat) (c d:Tr CdD) (j:Nat),chL L s k op g c i = .ok d j→i≤j
 | 0,i,c,d,j,h=>by rw[chL]at h;injection h with _ h;omega
 | g+1,i,c,d,j,h=>by
   rw[chL]at h
   split at h
   ·cases hn:op (i+1)with
    | bad l c e=>rw[hn]at h;cases h
    | ok d2 j2=>
      rw[hn]at h
      have:=chL_gt hgt g j2 _ d j h
      have:=hgt _ _ _ hn
      omega
   ·injection h with _ h;omega
theorem chP_gt {L:List TkD} {s:List UInt8} {k:Int} {op:Nat→Rs (Tr CdD)} (hgt:∀j c j',op j = .ok c j'→j<j') (i:Nat) (d:Tr CdD) (j:Nat) (h:chP L s k op i = .ok d j):i<j:=by
 unfold chP at h
 cases hn:op i with
 | bad l c e=>rw[hn]at h;cases h
 | ok d2 j2=>
   rw[hn]at h
   have:=chL_gt hgt _ _ _ _ _ h
   have:=hgt _ _ _ hn
   omega
def CapC (B b1 b2:Nat) (d:Int) (w:World):Prop:=B<b1∧B<b2∧b1<w.heap.size∧b2<w.heap.size∧w.cell? ⟨b1,0,none⟩=some (.pointer (some ⟨B,0,none⟩))∧w.cell? ⟨b2,0,none⟩=some (.int .i64 d)
theorem CapC.frm {B b1 b2:Nat} {d:Int} {w w':World} (h:CapC B b1 b2 d w) (hF:Frm (fun k=>k=B∨w.heap.size≤k) w w'):CapC B b1 b2 d w':=by
 obtain⟨h1,h2,h3,h4,h5,h6⟩:=h
 exact⟨h1,h2,hF.lt h3,hF.lt h4,(hF.cel h3 (by omega) _).trans h5,(hF.cel h4 (by omega) _).trans h6⟩
theorem CapC.ext {B b1 b2:Nat} {d:Int} {w w':World} (h:CapC B b1 b2 d w) (hE:Ext w w'):CapC B b1 b2 d w':=h.frm (Frm.of_ext hE)
theorem CdV.ext {b:Nat} {c:Tr CdD} {v:Value} {w w':World} (h:CdV b c v w) (hE:Ext w w'):CdV b c v w':=by
 obtain⟨t,h1,h2,h3⟩:=h
 exact⟨t,h1,h2.ext hE,h3⟩
theorem CdV.res {b:Nat} {t:Cnd} {c:Tr CdD} {w w':World} (h:InC (fun k=>b<k) w t) (hm:mapT CdA.d t=c) (hF:Frm (fun k=>k=b) w w'):CdV b c (.agg (cdS.vals t).toArray) w':=
 ⟨t,rfl,(h.kp (Kp.frm hF (fun k h1 e=>by omega))).mono (fun k h1 _=>by omega),hm⟩
section
variable {L:List TkD} {ao:Option Addr} {cap B:Nat}
def UnK (L:List TkD) (ao:Option Addr) (cap B:Nat) (k:Nat) (d:Int):Prop:=∀(i:Nat) (w:World),Psr L ao cap B i w→Calls Tryz.prog 139 #[.pointer (some ⟨B,0,none⟩),.int .i64 d] w (PR L ao cap B w (CdV w.heap.size) (unP L k i))
theorem c11_c {k:Nat} {d:Int} (hU:UnK L ao cap B k d) {b1 b2 i:Nat} {w:World} (hc:CapC B b1 b2 d w) (h:Psr L ao cap B i w) :
  Calls Tryz.prog 138 #[.pointer (some ⟨b1,0,none⟩),.pointer (some ⟨b2,0,none⟩)] w (PR L ao cap B w (CdV w.heap.size) (unP L k i)):=by
 have HU:=Lib.hid hU
 have HC:=Lib.hid hc
 have hBl:=h.hB
 clear hU hc
 cases hn:unP L k i with
 | bad l c e=>
   have HN:=Lib.hid hn
   clear hn
   go_enter Tryz.func138,Tryz.ntmps138
   go_wp2_with (first
    | ((with_reducible show wpList _ _ _ (⟨_,.alloc _,_,_,_,_⟩::_) _ _);refine wpl_new rfl 27 zeroC rfl alloc_c ?_;intro W1 hE1 hR1 hz1;obtain⟨-,-,-,-,q1,q2⟩:=HC.out.ext hE1;have HD:=HU.out i W1 (h.ext hE1);rw[HN.out]at HD;have HD:=Lib.hid HD)
    | (go_at_call 139;(with_reducible refine HD.out.mono ?_);rintro x w2 ⟨hF2,rfl⟩))
   exact⟨rfl,PR.no rfl ((Frm.of_ext hE1).trans hF2)⟩
 | ok c j=>
   have HN:=Lib.hid hn
   clear hn
   go_enter Tryz.func138,Tryz.ntmps138
   go_wp2_with (first
    | ((with_reducible show wpList _ _ _ (⟨_,.alloc _,_,_,_,_⟩::_) _ _);refine wpl_new rfl 27 zeroC rfl alloc_c ?_;intro W1 hE1 hR1 hz1;obtain⟨-,-,-,-,q1,q2⟩:=HC.out.ext hE1;have HD:=HU.out i W1 (h.ext hE1);rw[HN.out]at HD;have HD:=Lib.hid HD)
    | (go_at_call 139;(with_reducible refine HD.out.mono ?_);rintro x w2 ⟨hF2,v,rfl,hV,hP2⟩;obtain⟨t,rfl,hI,hm⟩:=hV)
    | ((with_reducible show wpList _ _ _ (⟨none,.store _ _ _,_,_,_,_⟩::_) _ _);refine wpl_st rfl 27 _ _ rfl w.heap.size zeroC (cdS.vals t) rfl rfl (hR1.frm hF2 (fun e=>by omega)) rfl (info_c t) (vals_one_c t) ?_;intro W6 hF6 hR6))
   refine bodyPost_ret (v:=.agg (cdS.vals t).toArray) (results_c9 rfl rfl (run_loadVar_mid W6 w.heap.size 0 27 _ _ hR6.rd Tryz.underlying27 rfl (info_c t))) rfl ?_
   exact PR.fin rfl ⟨hP2.frm hF6 (fun x e=>by omega),((Frm.of_ext hE1).trans hF2).step hF6 (fun x h1 e=>by omega)⟩ (Ext.refl _) (CdV.res (hI.mono (fun k h1 _=>by omega)) hm hF6)
theorem cf11 (xs:Array Value) (w:World):(callFunc 138 xs).run Tryz.prog w = .ok (.enter 138 xs) w:=by kernel_rfl
theorem cf1 (xs:Array Value) (w:World):(callFunc 137 xs).run Tryz.prog w = .ok (.enter 137 xs) w:=by kernel_rfl
theorem c1_c {k:Nat} {d:Int} (hU:UnK L ao cap B k d) (hg:∀j c j',unP L k j = .ok c j'→j<j') {b1 b2 i:Nat} {w:World} (hc:CapC B b1 b2 d w) (h:Psr L ao cap B i w) :
  Calls Tryz.prog 137 #[.pointer (some ⟨b1,0,none⟩),.pointer (some ⟨b2,0,none⟩)] w (PR L ao cap B w (CdV w.heap.size) (chP L wAnd 5 (unP L k) i)):=by
 have HU:=Lib.hid hU
 have HC:=Lib.hid hc
 have hBl:=h.hB
 have CHA:∀W,Ext w W→Calls Tryz.prog 136 #[.pointer (some ⟨B,0,none⟩),.string ⟨(wAnd).toArray⟩,.int .i64 5,.func (.func 138) #[] #[.pointer (some ⟨b1,0,none⟩),.pointer (some ⟨b2,0,none⟩)]] W (PR L ao cap B W (CdV W.heap.size) (chP L wAnd 5 (unP L k) i)):=fun W hE=>
  chain_c (h.ext hE) wAnd (by decide) 5 (by unfold Bi;omega) _ _ (unP L k) (fun w'=>cf11 _ w') (fun j w' hF hP=>c11_c hU ((hc.ext hE).frm hF) hP) hg
 clear hU hc
 cases hn:chP L wAnd 5 (unP L k) i with
 | bad l c e=>
   have HN:=Lib.hid hn
   clear hn
   have hmf:∀(fn:Fn) (first cap:Array Value) (w:World),(Instr.makeFunc fn first cap).run Tryz.prog w = .ok (.func fn first cap) w:=fun _ _ _ _=>rfl
   go_enter Tryz.func137,Tryz.ntmps137
   go_wp2_with (first
    | ((with_reducible show wpList _ _ _ (⟨_,.alloc _,_,_,_,_⟩::_) _ _);refine wpl_new rfl 27 zeroC rfl alloc_c ?_;intro W1 hE1 hR1 hz1;obtain⟨-,-,-,-,q1,q2⟩:=HC.out.ext hE1;have HD:=CHA W1 hE1;rw[HN.out]at HD;have HD:=Lib.hid HD)
    | (go_at_call 136;(with_reducible refine HD.out.mono ?_);rintro x w2 ⟨hF2,rfl⟩))
   exact⟨rfl,PR.no rfl ((Frm.of_ext hE1).trans hF2)⟩
 | ok c j=>
   have HN:=Lib.hid hn
   clear hn
   have hmf:∀(fn:Fn) (first cap:Array Value) (w:World),(Instr.makeFunc fn first cap).run Tryz.prog w = .ok (.func fn first cap) w:=fun _ _ _ _=>rfl
   go_enter Tryz.func137,Tryz.ntmps137
   go_wp2_with (first
    | ((with_reducible show wpList _ _ _ (⟨_,.alloc _,_,_,_,_⟩::_) _ _);refine wpl_new rfl 27 zeroC rfl alloc_c ?_;intro W1 hE1 hR1 hz1;obtain⟨-,-,-,-,q1,q2⟩:=HC.out.ext hE1;have HD:=CHA W1 hE1;rw[HN.out]at HD;have HD:=Lib.hid HD)
    | (go_at_call 136;(with_reducible refine HD.out.mono ?_);rintro x w2 ⟨hF2,v,rfl,hV,hP2⟩;obtain⟨t,rfl,hI,hm⟩:=hV)
    | ((with_reducible show wpList _ _ _ (⟨none,.store _ _ _,_,_,_,_⟩::_) _ _);refine wpl_st rfl 27 _ _ rfl w.heap.size zeroC (cdS.vals t) rfl rfl (hR1.frm hF2 (fun e=>by omega)) rfl (info_c t) (vals_one_c t) ?_;intro W6 hF6 hR6))
   refine bodyPost_ret (v:=.agg (cdS.vals t).toArray) (results_c9 rfl rfl (run_loadVar_mid W6 w.heap.size 0 27 _ _ hR6.rd Tryz.underlying27 rfl (info_c t))) rfl ?_
   exact PR.fin rfl ⟨hP2.frm hF6 (fun x e=>by omega),((Frm.of_ext hE1).trans hF2).step hF6 (fun x h1 e=>by omega)⟩ (Ext.refl _) (CdV.res (hI.mono (fun k h1 _=>by omega)) hm hF6)
theorem cap_new {w:World} (hB:B<w.heap.size) (d:Int) (t1 t2:TypeId):CapC B w.heap.size (w.heap.size+1) d ((w.alloc (.cells #[.pointer (some ⟨B,0,none⟩)] t1)).alloc (.cells #[.int .i64 d] t2)):=by
 have z1:(w.alloc (.cells #[.pointer (some ⟨B,0,none⟩)] t1)).heap.size=w.heap.size+1:=by simp
 have b1:=BxT.new w [.pointer (some ⟨B,0,none⟩)] t1
 have b2:=BxT.new (w.alloc (.cells #[.pointer (some ⟨B,0,none⟩)] t1)) [.int .i64 d] t2
 have b3:=b1.ext ((Ext.refl _).alloc (.cells [.int .i64 d].toArray t2))
 rw[z1]at b2
 exact⟨hB,by omega,b3.hD,b2.hD,b3.at 0 _ rfl,b2.at 0 _ rfl⟩
theorem cond_c {k:Nat} {d:Int} (hU:UnK L ao cap B k d) (hg:∀j c j',unP L k j = .ok c j'→j<j') {i:Nat} {w:World} (h:Psr L ao cap B i w) :
  Calls Tryz.prog 67 #[.pointer (some ⟨B,0,none⟩),.int .i64 d] w (PR L ao cap B w (CdV w.heap.size) (cdP L k i)):=by
 have hBl:=h.hB
 have CHA:∀W,Ext ((w.alloc (.cells #[.pointer (some ⟨B,0,none⟩)] 89)).alloc (.cells #[.int .i64 d] 3)) W→Calls Tryz.prog 136 #[.pointer (some ⟨B,0,none⟩),.string ⟨(wOr).toArray⟩,.int .i64 6,.func (.func 137) #[] #[.pointer (some ⟨w.heap.size,0,none⟩),.pointer (some ⟨w.heap.size+1,0,none⟩)]] W (PR L ao cap B W (CdV W.heap.size) (cdP L k i))∧Ext w W:=fun W hE=>by
  have hc:=(cap_new hBl d 89 3).ext hE
  have hE2:Ext w W:=(((Ext.refl w).alloc _).alloc _).trans hE
  exact⟨chain_c (h.ext hE2) wOr (by decide) 6 (by unfold Bi;omega) _ _ (chP L wAnd 5 (unP L k)) (fun w'=>cf1 _ w') (fun j w' hF hP=>c1_c hU hg (hc.frm hF) hP) (fun j c j' h=>chP_gt hg j c j' h),hE2⟩
 have hz0:((w.alloc (.cells #[.pointer (some ⟨B,0,none⟩)] 89)).alloc (.cells #[.int .i64 d] 3)).heap.size=w.heap.size+1+1:=by simp
 clear hU
 have hmf:∀(fn:Fn) (first cap:Array Value) (w:World),(Instr.makeFunc fn first cap).run Tryz.prog w = .ok (.func fn first cap) w:=fun _ _ _ _=>rfl
 cases hn:cdP L k i with
 | bad l c e=>
   have HN:=Lib.hid hn
   clear hn
   go_enter Tryz.func67,Tryz.ntmps67
   go_wp2_with (first
    | ((with_reducible show wpList _ _ _ (⟨_,.alloc _,_,_,_,_⟩::_) _ _);refine wpl_new rfl 27 zeroC rfl alloc_c ?_;intro W1 hE1 hR1 hz1;have q1:W1.cell? ⟨w.heap.size,0,none⟩=some (.pointer (some ⟨B,0,none⟩)):=((cap_new hBl d 89 3).ext hE1).2.2.2.2.1;obtain⟨HD,hE2⟩:=CHA W1 hE1;rw[HN.out]at HD;have HD:=Lib.hid HD)
    | (go_at_call 136;(with_reducible refine HD.out.mono ?_);rintro x w2 ⟨hF2,rfl⟩))
   exact⟨rfl,PR.no rfl ((Frm.of_ext hE2).trans hF2)⟩
 | ok c j=>
   have HN:=Lib.hid hn
   clear hn
   go_enter Tryz.func67,Tryz.ntmps67
   go_wp2_with (first
    | ((with_reducible show wpList _ _ _ (⟨_,.alloc _,_,_,_,_⟩::_) _ _);refine wpl_new rfl 27 zeroC rfl alloc_c ?_;intro W1 hE1 hR1 hz1;have q1:W1.cell? ⟨w.heap.size,0,none⟩=some (.pointer (some ⟨B,0,none⟩)):=((cap_new hBl d 89 3).ext hE1).2.2.2.2.1;obtain⟨HD,hE2⟩:=CHA W1 hE1;rw[HN.out]at HD;have HD:=Lib.hid HD)
    | (go_at_call 136;(with_reducible refine HD.out.mono ?_);rintro x w2 ⟨hF2,v,rfl,hV,hP2⟩;obtain⟨t,rfl,hI,hm⟩:=hV;have hz2:W1.heap.size=w.heap.size+1+1+1:=hz1.trans (by rw[hz0]);have hR2:BxT (w.heap.size+1+1) zeroC W1:=by rw[←hz0];exact hR1)
    | ((with_reducible show wpList _ _ _ (⟨none,.store _ _ _,_,_,_,_⟩::_) _ _);refine wpl_st rfl 27 _ _ rfl (w.heap.size+1+1) zeroC (cdS.vals t) rfl rfl (hR2.frm hF2 (fun e=>by omega)) rfl (info_c t) (vals_one_c t) ?_;intro W6 hF6 hR6))
   refine bodyPost_ret (v:=.agg (cdS.vals t).toArray) (results_c9 rfl rfl (run_loadVar_mid W6 (w.heap.size+1+1) 0 27 _ _ hR6.rd Tryz.underlying27 rfl (info_c t))) rfl ?_
   exact PR.fin rfl ⟨hP2.frm hF6 (fun x e=>by omega),((Frm.of_ext hE2).trans hF2).step hF6 (fun x h1 e=>by omega)⟩ (Ext.refl _) ⟨t,rfl,(hI.kp (Kp.frm hF6 (fun k h1 e=>by omega))).mono (fun k h1 _=>by omega),hm⟩
end
end Go.Proofs.YtlmeinikknoeeaaGreatDoor
