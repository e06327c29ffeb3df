/- Queries: the parser in memory; a comparison; an operand of a condition, whole; conditions. -/
import Derived.Test.YtlmeinikknoeeaaGreatDoorQ25
import Derived.Deep.Cut
namespace Go.Proofs.YtlmeinikknoeeaaGreatDoor
set_option linter.unusedVariables false
set_option linter.unnecessarySimpa false
set_option linter.unusedSimpArgs false
open Go.RowKit
section
variable {L:List TkD} {ao:Option Addr} {cap B:Nat}
theorem acc_any {i:Nat} {w:World} (h:Psr L ao cap B i w) (s:List UInt8) (hs:s.length≤9223372036854775806) (b:Bool) (hb:isP L s i=b) :
  Calls Tryz.prog 113 #[.pointer (some ⟨B,0,none⟩),.string ⟨s.toArray⟩] w fun e w'=>e = .returned (.bool b)∧Psr L ao cap B (if b=true then i+1 else i) w'∧Frm (fun k=>k=B) w w':=by
 cases b with
 | true=>exact acc_yes h s hs hb
 | false=>
   refine(acc_no h s hs hb).mono ?_
   rintro e w' ⟨h1,n,rfl⟩
   exact⟨h1,h.ext ((Ext.refl _).drewN n),Frm.of_ext ((Ext.refl _).drewN n)⟩
def kOf (b:Bool):Int:=if b=true then 2 else 1
def CmS (L:List TkD) (ao:Option Addr) (cap B:Nat) (w:World) (D:Nat) (K:Int) (col:List UInt8) (j:Nat) (wx:World):Prop:=
 Psr L ao cap B j wx∧BxT D (cdS.vals (lfC ⟨K,col,[],ValD.zero⟩)) wx∧BxT w.heap.size zeroC wx∧Frm (fun k=>k=B) w wx∧w.heap.size<D∧B<w.heap.size
set_option maxRecDepth 100000 in
set_option maxHeartbeats 4000000 in
theorem unit_cmp {k i:Nat} {d:Int} {w:World} (h:Psr L ao cap B i w) (t:TkD) (hi:L[i]? = some t) (hn:isP L wNot i=false) (hp:isP L wLp i=false) (ha:isP L wAlways i=false) :
  Calls Tryz.prog 139 #[.pointer (some ⟨B,0,none⟩),.int .i64 d] w (PR L ao cap B w (CdV w.heap.size) (unP L k i)):=by
 rw[unP_cmp hi hn hp ha]
 have HP:=fun w' (hE:Ext w w')=>Lib.hid (peek_ok (h.ext hE) t hi)
 have HIn:=fun w' (hE:Ext w w')=>Lib.hid (is_c (h.ext hE) wNot (by decide) false hn)
 have HIp:=fun w' (hE:Ext w w')=>Lib.hid (is_c (h.ext hE) wLp (by decide) false hp)
 have HAn:=fun w' (hE:Ext w w')=>Lib.hid (acc_no (h.ext hE) wNot (by decide) hn)
 have HAp:=fun w' (hE:Ext w w')=>Lib.hid (acc_no (h.ext hE) wLp (by decide) hp)
 have HAa:=fun w' (hE:Ext w w')=>Lib.hid (acc_no (h.ext hE) wAlways (by decide) ha)
 have HN:=fun w' (hE:Ext w w')=>Lib.hid (pname_c (h.ext hE))
 have hBl:=h.hB
 clear hi hn hp ha
 cases hc:naP L i with
 | bad l c e=>
   have HB:Hid (cmP L i = .bad l c e):=by rw[Hid];unfold cmP;rw[hc];rfl
   rw[hc]at HN
   clear hc
   go_enter Tryz.func139,Tryz.ntmps139
   go_wp2_with (first
    | ((with_reducible show wpList _ _ _ (⟨some 4,.alloc _,_,_,_,_⟩::_) _ _);refine wpl_new rfl 27 zeroC rfl alloc_c ?_;intro W1 hE1 hR1 hz1)
    | (go_at_call 107;(with_reducible refine(HP _ (by(repeat (with_reducible (first|assumption|exact Ext.refl _|refine Ext.alloc ?_ _|refine Ext.setCell ?_ (by simp) _|refine Ext.setCell ?_ (by simp;omega) _|refine Ext.drewN ?_ _|refine Ext.drew ?_))))).out.mono ?_);rintro x w2 ⟨rfl,hE2'⟩;have hE2:=hE1.trans hE2')
      | (go_at_call 192;(with_reducible refine(HIn _ (by(repeat (with_reducible (first|assumption|exact Ext.refl _|refine Ext.alloc ?_ _|refine Ext.setCell ?_ (by simp) _|refine Ext.setCell ?_ (by simp;omega) _|refine Ext.drewN ?_ _|refine Ext.drew ?_))))).out.mono ?_);rintro x w3 ⟨rfl,n3,rfl⟩)
      | (go_at_call 192;(with_reducible refine(HIp _ (by(repeat (with_reducible (first|assumption|exact Ext.refl _|refine Ext.alloc ?_ _|refine Ext.setCell ?_ (by simp) _|refine Ext.setCell ?_ (by simp;omega) _|refine Ext.drewN ?_ _|refine Ext.drew ?_))))).out.mono ?_);rintro x w4 ⟨rfl,n4,rfl⟩)
      | (go_at_call 113;(with_reducible refine(HAn _ (by(repeat (with_reducible (first|assumption|exact Ext.refl _|refine Ext.alloc ?_ _|refine Ext.setCell ?_ (by simp) _|refine Ext.setCell ?_ (by simp;omega) _|refine Ext.drewN ?_ _|refine Ext.drew ?_))))).out.mono ?_);rintro x w5 ⟨rfl,n5,rfl⟩)
      | (go_at_call 113;(with_reducible refine(HAp _ (by(repeat (with_reducible (first|assumption|exact Ext.refl _|refine Ext.alloc ?_ _|refine Ext.setCell ?_ (by simp) _|refine Ext.setCell ?_ (by simp;omega) _|refine Ext.drewN ?_ _|refine Ext.drew ?_))))).out.mono ?_);rintro x w6 ⟨rfl,n6,rfl⟩)
      | (go_at_call 113;(with_reducible refine(HAa _ (by(repeat (with_reducible (first|assumption|exact Ext.refl _|refine Ext.alloc ?_ _|refine Ext.setCell ?_ (by simp) _|refine Ext.setCell ?_ (by simp;omega) _|refine Ext.drewN ?_ _|refine Ext.drew ?_))))).out.mono ?_);rintro x w7 ⟨rfl,n7,rfl⟩)
    | (go_at_call 109;(with_reducible refine(HN _ (by(repeat (with_reducible (first|assumption|exact Ext.refl _|refine Ext.alloc ?_ _|refine Ext.setCell ?_ (by simp) _|refine Ext.setCell ?_ (by simp;omega) _|refine Ext.drewN ?_ _|refine Ext.drew ?_))))).out.mono ?_);rintro x w8 ⟨hF8,rfl⟩))
   exact⟨rfl,PR.no HB.out ((Frm.of_ext hE2).trans hF8.drewL)⟩
 | ok col i1=>
   obtain⟨rfl,hcol,-⟩:=naP_ok hc
   rw[hc]at HN
   cases hi1:L[i+1]? with
   | none=>
     have HB:Hid (cmP L i = .bad 0 0 4):=by rw[Hid];unfold cmP;rw[hc];show(if isP L wLt (i+1)=true then _ else _)=_;unfold exP isP wrP;rw[hi1];rfl
     have HE:=fun w' (hP:Psr L ao cap B (i+1) w')=>Lib.hid (peek_no hP (hP.end hi1))
     clear hc hi1
     go_enter Tryz.func139,Tryz.ntmps139
     go_wp2_with (first
      | ((with_reducible show wpList _ _ _ (⟨some 4,.alloc _,_,_,_,_⟩::_) _ _);refine wpl_new rfl 27 zeroC rfl alloc_c ?_;intro W1 hE1 hR1 hz1)
      | (go_at_call 107;(with_reducible refine(HP _ (by(repeat (with_reducible (first|assumption|exact Ext.refl _|refine Ext.alloc ?_ _|refine Ext.setCell ?_ (by simp) _|refine Ext.setCell ?_ (by simp;omega) _|refine Ext.drewN ?_ _|refine Ext.drew ?_))))).out.mono ?_);rintro x w2 ⟨rfl,hE2'⟩;have hE2:=hE1.trans hE2')
        | (go_at_call 192;(with_reducible refine(HIn _ (by(repeat (with_reducible (first|assumption|exact Ext.refl _|refine Ext.alloc ?_ _|refine Ext.setCell ?_ (by simp) _|refine Ext.setCell ?_ (by simp;omega) _|refine Ext.drewN ?_ _|refine Ext.drew ?_))))).out.mono ?_);rintro x w3 ⟨rfl,n3,rfl⟩)
        | (go_at_call 192;(with_reducible refine(HIp _ (by(repeat (with_reducible (first|assumption|exact Ext.refl _|refine Ext.alloc ?_ _|refine Ext.setCell ?_ (by simp) _|refine Ext.setCell ?_ (by simp;omega) _|refine Ext.drewN ?_ _|refine Ext.drew ?_))))).out.mono ?_);rintro x w4 ⟨rfl,n4,rfl⟩)
        | (go_at_call 113;(with_reducible refine(HAn _ (by(repeat (with_reducible (first|assumption|exact Ext.refl _|refine Ext.alloc ?_ _|refine Ext.setCell ?_ (by simp) _|refine Ext.setCell ?_ (by simp;omega) _|refine Ext.drewN ?_ _|refine Ext.drew ?_))))).out.mono ?_);rintro x w5 ⟨rfl,n5,rfl⟩)
        | (go_at_call 113;(with_reducible refine(HAp _ (by(repeat (with_reducible (first|assumption|exact Ext.refl _|refine Ext.alloc ?_ _|refine Ext.setCell ?_ (by simp) _|refine Ext.setCell ?_ (by simp;omega) _|refine Ext.drewN ?_ _|refine Ext.drew ?_))))).out.mono ?_);rintro x w6 ⟨rfl,n6,rfl⟩)
        | (go_at_call 113;(with_reducible refine(HAa _ (by(repeat (with_reducible (first|assumption|exact Ext.refl _|refine Ext.alloc ?_ _|refine Ext.setCell ?_ (by simp) _|refine Ext.setCell ?_ (by simp;omega) _|refine Ext.drewN ?_ _|refine Ext.drew ?_))))).out.mono ?_);rintro x w7 ⟨rfl,n7,rfl⟩)
      | (go_at_call 109;(with_reducible refine(HN _ (by(repeat (with_reducible (first|assumption|exact Ext.refl _|refine Ext.alloc ?_ _|refine Ext.setCell ?_ (by simp) _|refine Ext.setCell ?_ (by simp;omega) _|refine Ext.drewN ?_ _|refine Ext.drew ?_))))).out.mono ?_);rintro x w8 ⟨hF8,v8,rfl,rfl,hP8⟩)
      | ((with_reducible show wpList _ _ _ (⟨some 6,.alloc _,_,_,_,_⟩::_) _ _);refine wpl_new rfl 27 zeroC rfl alloc_c ?_;intro W9 hE9 hR9 hz9)
      | ((with_reducible show wpList _ _ _ (⟨none,.store _ (.tmp 6) _,_,_,_,_⟩::_) _ _);refine wpl_st rfl 27 _ _ rfl w8.heap.size zeroC (cdS.vals (lfC ⟨2,col,[],ValD.zero⟩)) rfl rfl hR9 rfl (info_c (lfC ⟨2,col,[],ValD.zero⟩)) (vals_one_c (lfC ⟨2,col,[],ValD.zero⟩)) ?_;intro WA hFA hRA;have hPA:=(hP8.ext hE9).frm hFA (fun x e=>by have:=hP8.hB;omega))
      | (go_at_call 107;(with_reducible refine(HE _ hPA).out.mono ?_);rintro x wB ⟨rfl,hEB⟩))
     exact⟨rfl,PR.no HB.out (((((Frm.of_ext hE2).trans hF8.drewL).trans (Frm.of_ext hE9)).step hFA (fun x h1 e=>by have:=hF8.drewL.size;have:=hE2.size;omega)).trans (Frm.of_ext hEB))⟩
   | some u=>
     have HK:=fun w' (hP:Psr L ao cap B (i+1) w')=>Lib.hid (peek_ok hP u hi1)
     obtain⟨b,hb⟩:∃b,isP L wLt (i+1)=b:=⟨_,rfl⟩
     have HAl:=fun w' (hP:Psr L ao cap B (i+1) w')=>Lib.hid (acc_any hP wLt (by decide) b hb)
     have HEq:=fun w' (hP:Psr L ao cap B (i+1) w')=>Lib.hid (exp_c hP wEq (by decide))
     have HM:Hid (cmP L i=if b=true then rhP L 2 col (i+1+1)else(exP L wEq (i+1)).bind fun _ i=>rhP L 1 col i):=by rw[Hid,←hb];unfold cmP;rw[hc];rfl
     have Hu:=Lib.hid hi1
     have Hcol:=Lib.hid hcol
     clear hc hi1 hb hcol
     go_enter Tryz.func139,Tryz.ntmps139
     go_upto_if 53 with(first
      | ((with_reducible show wpList _ _ _ (⟨some 4,.alloc _,_,_,_,_⟩::_) _ _);refine wpl_new rfl 27 zeroC rfl alloc_c ?_;intro W1 hE1 hR1 hz1)
      | (go_at_call 107;(with_reducible refine(HP _ (by(repeat (with_reducible (first|assumption|exact Ext.refl _|refine Ext.alloc ?_ _|refine Ext.setCell ?_ (by simp) _|refine Ext.setCell ?_ (by simp;omega) _|refine Ext.drewN ?_ _|refine Ext.drew ?_))))).out.mono ?_);rintro x w2 ⟨rfl,hE2'⟩;have hE2:=hE1.trans hE2')
        | (go_at_call 192;(with_reducible refine(HIn _ (by(repeat (with_reducible (first|assumption|exact Ext.refl _|refine Ext.alloc ?_ _|refine Ext.setCell ?_ (by simp) _|refine Ext.setCell ?_ (by simp;omega) _|refine Ext.drewN ?_ _|refine Ext.drew ?_))))).out.mono ?_);rintro x w3 ⟨rfl,n3,rfl⟩)
        | (go_at_call 192;(with_reducible refine(HIp _ (by(repeat (with_reducible (first|assumption|exact Ext.refl _|refine Ext.alloc ?_ _|refine Ext.setCell ?_ (by simp) _|refine Ext.setCell ?_ (by simp;omega) _|refine Ext.drewN ?_ _|refine Ext.drew ?_))))).out.mono ?_);rintro x w4 ⟨rfl,n4,rfl⟩)
        | (go_at_call 113;(with_reducible refine(HAn _ (by(repeat (with_reducible (first|assumption|exact Ext.refl _|refine Ext.alloc ?_ _|refine Ext.setCell ?_ (by simp) _|refine Ext.setCell ?_ (by simp;omega) _|refine Ext.drewN ?_ _|refine Ext.drew ?_))))).out.mono ?_);rintro x w5 ⟨rfl,n5,rfl⟩)
        | (go_at_call 113;(with_reducible refine(HAp _ (by(repeat (with_reducible (first|assumption|exact Ext.refl _|refine Ext.alloc ?_ _|refine Ext.setCell ?_ (by simp) _|refine Ext.setCell ?_ (by simp;omega) _|refine Ext.drewN ?_ _|refine Ext.drew ?_))))).out.mono ?_);rintro x w6 ⟨rfl,n6,rfl⟩)
        | (go_at_call 113;(with_reducible refine(HAa _ (by(repeat (with_reducible (first|assumption|exact Ext.refl _|refine Ext.alloc ?_ _|refine Ext.setCell ?_ (by simp) _|refine Ext.setCell ?_ (by simp;omega) _|refine Ext.drewN ?_ _|refine Ext.drew ?_))))).out.mono ?_);rintro x w7 ⟨rfl,n7,rfl⟩)
      | (go_at_call 109;(with_reducible refine(HN _ (by(repeat (with_reducible (first|assumption|exact Ext.refl _|refine Ext.alloc ?_ _|refine Ext.setCell ?_ (by simp) _|refine Ext.setCell ?_ (by simp;omega) _|refine Ext.drewN ?_ _|refine Ext.drew ?_))))).out.mono ?_);rintro x w8 ⟨hF8,v8,rfl,rfl,hP8⟩)
      | ((with_reducible show wpList _ _ _ (⟨some 6,.alloc _,_,_,_,_⟩::_) _ _);refine wpl_new rfl 27 zeroC rfl alloc_c ?_;intro W9 hE9 hR9 hz9)
      | ((with_reducible show wpList _ _ _ (⟨none,.store _ (.tmp 6) _,_,_,_,_⟩::_) _ _);refine wpl_st rfl 27 _ _ rfl w8.heap.size zeroC (cdS.vals (lfC ⟨2,col,[],ValD.zero⟩)) rfl rfl hR9 rfl (info_c (lfC ⟨2,col,[],ValD.zero⟩)) (vals_one_c (lfC ⟨2,col,[],ValD.zero⟩)) ?_;intro WA hFA hRA;have hPA:=(hP8.ext hE9).frm hFA (fun x e=>by have:=hP8.hB;omega))
      | (go_at_call 107;(with_reducible refine(HK _ hPA).out.mono ?_);rintro x wB ⟨rfl,hEB⟩)
      | (go_at_call 113;(with_reducible refine(HAl _ (hPA.ext hEB)).out.mono ?_);rintro x wC ⟨rfl,hPC,hFC⟩))
     have hs8:=hF8.drewL.size
     have hs2:=hE2.size
     have hs1:=hE2'.size
     have hB8:=hP8.hB
     generalize hD:w8.heap.size=D at hR9 hz9 hFA hRA hs8 hB8 ⊢
     have hwD:w.heap.size<D:=by omega
     have hFw:Hid (Frm (fun k=>k=B) w wC):=(((((Frm.of_ext hE2).trans hF8.drewL).trans (Frm.of_ext hE9)).step hFA (fun x h1 e=>by omega)).trans (Frm.of_ext hEB)).trans hFC
     have hRr:Hid (BxT w.heap.size zeroC wC):=((((((hR1.ext hE2').frm hF8.drewL (fun e=>by omega)).ext hE9).frm hFA (fun e=>by omega)).ext hEB).frm hFC (fun e=>by omega))
     have hRD:Hid (BxT D (cdS.vals (lfC ⟨2,col,[],ValD.zero⟩)) wC):=(hRA.ext hEB).frm hFC (fun e=>by omega)
     have HPC:=Lib.hid hPC
     clear hPC
     go_cut [6]from 54 to 56 (fun x wx=>x = .pointer (some ⟨D,0,none⟩)∧Hid (CmS L ao cap B w D (kOf b) col (i+1+1) wx)∧Hid (cmP L i=rhP L (kOf b) col (i+1+1)))
     case first=>
      cases b with
      | true=>
        go_wp2_with fail
        go_meet
        case rel=>exact⟨rfl,⟨HPC.out,hRD.out,hRr.out,hFw.out,hwD,hBl⟩,HM.out⟩
      | false=>
        have HPD:Hid (Psr L ao cap B (i+1) wC):=HPC.out
        cases hx:exP L wEq (i+1)with
        | bad l c e=>
          have HX:=fun w' (hP:Psr L ao cap B (i+1) w')=>(HEq w' hP).out
          rw[hx]at HX
          have HX:=fun w' hP=>Lib.hid (HX w' hP)
          have HB:Hid (cmP L i = .bad l c e):=by rw[Hid,HM.out,hx];rfl
          clear hx
          go_wp2_with (first
           | (go_at_call 110;(with_reducible refine(HX _ HPD.out).out.mono ?_);rintro x wF ⟨hF,rfl⟩))
          exact⟨rfl,PR.no HB.out (hFw.out.trans hF)⟩
        | ok z j2=>
          obtain rfl:=exP_gt hx
          have HX:=fun w' (hP:Psr L ao cap B (i+1) w')=>(HEq w' hP).out
          rw[hx]at HX
          have HX:=fun w' hP=>Lib.hid (HX w' hP)
          have HMz:Hid (cmP L i=rhP L 1 col (i+1+1)):=by rw[Hid,HM.out,hx];rfl
          clear hx
          go_wp2_with (first
           | (go_at_call 110;(with_reducible refine(HX _ HPD.out).out.mono ?_);rintro x wF ⟨hF,vF,rfl,rfl,hPF⟩;have hRF:=Lib.hid (hRD.out.frm hF (fun e=>by omega)))
           | ((with_reducible show wpList _ _ _ (⟨none,.store _ (.tmp 56) _,_,_,_,_⟩::_) _ _);refine wpl_st1 rfl 3 _ _ rfl D 0 (cdS.vals (lfC ⟨2,col,[],ValD.zero⟩)) (.int .i64 1) rfl rfl hRF.out (by show 0<7;omega) (st_int D 0 1) ?_;intro WG hFG hRG))
          go_meet
          case rel=>exact⟨rfl,⟨hPF.frm hFG (fun x e=>by omega),hRG,(hRr.out.frm hF (fun e=>by omega)).frm hFG (fun e=>by omega),(hFw.out.trans hF).step hFG (fun x h1 e=>by omega),hwD,hBl⟩,HMz.out⟩
     case rest=>
      obtain⟨rfl,hcs,hcm⟩:=hcut
      obtain⟨K,hK⟩:∃K,K=kOf b:=⟨_,rfl⟩
      have hKb:Hid (Bi K):=by rw[Hid,hK];unfold Bi kOf;split<;>omega
      rw[←hK]at hcs hcm
      clear hK HPC hFw hRr hRD HM HEq HAl hPA hFC hRA hEB hFA hR9 hE9 hz9 hP8 hF8 HK Hu HN
      obtain⟨jj,hjj⟩:∃jj,jj=i+1+1:=⟨_,rfl⟩
      rw[←hjj]at hcs hcm
      obtain⟨hP0,hD0,hR0,hF0,hwD',hBl'⟩:=hcs.out
      have HP0:=Lib.hid hP0;have HD0:=Lib.hid hD0;have HR0:=Lib.hid hR0;have HF0:=Lib.hid hF0
      clear hcs hP0 hD0 hR0 hF0 hwD' hBl' hjj
      cases hr:L[jj]? with
      | none=>
        have HB:Hid (cmP L i = .bad 0 0 4):=by rw[Hid,hcm.out];unfold rhP pkP;rw[hr];rfl
        have HE:=Lib.hid (peek_no HP0.out (HP0.out.end hr))
        clear hr
        go_wp2_with (first
         | (go_at_call 107;(with_reducible refine HE.out.mono ?_);rintro x wE ⟨rfl,hEE⟩))
        exact⟨rfl,PR.no HB.out (HF0.out.trans (Frm.of_ext hEE))⟩
      | some r=>
        have HE:=Lib.hid (peek_ok HP0.out r hr)
        have hbd:=HP0.out.bdt hr
        have hjl:=HP0.out.lt2 hr
        have hl7:=h.hl
        by_cases hk2:r.k=2
        ·have k2:(r.k==2)=true:=by rw[hk2];rfl
         have HB:Hid (cmP L i = .ok (.mk ⟨K,col,[],r.v⟩ []) (jj+1)):=by rw[Hid,hcm.out];unfold rhP;rw[pkP_at hr];exact if_pos hk2
         have hx1:(jj:Int)≤70000:=by omega
         have hok:Hid (cdS.ok (fun k=>w.heap.size<k) wc ⟨⟨K,col,[],r.v⟩,none,0⟩):=⟨by have:=nmQ_len Hcol.out;unfold Bs;simp;omega,bs_zero,hbd.2.1,hKb.out,hbd.2.2.2.1,hbd.2.2.2.2⟩
         clear hr hk2 hbd
         go_wp2_with (first
          | (go_at_call 107;(with_reducible refine HE.out.mono ?_);rintro x wE ⟨rfl,hEE⟩)
          | ((with_reducible show wpList _ _ _ (⟨none,.store _ (.tmp 68) _,_,_,_,_⟩::_) _ _);refine wpl_stn rfl 24 _ _ rfl D 3 [.int .i64 K,.string ⟨col.toArray⟩,.string ⟨#[]⟩] [.int .i64 0,.int .i64 0,.string ⟨#[]⟩] [.slice none 0 0] [.int .i64 r.v.k,.int .i64 r.v.n,.string ⟨r.v.s.toArray⟩] rfl rfl (HD0.out.ext (hEE.alloc _)) rfl rfl (by kernel_rfl) rfl ?_;intro WF hFF hRF;have hPF:=(HP0.out.ext (hEE.alloc _)).frm hFF (fun x e=>by omega);have c1:=hPF.c1;have f1:=hPF.f1;have hBF:=hPF.hB;have HG:=hPF.go (Ext.refl _) (j:=jj+1) hjl (x:=(jj:Int)+1) (by omega);have hPX:=HG.1;have hFX:Frm (fun k=>k=B∨k=D) wc _:=(Frm.of_ext (hEE.alloc _)).trans ((hFF.mono (fun k _ e=>.inr e)).trans (HG.2.mono (fun k _ e=>.inl e)));have hRX:BxT D (cdS.vals (lfC ⟨K,col,[],r.v⟩)) _:=hRF.frm HG.2 (fun e=>by omega);have HG':=Lib.hid HG;clear HG)
          | ((with_reducible show wpList _ _ _ (⟨some 91,.load _ _,_,_,_,_⟩::_) _ _);refine wpl_load rfl 27 _ rfl D 0 rfl (cdS.vals (lfC ⟨K,col,[],r.v⟩)) _ (hRX).rd Tryz.underlying27 rfl (info_c (lfC ⟨K,col,[],r.v⟩)) ?_)
          | ((with_reducible show wpList _ _ _ (⟨none,.store _ (.tmp 4) _,_,_,_,_⟩::_) _ _);refine wpl_st rfl 27 _ _ rfl w.heap.size zeroC (cdS.vals (lfC ⟨K,col,[],r.v⟩)) rfl rfl (HR0.out.frm hFX (fun e=>by omega)) rfl (info_c (lfC ⟨K,col,[],r.v⟩)) (vals_one_c (lfC ⟨K,col,[],r.v⟩)) ?_;intro WZ hFZ hRZ))
         refine bodyPost_ret (v:=.agg (cdS.vals (lfC ⟨K,col,[],r.v⟩)).toArray) (results_c9 rfl rfl (run_loadVar_mid WZ w.heap.size 0 27 _ _ hRZ.rd Tryz.underlying27 rfl (info_c (lfC ⟨K,col,[],r.v⟩)))) rfl ?_
         exact PR.endc HB.out hPX (HF0.out.step hFX (fun x h1 e=>by omega)) hBl (InC.leaf hok.out) (map_leaf _) hFZ
        ·have k2:(r.k==2)=false:=by rw[beq_eq_false_iff_ne];exact hk2
         have hok0:∀v:ValD,Bs v.s→Bi v.k→Bi v.n→Hid (cdS.ok (fun k=>w.heap.size<k) wc ⟨⟨K,col,[],v⟩,none,0⟩):=fun v h1 h2 h3=>⟨by have:=nmQ_len Hcol.out;unfold Bs;simp;omega,bs_zero,h1,hKb.out,h2,h3⟩
         have hrh:Hid (cmP L i=if isP L wTrue jj=true then .ok (.mk ⟨K,col,[],⟨3,1,[]⟩⟩ []) (jj+1)else if isP L wFalse jj=true then .ok (.mk ⟨K,col,[],⟨3,0,[]⟩⟩ []) (jj+1)else if isP L wForever jj=true then .ok (.mk ⟨K,col,[],⟨4,253402300800,[]⟩⟩ []) (jj+1)else(naP L jj).bind fun s j=>.ok (.mk ⟨K,col,s,ValD.zero⟩ []) j):=by rw[Hid,hcm.out];unfold rhP;rw[pkP_at hr];exact if_neg hk2
         clear hr hk2 hbd hjl
         cases ht:isP L wTrue jj with
         | true=>
           have HB:Hid (cmP L i = .ok (.mk ⟨K,col,[],⟨3,1,[]⟩⟩ []) (jj+1)):=by rw[Hid,hrh.out];exact if_pos ht
           have HY:=fun w' (hE:Ext wc w')=>Lib.hid (acc_yes (HP0.out.ext hE) wTrue (by decide) ht)
           have hok:=hok0 ⟨3,1,[]⟩ bs_zero (show Bi 3 by unfold Bi;omega) (show Bi 1 by unfold Bi;omega)
           clear ht hrh
           go_wp2_with (first
            | (go_at_call 107;(with_reducible refine HE.out.mono ?_);rintro x wE ⟨rfl,hEE⟩)
            | (go_at_call 113;(with_reducible refine(HY _ (by(repeat (with_reducible (first|assumption|exact Ext.refl _|refine Ext.alloc ?_ _|refine Ext.drewN ?_ _))))).out.mono ?_);rintro x wG ⟨rfl,hPG,hFG'⟩;have hFG:Frm (fun k=>k=B) wc wG:=(Frm.of_ext (by(repeat (with_reducible (first|assumption|exact Ext.refl _|refine Ext.alloc ?_ _|refine Ext.drewN ?_ _))))).trans hFG';have hRG:=Lib.hid (HD0.out.frm hFG (fun e=>by omega)))
            | ((with_reducible show wpList _ _ _ (⟨none,.store _ (.tmp 80) _,_,_,_,_⟩::_) _ _);refine wpl_stn rfl 24 _ _ rfl D 3 [.int .i64 K,.string ⟨col.toArray⟩,.string ⟨#[]⟩] [.int .i64 0,.int .i64 0,.string ⟨#[]⟩] [.slice none 0 0] [.int .i64 3,.int .i64 1,.string ⟨#[]⟩] rfl rfl hRG.out rfl rfl (by kernel_rfl) rfl ?_;intro WF hFF hRF;have hPX:=hPG.frm hFF (fun x e=>by omega);have hFX:Frm (fun k=>k=B∨k=D) wc WF:=(hFG.mono (fun k _ e=>.inl e)).trans (hFF.mono (fun k _ e=>.inr e));have hRX:BxT D (cdS.vals (lfC ⟨K,col,[],⟨3,1,[]⟩⟩)) WF:=hRF)
            | ((with_reducible show wpList _ _ _ (⟨some 91,.load _ _,_,_,_,_⟩::_) _ _);refine wpl_load rfl 27 _ rfl D 0 rfl (cdS.vals (lfC ⟨K,col,[],⟨3,1,[]⟩⟩)) _ (hRX).rd Tryz.underlying27 rfl (info_c (lfC ⟨K,col,[],⟨3,1,[]⟩⟩)) ?_)
            | ((with_reducible show wpList _ _ _ (⟨none,.store _ (.tmp 4) _,_,_,_,_⟩::_) _ _);refine wpl_st rfl 27 _ _ rfl w.heap.size zeroC (cdS.vals (lfC ⟨K,col,[],⟨3,1,[]⟩⟩)) rfl rfl (HR0.out.frm hFX (fun e=>by omega)) rfl (info_c (lfC ⟨K,col,[],⟨3,1,[]⟩⟩)) (vals_one_c (lfC ⟨K,col,[],⟨3,1,[]⟩⟩)) ?_;intro WZ hFZ hRZ))
           refine bodyPost_ret (v:=.agg (cdS.vals (lfC ⟨K,col,[],⟨3,1,[]⟩⟩)).toArray) (results_c9 rfl rfl (run_loadVar_mid WZ w.heap.size 0 27 _ _ hRZ.rd Tryz.underlying27 rfl (info_c (lfC ⟨K,col,[],⟨3,1,[]⟩⟩)))) rfl ?_
           exact PR.endc HB.out hPX (HF0.out.step hFX (fun x h1 e=>by omega)) hBl (InC.leaf hok.out) (map_leaf _) hFZ
         | false=>
           have HY1:=fun w' (hE:Ext wc w')=>Lib.hid (acc_no (HP0.out.ext hE) wTrue (by decide) ht)
           have hrh2:=hrh.out.trans (if_neg (by rw[ht];simp))
           clear ht hrh
           cases hf:isP L wFalse jj with
           | true=>
             have HB:Hid (cmP L i = .ok (.mk ⟨K,col,[],⟨3,0,[]⟩⟩ []) (jj+1)):=by rw[Hid,hrh2];exact if_pos hf
             have HY:=fun w' (hE:Ext wc w')=>Lib.hid (acc_yes (HP0.out.ext hE) wFalse (by decide) hf)
             have hok:=hok0 ⟨3,0,[]⟩ bs_zero (show Bi 3 by unfold Bi;omega) (show Bi 0 by unfold Bi;omega)
             clear hf hrh2
             go_wp2_with (first
              | (go_at_call 107;(with_reducible refine HE.out.mono ?_);rintro x wE ⟨rfl,hEE⟩)
              | (go_at_call 113;(with_reducible refine(HY1 _ (by(repeat (with_reducible (first|assumption|exact Ext.refl _|refine Ext.alloc ?_ _|refine Ext.drewN ?_ _))))).out.mono ?_);rintro x wH ⟨rfl,nH,rfl⟩)
              | (go_at_call 113;(with_reducible refine(HY _ (by(repeat (with_reducible (first|assumption|exact Ext.refl _|refine Ext.alloc ?_ _|refine Ext.drewN ?_ _))))).out.mono ?_);rintro x wG ⟨rfl,hPG,hFG'⟩;have hFG:Frm (fun k=>k=B) wc wG:=(Frm.of_ext (by(repeat (with_reducible (first|assumption|exact Ext.refl _|refine Ext.alloc ?_ _|refine Ext.drewN ?_ _))))).trans hFG';have hRG:=Lib.hid (HD0.out.frm hFG (fun e=>by omega)))
              | ((with_reducible show wpList _ _ _ (⟨none,.store _ (.tmp 85) _,_,_,_,_⟩::_) _ _);refine wpl_stn rfl 24 _ _ rfl D 3 [.int .i64 K,.string ⟨col.toArray⟩,.string ⟨#[]⟩] [.int .i64 0,.int .i64 0,.string ⟨#[]⟩] [.slice none 0 0] [.int .i64 3,.int .i64 0,.string ⟨#[]⟩] rfl rfl hRG.out rfl rfl (by kernel_rfl) rfl ?_;intro WF hFF hRF;have hPX:=hPG.frm hFF (fun x e=>by omega);have hFX:Frm (fun k=>k=B∨k=D) wc WF:=(hFG.mono (fun k _ e=>.inl e)).trans (hFF.mono (fun k _ e=>.inr e));have hRX:BxT D (cdS.vals (lfC ⟨K,col,[],⟨3,0,[]⟩⟩)) WF:=hRF)
              | ((with_reducible show wpList _ _ _ (⟨some 91,.load _ _,_,_,_,_⟩::_) _ _);refine wpl_load rfl 27 _ rfl D 0 rfl (cdS.vals (lfC ⟨K,col,[],⟨3,0,[]⟩⟩)) _ (hRX).rd Tryz.underlying27 rfl (info_c (lfC ⟨K,col,[],⟨3,0,[]⟩⟩)) ?_)
              | ((with_reducible show wpList _ _ _ (⟨none,.store _ (.tmp 4) _,_,_,_,_⟩::_) _ _);refine wpl_st rfl 27 _ _ rfl w.heap.size zeroC (cdS.vals (lfC ⟨K,col,[],⟨3,0,[]⟩⟩)) rfl rfl (HR0.out.frm hFX (fun e=>by omega)) rfl (info_c (lfC ⟨K,col,[],⟨3,0,[]⟩⟩)) (vals_one_c (lfC ⟨K,col,[],⟨3,0,[]⟩⟩)) ?_;intro WZ hFZ hRZ))
             refine bodyPost_ret (v:=.agg (cdS.vals (lfC ⟨K,col,[],⟨3,0,[]⟩⟩)).toArray) (results_c9 rfl rfl (run_loadVar_mid WZ w.heap.size 0 27 _ _ hRZ.rd Tryz.underlying27 rfl (info_c (lfC ⟨K,col,[],⟨3,0,[]⟩⟩)))) rfl ?_
             exact PR.endc HB.out hPX (HF0.out.step hFX (fun x h1 e=>by omega)) hBl (InC.leaf hok.out) (map_leaf _) hFZ
           | false=>
             have HY2:=fun w' (hE:Ext wc w')=>Lib.hid (acc_no (HP0.out.ext hE) wFalse (by decide) hf)
             have hrh3:=hrh2.trans (if_neg (by rw[hf];simp))
             clear hf hrh2
             cases hv:isP L wForever jj with
             | true=>
               have HB:Hid (cmP L i = .ok (.mk ⟨K,col,[],⟨4,253402300800,[]⟩⟩ []) (jj+1)):=by rw[Hid,hrh3];exact if_pos hv
               have HY:=fun w' (hE:Ext wc w')=>Lib.hid (acc_yes (HP0.out.ext hE) wForever (by decide) hv)
               have hok:=hok0 ⟨4,253402300800,[]⟩ bs_zero (show Bi 4 by unfold Bi;omega) (show Bi 253402300800 by unfold Bi;omega)
               clear hv hrh3
               go_wp2_with (first
                | (go_at_call 107;(with_reducible refine HE.out.mono ?_);rintro x wE ⟨rfl,hEE⟩)
                | (go_at_call 113;(with_reducible refine(HY1 _ (by(repeat (with_reducible (first|assumption|exact Ext.refl _|refine Ext.alloc ?_ _|refine Ext.drewN ?_ _))))).out.mono ?_);rintro x wH ⟨rfl,nH,rfl⟩)
                | (go_at_call 113;(with_reducible refine(HY2 _ (by(repeat (with_reducible (first|assumption|exact Ext.refl _|refine Ext.alloc ?_ _|refine Ext.drewN ?_ _))))).out.mono ?_);rintro x wI ⟨rfl,nI,rfl⟩)
                | (go_at_call 113;(with_reducible refine(HY _ (by(repeat (with_reducible (first|assumption|exact Ext.refl _|refine Ext.alloc ?_ _|refine Ext.drewN ?_ _))))).out.mono ?_);rintro x wG ⟨rfl,hPG,hFG'⟩;have hFG:Frm (fun k=>k=B) wc wG:=(Frm.of_ext (by(repeat (with_reducible (first|assumption|exact Ext.refl _|refine Ext.alloc ?_ _|refine Ext.drewN ?_ _))))).trans hFG';have hRG:=Lib.hid (HD0.out.frm hFG (fun e=>by omega)))
                | ((with_reducible show wpList _ _ _ (⟨none,.store _ (.tmp 90) _,_,_,_,_⟩::_) _ _);refine wpl_stn rfl 24 _ _ rfl D 3 [.int .i64 K,.string ⟨col.toArray⟩,.string ⟨#[]⟩] [.int .i64 0,.int .i64 0,.string ⟨#[]⟩] [.slice none 0 0] [.int .i64 4,.int .i64 253402300800,.string ⟨#[]⟩] rfl rfl hRG.out rfl rfl (by kernel_rfl) rfl ?_;intro WF hFF hRF;have hPX:=hPG.frm hFF (fun x e=>by omega);have hFX:Frm (fun k=>k=B∨k=D) wc WF:=(hFG.mono (fun k _ e=>.inl e)).trans (hFF.mono (fun k _ e=>.inr e));have hRX:BxT D (cdS.vals (lfC ⟨K,col,[],⟨4,253402300800,[]⟩⟩)) WF:=hRF)
                | ((with_reducible show wpList _ _ _ (⟨some 91,.load _ _,_,_,_,_⟩::_) _ _);refine wpl_load rfl 27 _ rfl D 0 rfl (cdS.vals (lfC ⟨K,col,[],⟨4,253402300800,[]⟩⟩)) _ (hRX).rd Tryz.underlying27 rfl (info_c (lfC ⟨K,col,[],⟨4,253402300800,[]⟩⟩)) ?_)
                | ((with_reducible show wpList _ _ _ (⟨none,.store _ (.tmp 4) _,_,_,_,_⟩::_) _ _);refine wpl_st rfl 27 _ _ rfl w.heap.size zeroC (cdS.vals (lfC ⟨K,col,[],⟨4,253402300800,[]⟩⟩)) rfl rfl (HR0.out.frm hFX (fun e=>by omega)) rfl (info_c (lfC ⟨K,col,[],⟨4,253402300800,[]⟩⟩)) (vals_one_c (lfC ⟨K,col,[],⟨4,253402300800,[]⟩⟩)) ?_;intro WZ hFZ hRZ))
               refine bodyPost_ret (v:=.agg (cdS.vals (lfC ⟨K,col,[],⟨4,253402300800,[]⟩⟩)).toArray) (results_c9 rfl rfl (run_loadVar_mid WZ w.heap.size 0 27 _ _ hRZ.rd Tryz.underlying27 rfl (info_c (lfC ⟨K,col,[],⟨4,253402300800,[]⟩⟩)))) rfl ?_
               exact PR.endc HB.out hPX (HF0.out.step hFX (fun x h1 e=>by omega)) hBl (InC.leaf hok.out) (map_leaf _) hFZ
             | false=>
               have HY3:=fun w' (hE:Ext wc w')=>Lib.hid (acc_no (HP0.out.ext hE) wForever (by decide) hv)
               have hrh4:=Lib.hid (hrh3.trans (if_neg (by rw[hv];simp)))
               have HNm:=fun w' (hE:Ext wc w')=>Lib.hid (pname_c (HP0.out.ext hE))
               clear hv hrh3
               cases hz:naP L jj with
               | bad l2 c2 e2=>
                 have HB:Hid (cmP L i = .bad l2 c2 e2):=by rw[Hid,hrh4.out,hz];rfl
                 rw[hz]at HNm
                 clear hz hrh4
                 go_wp2_with (first
                  | (go_at_call 107;(with_reducible refine HE.out.mono ?_);rintro x wE ⟨rfl,hEE⟩)
                  | (go_at_call 113;(with_reducible refine(HY1 _ (by(repeat (with_reducible (first|assumption|exact Ext.refl _|refine Ext.alloc ?_ _|refine Ext.drewN ?_ _))))).out.mono ?_);rintro x wH ⟨rfl,nH,rfl⟩)
                  | (go_at_call 113;(with_reducible refine(HY2 _ (by(repeat (with_reducible (first|assumption|exact Ext.refl _|refine Ext.alloc ?_ _|refine Ext.drewN ?_ _))))).out.mono ?_);rintro x wI ⟨rfl,nI,rfl⟩)
                  | (go_at_call 113;(with_reducible refine(HY3 _ (by(repeat (with_reducible (first|assumption|exact Ext.refl _|refine Ext.alloc ?_ _|refine Ext.drewN ?_ _))))).out.mono ?_);rintro x wJ ⟨rfl,nJ,rfl⟩)
                  | (go_at_call 109;(with_reducible refine(HNm _ (by(repeat (with_reducible (first|assumption|exact Ext.refl _|refine Ext.alloc ?_ _|refine Ext.drewN ?_ _))))).out.mono ?_);rintro x wG ⟨hFG',rfl⟩))
                 exact⟨rfl,PR.no HB.out (HF0.out.trans ((Frm.of_ext (by(repeat (with_reducible (first|assumption|exact Ext.refl _|refine Ext.alloc ?_ _|refine Ext.drewN ?_ _))))).trans hFG'))⟩
               | ok s2 j2=>
                 obtain⟨rfl,hs2,-⟩:=naP_ok hz
                 have HB:Hid (cmP L i = .ok (.mk ⟨K,col,s2,ValD.zero⟩ []) (jj+1)):=by rw[Hid,hrh4.out,hz];rfl
                 have hok:Hid (cdS.ok (fun k=>w.heap.size<k) wc ⟨⟨K,col,s2,ValD.zero⟩,none,0⟩):=⟨by have:=nmQ_len Hcol.out;unfold Bs;simp;omega,by have:=nmQ_len hs2;unfold Bs;simp;omega,bs_zero,hKb.out,bi_zero,bi_zero⟩
                 rw[hz]at HNm
                 clear hz hrh4 hs2
                 go_wp2_with (first
                  | (go_at_call 107;(with_reducible refine HE.out.mono ?_);rintro x wE ⟨rfl,hEE⟩)
                  | (go_at_call 113;(with_reducible refine(HY1 _ (by(repeat (with_reducible (first|assumption|exact Ext.refl _|refine Ext.alloc ?_ _|refine Ext.drewN ?_ _))))).out.mono ?_);rintro x wH ⟨rfl,nH,rfl⟩)
                  | (go_at_call 113;(with_reducible refine(HY2 _ (by(repeat (with_reducible (first|assumption|exact Ext.refl _|refine Ext.alloc ?_ _|refine Ext.drewN ?_ _))))).out.mono ?_);rintro x wI ⟨rfl,nI,rfl⟩)
                  | (go_at_call 113;(with_reducible refine(HY3 _ (by(repeat (with_reducible (first|assumption|exact Ext.refl _|refine Ext.alloc ?_ _|refine Ext.drewN ?_ _))))).out.mono ?_);rintro x wJ ⟨rfl,nJ,rfl⟩)
                  | (go_at_call 109;(with_reducible refine(HNm _ (by(repeat (with_reducible (first|assumption|exact Ext.refl _|refine Ext.alloc ?_ _|refine Ext.drewN ?_ _))))).out.mono ?_);rintro x wG ⟨hFG',vG,rfl,rfl,hPG⟩;have hFG:Frm (fun k=>k=B) wc wG:=(Frm.of_ext (by(repeat (with_reducible (first|assumption|exact Ext.refl _|refine Ext.alloc ?_ _|refine Ext.drewN ?_ _))))).trans hFG';have hRG:=Lib.hid (HD0.out.frm hFG (fun e=>by omega)))
                  | ((with_reducible show wpList _ _ _ (⟨none,.store _ (.tmp 61) _,_,_,_,_⟩::_) _ _);refine wpl_st1 rfl 9 _ _ rfl D 2 (cdS.vals (lfC ⟨K,col,[],ValD.zero⟩)) (.string ⟨s2.toArray⟩) rfl rfl hRG.out (by show 2<7;omega) (st_str D 2 _) ?_;intro WF hFF hRF;have hPX:=hPG.frm hFF (fun x e=>by omega);have hFX:Frm (fun k=>k=B∨k=D) wc WF:=(hFG.mono (fun k _ e=>.inl e)).trans (hFF.mono (fun k _ e=>.inr e));have hRX:BxT D (cdS.vals (lfC ⟨K,col,s2,ValD.zero⟩)) WF:=hRF)
                  | ((with_reducible show wpList _ _ _ (⟨some 91,.load _ _,_,_,_,_⟩::_) _ _);refine wpl_load rfl 27 _ rfl D 0 rfl (cdS.vals (lfC ⟨K,col,s2,ValD.zero⟩)) _ (hRX).rd Tryz.underlying27 rfl (info_c (lfC ⟨K,col,s2,ValD.zero⟩)) ?_)
                  | ((with_reducible show wpList _ _ _ (⟨none,.store _ (.tmp 4) _,_,_,_,_⟩::_) _ _);refine wpl_st rfl 27 _ _ rfl w.heap.size zeroC (cdS.vals (lfC ⟨K,col,s2,ValD.zero⟩)) rfl rfl (HR0.out.frm hFX (fun e=>by omega)) rfl (info_c (lfC ⟨K,col,s2,ValD.zero⟩)) (vals_one_c (lfC ⟨K,col,s2,ValD.zero⟩)) ?_;intro WZ hFZ hRZ))
                 refine bodyPost_ret (v:=.agg (cdS.vals (lfC ⟨K,col,s2,ValD.zero⟩)).toArray) (results_c9 rfl rfl (run_loadVar_mid WZ w.heap.size 0 27 _ _ hRZ.rd Tryz.underlying27 rfl (info_c (lfC ⟨K,col,s2,ValD.zero⟩)))) rfl ?_
                 exact PR.endc HB.out hPX (HF0.out.step hFX (fun x h1 e=>by omega)) hBl (InC.leaf hok.out) (map_leaf _) hFZ
theorem unit_all:∀(k:Nat),k≤12→UnK L ao cap B k (12-(k:Int))
 | k,hk=>fun i w h=>by
   cases hi:L[i]? with
   | none=>exact unit_none h hi
   | some t=>
     cases hn:isP L wNot i with
     | true=>
       cases k with
       | zero=>exact unit_full h t hi (.inl hn)
       | succ k=>
         refine unit_not h t hi hn (by omega) ?_
         have:=unit_all k (by omega)
         rwa [show (12:Int)-((k+1:Nat):Int)+1=12-(k:Int) by omega]
     | false=>
       cases hp:isP L wLp i with
       | true=>
         cases k with
         | zero=>exact unit_full h t hi (.inr hp)
         | succ k=>
           refine unit_par h t hi hn hp (by omega) ?_
           have:=unit_all k (by omega)
           rwa [show (12:Int)-((k+1:Nat):Int)+1=12-(k:Int) by omega]
       | false=>
         cases ha:isP L wAlways i with
         | true=>exact unit_alw h t hi hn hp ha
         | false=>exact unit_cmp h t hi hn hp ha
theorem cond_all {i:Nat} {w:World} (h:Psr L ao cap B i w) :
  Calls Tryz.prog 67 #[.pointer (some ⟨B,0,none⟩),.int .i64 0] w (PR L ao cap B w (CdV w.heap.size) (cdP L 12 i)):=
 cond_c (unit_all 12 (Nat.le_refl _)) (fun j c j' h=>unP_gt 12 j c j' h) h
end
end Go.Proofs.YtlmeinikknoeeaaGreatDoor
