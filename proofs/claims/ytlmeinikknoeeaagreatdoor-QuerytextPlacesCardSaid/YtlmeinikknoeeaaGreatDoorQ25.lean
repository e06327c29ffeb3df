/- Queries: the parser in memory; an operand of a condition that is not, a parenthesis, or always. -/
import Derived.Test.YtlmeinikknoeeaaGreatDoorQ24
namespace Go.Proofs.YtlmeinikknoeeaaGreatDoor
set_option maxRecDepth 100000
set_option maxHeartbeats 2000000
set_option linter.unusedVariables false
set_option linter.unnecessarySimpa false
set_option linter.unusedSimpArgs false
open Go.RowKit
theorem unP_none {L:List TkD} {k i:Nat} (hi:L[i]? = none):unP L k i = .bad 0 0 4:=by
 cases k<;>(rw[unP];unfold pkP;rw[hi];rfl)
theorem unP_full {L:List TkD} {i:Nat} {t:TkD} (hi:L[i]? = some t) (h:isP L wNot i=true∨isP L wLp i=true):unP L 0 i = .bad t.ln t.cl 5:=by
 rw[unP,pkP_at hi];exact(if_pos h).trans (wrP_at hi 5)
theorem unP_not {L:List TkD} {k i:Nat} {t:TkD} (hi:L[i]? = some t) (h:isP L wNot i=true):unP L (k+1) i=(unP L k (i+1)).bind fun c j=>.ok (.mk (opD 4) [c]) j:=by
 rw[unP,pkP_at hi];exact if_pos h
theorem unP_par {L:List TkD} {k i:Nat} {t:TkD} (hi:L[i]? = some t) (hn:isP L wNot i=false) (h:isP L wLp i=true):unP L (k+1) i=(cdP L k (i+1)).bind fun c j=>(exP L wRp j).bind fun _ j=>.ok c j:=by
 rw[unP,pkP_at hi];exact(if_neg (by rw[hn];simp)).trans (if_pos h)
theorem unP_alw {L:List TkD} {k i:Nat} {t:TkD} (hi:L[i]? = some t) (hn:isP L wNot i=false) (hp:isP L wLp i=false) (h:isP L wAlways i=true):unP L k i = .ok (.mk (opD 3) []) (i+1):=by
 cases k with
 | zero=>rw[unP,pkP_at hi];exact(if_neg (by rw[hn,hp];simp)).trans (if_pos h)
 | succ k=>rw[unP,pkP_at hi];exact(if_neg (by rw[hn];simp)).trans ((if_neg (by rw[hp];simp)).trans (if_pos h))
theorem unP_cmp {L:List TkD} {k i:Nat} {t:TkD} (hi:L[i]? = some t) (hn:isP L wNot i=false) (hp:isP L wLp i=false) (h:isP L wAlways i=false):unP L k i=cmP L i:=by
 cases k with
 | zero=>rw[unP,pkP_at hi];exact(if_neg (by rw[hn,hp];simp)).trans (if_neg (by rw[h];simp))
 | succ k=>rw[unP,pkP_at hi];exact(if_neg (by rw[hn];simp)).trans ((if_neg (by rw[hp];simp)).trans (if_neg (by rw[h];simp)))
theorem exP_gt {L:List TkD} {s:List UInt8} {i j:Nat} {u:Unit} (h:exP L s i = .ok u j):j=i+1:=by
 unfold exP wrP at h
 split at h
 ·injection h with _ h;exact h.symm
 ·split at h<;>cases h
theorem pkP_gt {L:List TkD} {i j:Nat} {t:TkD} (h:pkP L i = .ok t j):j=i∧L[i]? = some t:=by
 unfold pkP at h
 split at h
 ·rename_i t2 e;injection h with h1 h2;exact⟨h2.symm,by rw[e,h1]⟩
 ·cases h
theorem wrP_no {α:Type} {L:List TkD} {e:Int} {i j:Nat} {a:α} (h:wrP L e i = .ok a j):False:=by
 unfold wrP at h
 split at h<;>cases h
theorem rhP_gt {L:List TkD} {k:Int} {col:List UInt8} {i j:Nat} {c:Tr CdD} (h:rhP L k col i = .ok c j):i<j:=by
 unfold rhP at h
 cases hp:pkP L i with
 | bad l c e=>rw[hp]at h;cases h
 | ok t i1=>
   rw[hp]at h
   obtain⟨rfl,ht⟩:=pkP_gt hp
   simp only[Rs.bind]at h
   split at h
   ·injection h with _ h;omega
   ·split at h
    ·injection h with _ h;omega
    ·split at h
     ·injection h with _ h;omega
     ·split at h
      ·injection h with _ h;omega
      ·cases hn:naP L i1 with
       | bad l c e=>rw[hn]at h;cases h
       | ok s j2=>
         rw[hn]at h
         obtain⟨rfl,_⟩:=naP_ok hn
         injection h with _ h;omega
theorem cmP_gt {L:List TkD} {i j:Nat} {c:Tr CdD} (h:cmP L i = .ok c j):i<j:=by
 unfold cmP at h
 cases hn:naP L i with
 | bad l c e=>rw[hn]at h;cases h
 | ok s j2=>
   rw[hn]at h
   obtain⟨rfl,_⟩:=naP_ok hn
   simp only[Rs.bind]at h
   split at h
   ·have:=rhP_gt h;omega
   ·cases he:exP L wEq (i+1)with
    | bad l c e=>rw[he]at h;cases h
    | ok u j3=>
      rw[he]at h
      have:=exP_gt he
      have:=rhP_gt h
      omega
theorem unP_gt {L:List TkD}:∀(k i:Nat) (c:Tr CdD) (j:Nat),unP L k i = .ok c j→i<j
 | k,i,c,j,h=>by
   cases hi:L[i]? with
   | none=>rw[unP_none hi]at h;cases h
   | some t=>
     cases hn:isP L wNot i with
     | true=>
       cases k with
       | zero=>rw[unP_full hi (.inl hn)]at h;cases h
       | succ k=>
         rw[unP_not hi hn]at h
         cases hu:unP L k (i+1)with
         | bad l c e=>rw[hu]at h;cases h
         | ok d j2=>
           rw[hu]at h
           injection h with _ h
           have:=unP_gt k _ _ _ hu
           omega
     | false=>
       cases hp:isP L wLp i with
       | true=>
         cases k with
         | zero=>rw[unP_full hi (.inr hp)]at h;cases h
         | succ k=>
           rw[unP_par hi hn hp]at h
           cases hu:cdP L k (i+1)with
           | bad l c e=>rw[hu]at h;cases h
           | ok d j2=>
             rw[hu]at h
             have h1:i+1<j2:=chP_gt (fun j c j' h=>chP_gt (fun j c j' h=>unP_gt k j c j' h) j c j' h) _ _ _ hu
             simp only[Rs.bind]at h
             cases he:exP L wRp j2 with
             | bad l c e=>rw[he]at h;cases h
             | ok u j3=>
               rw[he]at h
               have:=exP_gt he
               injection h with _ h
               omega
       | false=>
         cases ha:isP L wAlways i with
         | true=>rw[unP_alw hi hn hp ha]at h;injection h with _ h;omega
         | false=>rw[unP_cmp hi hn hp ha]at h;exact cmP_gt h
section
variable {L:List TkD} {ao:Option Addr} {cap B:Nat}
theorem unit_none {k i:Nat} {d:Int} {w:World} (h:Psr L ao cap B i w) (hi:L[i]? = none) :
  Calls Tryz.prog 139 #[.pointer (some ⟨B,0,none⟩),.int .i64 d] w (PR L ao cap B w (CdV w.heap.size) (unP L k i)):=by
 rw[unP_none hi]
 have HP:=fun w' (hE:Ext w w')=>Lib.hid (peek_no (h.ext hE) (h.end hi))
 clear hi
 go_enter Tryz.func139,Tryz.ntmps139
 go_wp2_with (first
  | ((with_reducible show wpList _ _ _ (⟨some 4,.alloc _,_,_,_,_⟩::_) _ _);refine wpl_new rfl 27 zeroC rfl alloc_c ?_;intro W1 hE1 hR1 hz1)
  | (go_at_call 107;(with_reducible refine(HP _ (by(repeat (with_reducible (first|assumption|exact Ext.refl _|refine Ext.alloc ?_ _|refine Ext.setCell ?_ (by simp) _|refine Ext.setCell ?_ (by simp;omega) _|refine Ext.drewN ?_ _|refine Ext.drew ?_))))).out.mono ?_);rintro x w2 ⟨rfl,hE2'⟩;have hE2:=hE1.trans hE2'))
 exact⟨rfl,PR.no rfl (Frm.of_ext hE2)⟩
theorem unit_full {i:Nat} {w:World} (h:Psr L ao cap B i w) (t:TkD) (hi:L[i]? = some t) (ho:isP L wNot i=true∨isP L wLp i=true) :
  Calls Tryz.prog 139 #[.pointer (some ⟨B,0,none⟩),.int .i64 12] w (PR L ao cap B w (CdV w.heap.size) (unP L 0 i)):=by
 rw[unP_full hi ho]
 have HP:=fun w' (hE:Ext w w')=>Lib.hid (peek_ok (h.ext hE) t hi)
 have HW:=fun w' (hE:Ext w w')=>Lib.hid (wrong_ok 5 (h.ext hE) t hi)
 have d12:((12:Int)==12)=true:=rfl
 cases hn:isP L wNot i with
 | true=>
   have HIn:=fun w' (hE:Ext w w')=>Lib.hid (is_c (h.ext hE) wNot (by decide) true hn)
   clear hi ho hn
   go_enter Tryz.func139,Tryz.ntmps139
   go_wp2_with (first
    | ((with_reducible show wpList _ _ _ (⟨some 4,.alloc _,_,_,_,_⟩::_) _ _);refine wpl_new rfl 27 zeroC rfl alloc_c ?_;intro W1 hE1 hR1 hz1)
    | (go_at_call 107;(with_reducible refine(HP _ (by(repeat (with_reducible (first|assumption|exact Ext.refl _|refine Ext.alloc ?_ _|refine Ext.setCell ?_ (by simp) _|refine Ext.setCell ?_ (by simp;omega) _|refine Ext.drewN ?_ _|refine Ext.drew ?_))))).out.mono ?_);rintro x w2 ⟨rfl,hE2'⟩;have hE2:=hE1.trans hE2')
    | (go_at_call 192;(with_reducible refine(HIn _ (by(repeat (with_reducible (first|assumption|exact Ext.refl _|refine Ext.alloc ?_ _|refine Ext.setCell ?_ (by simp) _|refine Ext.setCell ?_ (by simp;omega) _|refine Ext.drewN ?_ _|refine Ext.drew ?_))))).out.mono ?_);rintro x w3 ⟨rfl,n3,rfl⟩)
    | (go_at_call 106;(with_reducible refine(HW _ (by(repeat (with_reducible (first|assumption|exact Ext.refl _|refine Ext.alloc ?_ _|refine Ext.setCell ?_ (by simp) _|refine Ext.setCell ?_ (by simp;omega) _|refine Ext.drewN ?_ _|refine Ext.drew ?_))))).out.mono ?_);rintro x w5 ⟨rfl,hE5⟩))
   exact⟨rfl,PR.no rfl (Frm.of_ext (Ext.trans (by(repeat (with_reducible (first|assumption|exact Ext.refl _|refine Ext.alloc ?_ _|refine Ext.setCell ?_ (by simp) _|refine Ext.setCell ?_ (by simp;omega) _|refine Ext.drewN ?_ _|refine Ext.drew ?_)))) hE5))⟩
 | false=>
   have hp:isP L wLp i=true:=by rcases ho with q|q;(rw[hn]at q;cases q);exact q
   have HIn:=fun w' (hE:Ext w w')=>Lib.hid (is_c (h.ext hE) wNot (by decide) false hn)
   have HIp:=fun w' (hE:Ext w w')=>Lib.hid (is_c (h.ext hE) wLp (by decide) true hp)
   clear hi ho hn hp
   go_enter Tryz.func139,Tryz.ntmps139
   go_wp2_with (first
    | ((with_reducible show wpList _ _ _ (⟨some 4,.alloc _,_,_,_,_⟩::_) _ _);refine wpl_new rfl 27 zeroC rfl alloc_c ?_;intro W1 hE1 hR1 hz1)
    | (go_at_call 107;(with_reducible refine(HP _ (by(repeat (with_reducible (first|assumption|exact Ext.refl _|refine Ext.alloc ?_ _|refine Ext.setCell ?_ (by simp) _|refine Ext.setCell ?_ (by simp;omega) _|refine Ext.drewN ?_ _|refine Ext.drew ?_))))).out.mono ?_);rintro x w2 ⟨rfl,hE2'⟩;have hE2:=hE1.trans hE2')
    | (go_at_call 192;(with_reducible refine(HIn _ (by(repeat (with_reducible (first|assumption|exact Ext.refl _|refine Ext.alloc ?_ _|refine Ext.setCell ?_ (by simp) _|refine Ext.setCell ?_ (by simp;omega) _|refine Ext.drewN ?_ _|refine Ext.drew ?_))))).out.mono ?_);rintro x w3 ⟨rfl,n3,rfl⟩)
    | (go_at_call 192;(with_reducible refine(HIp _ (by(repeat (with_reducible (first|assumption|exact Ext.refl _|refine Ext.alloc ?_ _|refine Ext.setCell ?_ (by simp) _|refine Ext.setCell ?_ (by simp;omega) _|refine Ext.drewN ?_ _|refine Ext.drew ?_))))).out.mono ?_);rintro x w4 ⟨rfl,n4,rfl⟩)
    | (go_at_call 106;(with_reducible refine(HW _ (by(repeat (with_reducible (first|assumption|exact Ext.refl _|refine Ext.alloc ?_ _|refine Ext.setCell ?_ (by simp) _|refine Ext.setCell ?_ (by simp;omega) _|refine Ext.drewN ?_ _|refine Ext.drew ?_))))).out.mono ?_);rintro x w5 ⟨rfl,hE5⟩))
   exact⟨rfl,PR.no rfl (Frm.of_ext (Ext.trans (by(repeat (with_reducible (first|assumption|exact Ext.refl _|refine Ext.alloc ?_ _|refine Ext.setCell ?_ (by simp) _|refine Ext.setCell ?_ (by simp;omega) _|refine Ext.drewN ?_ _|refine Ext.drew ?_)))) hE5))⟩
theorem PR.endc {w W':World} {r:Rs (Tr CdD)} {t:Cnd} {c:Tr CdD} {j:Nat} (hr:r = .ok c j) {W:World} (hP:Psr L ao cap B j W) (hF:Frm (fun k=>k=B) w W) (hB:B<w.heap.size) (hI:InC (fun k=>w.heap.size<k) W t) (hm:mapT CdA.d t=c) (hF6:Frm (fun k=>k=w.heap.size) W W') :
  PR L ao cap B w (CdV w.heap.size) r (.returned (.agg (cdS.vals t).toArray)) W':=
 PR.fin hr ⟨hP.frm hF6 (fun x e=>by omega),hF.step hF6 (fun x h1 e=>by omega)⟩ (Ext.refl _) (CdV.res hI hm hF6)
def lfC (d:CdD):Cnd:=.mk ⟨d,none,0⟩ []
theorem InC.leaf {A:Nat→Prop} {w:World} {d:CdD} (h:cdS.ok A w ⟨d,none,0⟩):InC A w (lfC d):=by
 unfold InC lfC
 rw[InT]
 exact⟨h,⟨Nat.le_refl _,Nat.zero_le _,fun q=>absurd rfl q⟩,by rw[InTs];trivial⟩
theorem map_leaf (d:CdD):mapT CdA.d (lfC d) = .mk d []:=by unfold lfC;rw[mapT,mapTs]
theorem unit_alw {k i:Nat} {d:Int} {w:World} (h:Psr L ao cap B i w) (t:TkD) (hi:L[i]? = some t) (hn:isP L wNot i=false) (hp:isP L wLp i=false) (ha:isP L wAlways i=true) :
  Calls Tryz.prog 139 #[.pointer (some ⟨B,0,none⟩),.int .i64 d] w (PR L ao cap B w (CdV w.heap.size) (unP L k i)):=by
 rw[unP_alw hi hn hp ha]
 have HP:=fun w' (hE:Ext w w')=>Lib.hid (peek_ok (h.ext hE) t hi)
 have HIn:=fun w' (hE:Ext w w')=>Lib.hid (is_c (h.ext hE) wNot (by decide) false hn)
 have HIp:=fun w' (hE:Ext w w')=>Lib.hid (is_c (h.ext hE) wLp (by decide) false hp)
 have HAn:=fun w' (hE:Ext w w')=>Lib.hid (acc_no (h.ext hE) wNot (by decide) hn)
 have HAp:=fun w' (hE:Ext w w')=>Lib.hid (acc_no (h.ext hE) wLp (by decide) hp)
 have HAa:=fun w' (hE:Ext w w')=>Lib.hid (acc_yes (h.ext hE) wAlways (by decide) ha)
 have hBl:=h.hB
 clear hi hn hp ha
 go_enter Tryz.func139,Tryz.ntmps139
 go_wp2_with (first
  | ((with_reducible show wpList _ _ _ (⟨some 4,.alloc _,_,_,_,_⟩::_) _ _);refine wpl_new rfl 27 zeroC rfl alloc_c ?_;intro W1 hE1 hR1 hz1)
  | (go_at_call 107;(with_reducible refine(HP _ (by(repeat (with_reducible (first|assumption|exact Ext.refl _|refine Ext.alloc ?_ _|refine Ext.setCell ?_ (by simp) _|refine Ext.setCell ?_ (by simp;omega) _|refine Ext.drewN ?_ _|refine Ext.drew ?_))))).out.mono ?_);rintro x w2 ⟨rfl,hE2'⟩;have hE2:=hE1.trans hE2')
  | (go_at_call 192;(with_reducible refine(HIn _ (by(repeat (with_reducible (first|assumption|exact Ext.refl _|refine Ext.alloc ?_ _|refine Ext.setCell ?_ (by simp) _|refine Ext.setCell ?_ (by simp;omega) _|refine Ext.drewN ?_ _|refine Ext.drew ?_))))).out.mono ?_);rintro x w3 ⟨rfl,n3,rfl⟩)
  | (go_at_call 192;(with_reducible refine(HIp _ (by(repeat (with_reducible (first|assumption|exact Ext.refl _|refine Ext.alloc ?_ _|refine Ext.setCell ?_ (by simp) _|refine Ext.setCell ?_ (by simp;omega) _|refine Ext.drewN ?_ _|refine Ext.drew ?_))))).out.mono ?_);rintro x w4 ⟨rfl,n4,rfl⟩)
  | (go_at_call 113;(with_reducible refine(HAn _ (by(repeat (with_reducible (first|assumption|exact Ext.refl _|refine Ext.alloc ?_ _|refine Ext.setCell ?_ (by simp) _|refine Ext.setCell ?_ (by simp;omega) _|refine Ext.drewN ?_ _|refine Ext.drew ?_))))).out.mono ?_);rintro x w5 ⟨rfl,n5,rfl⟩)
  | (go_at_call 113;(with_reducible refine(HAp _ (by(repeat (with_reducible (first|assumption|exact Ext.refl _|refine Ext.alloc ?_ _|refine Ext.setCell ?_ (by simp) _|refine Ext.setCell ?_ (by simp;omega) _|refine Ext.drewN ?_ _|refine Ext.drew ?_))))).out.mono ?_);rintro x w6 ⟨rfl,n6,rfl⟩)
  | (go_at_call 113;(with_reducible refine(HAa _ (by(repeat (with_reducible (first|assumption|exact Ext.refl _|refine Ext.alloc ?_ _|refine Ext.setCell ?_ (by simp) _|refine Ext.setCell ?_ (by simp;omega) _|refine Ext.drewN ?_ _|refine Ext.drew ?_))))).out.mono ?_);rintro x w7 ⟨rfl,hP7,hF7⟩;have hF7:=(Frm.of_ext (S:=fun k=>k=B) hE2').trans hF7.drewL)
  | ((with_reducible show wpList _ _ _ (⟨none,.store _ _ _,_,_,_,_⟩::_) _ _);refine wpl_st rfl 27 _ _ rfl w.heap.size zeroC (cdS.vals (lfC (opD 3))) rfl rfl (hR1.frm hF7 (fun e=>by omega)) rfl (info_c (lfC (opD 3))) (vals_one_c (lfC (opD 3))) ?_;intro W8 hF8 hR8))
 refine bodyPost_ret (v:=.agg (cdS.vals (lfC (opD 3))).toArray) (results_c9 rfl rfl (run_loadVar_mid W8 w.heap.size 0 27 _ _ hR8.rd Tryz.underlying27 rfl (info_c (lfC (opD 3))))) rfl ?_
 exact PR.endc rfl hP7 ((Frm.of_ext hE1).trans hF7) hBl (InC.leaf (opD_ok (by unfold Bi;omega) _ _)) (map_leaf _) hF8
theorem unit_not {k i:Nat} {d:Int} {w:World} (h:Psr L ao cap B i w) (t:TkD) (hi:L[i]? = some t) (hn:isP L wNot i=true) (hd:0≤d∧d<12) (hU:UnK L ao cap B k (d+1)) :
  Calls Tryz.prog 139 #[.pointer (some ⟨B,0,none⟩),.int .i64 d] w (PR L ao cap B w (CdV w.heap.size) (unP L (k+1) i)):=by
 rw[unP_not hi hn]
 have HP:=fun w' (hE:Ext w w')=>Lib.hid (peek_ok (h.ext hE) t hi)
 have HIn:=fun w' (hE:Ext w w')=>Lib.hid (is_c (h.ext hE) wNot (by decide) true hn)
 have HAn:=fun w' (hE:Ext w w')=>Lib.hid (acc_yes (h.ext hE) wNot (by decide) hn)
 have HU:=Lib.hid hU
 have hBl:=h.hB
 have hd0:=hd.1
 have hd1:d≤11:=by omega
 have hd2:(d==12)=false:=by rw[beq_eq_false_iff_ne];omega
 clear hi hn hU hd
 cases hr:unP L k (i+1)with
 | bad l c e=>
   have HR:=Lib.hid hr
   clear hr
   go_enter Tryz.func139,Tryz.ntmps139
   go_wp2_with (first
    | ((with_reducible show wpList _ _ _ (⟨some 4,.alloc _,_,_,_,_⟩::_) _ _);refine wpl_new rfl 27 zeroC rfl alloc_c ?_;intro W1 hE1 hR1 hz1)
    | (go_at_call 107;(with_reducible refine(HP _ (by(repeat (with_reducible (first|assumption|exact Ext.refl _|refine Ext.alloc ?_ _|refine Ext.setCell ?_ (by simp) _|refine Ext.setCell ?_ (by simp;omega) _|refine Ext.drewN ?_ _|refine Ext.drew ?_))))).out.mono ?_);rintro x w2 ⟨rfl,hE2'⟩;have hE2:=hE1.trans hE2')
    | (go_at_call 192;(with_reducible refine(HIn _ (by(repeat (with_reducible (first|assumption|exact Ext.refl _|refine Ext.alloc ?_ _|refine Ext.setCell ?_ (by simp) _|refine Ext.setCell ?_ (by simp;omega) _|refine Ext.drewN ?_ _|refine Ext.drew ?_))))).out.mono ?_);rintro x w3 ⟨rfl,n3,rfl⟩)
    | (go_at_call 113;(with_reducible refine(HAn _ (by(repeat (with_reducible (first|assumption|exact Ext.refl _|refine Ext.alloc ?_ _|refine Ext.setCell ?_ (by simp) _|refine Ext.setCell ?_ (by simp;omega) _|refine Ext.drewN ?_ _|refine Ext.drew ?_))))).out.mono ?_);rintro x w5 ⟨rfl,hP5,hF5⟩;have HD:=HU.out (i+1) _ hP5;rw[HR.out]at HD;have HD:=Lib.hid HD)
    | (go_at_call 139;(with_reducible refine HD.out.mono ?_);rintro x w6 ⟨hF6,rfl⟩))
   exact⟨rfl,PR.no rfl (((Frm.of_ext hE2).trans hF5.drewL).trans hF6)⟩
 | ok c j=>
   have HR:=Lib.hid hr
   clear hr
   go_enter Tryz.func139,Tryz.ntmps139
   go_wp2_with (first
    | ((with_reducible show wpList _ _ _ (⟨some 4,.alloc _,_,_,_,_⟩::_) _ _);refine wpl_new rfl 27 zeroC rfl alloc_c ?_;intro W1 hE1 hR1 hz1)
    | (go_at_call 107;(with_reducible refine(HP _ (by(repeat (with_reducible (first|assumption|exact Ext.refl _|refine Ext.alloc ?_ _|refine Ext.setCell ?_ (by simp) _|refine Ext.setCell ?_ (by simp;omega) _|refine Ext.drewN ?_ _|refine Ext.drew ?_))))).out.mono ?_);rintro x w2 ⟨rfl,hE2'⟩;have hE2:=hE1.trans hE2')
    | (go_at_call 192;(with_reducible refine(HIn _ (by(repeat (with_reducible (first|assumption|exact Ext.refl _|refine Ext.alloc ?_ _|refine Ext.setCell ?_ (by simp) _|refine Ext.setCell ?_ (by simp;omega) _|refine Ext.drewN ?_ _|refine Ext.drew ?_))))).out.mono ?_);rintro x w3 ⟨rfl,n3,rfl⟩)
    | (go_at_call 113;(with_reducible refine(HAn _ (by(repeat (with_reducible (first|assumption|exact Ext.refl _|refine Ext.alloc ?_ _|refine Ext.setCell ?_ (by simp) _|refine Ext.setCell ?_ (by simp;omega) _|refine Ext.drewN ?_ _|refine Ext.drew ?_))))).out.mono ?_);rintro x w5 ⟨rfl,hP5,hF5⟩;have hF5:=(Frm.of_ext (S:=fun k=>k=B) hE2').trans hF5.drewL;have HD:=HU.out (i+1) _ hP5;rw[HR.out]at HD;have HD:=Lib.hid HD)
    | (go_at_call 139;(with_reducible refine HD.out.mono ?_);rintro x w6 ⟨hF6,v,rfl,hV,hP6⟩;obtain⟨t6,rfl,hI,hm⟩:=hV)
    | ((with_reducible show wpList _ _ _ (⟨some 30,.buildSlice _ _ _,_,_,_,_⟩::_) _ _);refine wpl_bs1 rfl 25 27 _ rfl (.agg (cdS.vals t6).toArray) rfl (cdS.vals t6) (bs1_c t6 _) ?_;intro W7 hE7 hR7 hz7)
    | ((with_reducible show wpList _ _ _ (⟨none,.store _ _ _,_,_,_,_⟩::_) _ _);refine wpl_st rfl 27 _ _ rfl w.heap.size zeroC (cdS.vals (opC1 4 w6.heap.size t6)) rfl rfl ((hR1.frm (hF5.trans hF6) (fun e=>by omega)).ext hE7) rfl (info_c (opC1 4 w6.heap.size t6)) (vals_one_c (opC1 4 w6.heap.size t6)) ?_;intro W8 hF8 hR8))
   have hs6:=(hF5.trans hF6).size
   have hs5:=hF5.size
   refine bodyPost_ret (v:=.agg (cdS.vals (opC1 4 w6.heap.size t6)).toArray) (results_c9 rfl rfl (run_loadVar_mid W8 w.heap.size 0 27 _ _ hR8.rd Tryz.underlying27 rfl (info_c (opC1 4 w6.heap.size t6)))) rfl ?_
   exact PR.endc rfl (hP6.ext hE7) (((Frm.of_ext hE1).trans (hF5.trans hF6)).trans (Frm.of_ext hE7)) hBl (InC.op1 (by unfold Bi;omega) ((hI.mono (fun k h1 _=>by omega)).ext hE7) w6.heap.size (by omega) hR7.hD hR7.rd) (by rw[map_op1,hm]) hF8
theorem unit_par {k i:Nat} {d:Int} {w:World} (h:Psr L ao cap B i w) (t:TkD) (hi:L[i]? = some t) (hn:isP L wNot i=false) (hp:isP L wLp i=true) (hd:0≤d∧d<12) (hU:UnK L ao cap B k (d+1)) :
  Calls Tryz.prog 139 #[.pointer (some ⟨B,0,none⟩),.int .i64 d] w (PR L ao cap B w (CdV w.heap.size) (unP L (k+1) i)):=by
 rw[unP_par hi hn hp]
 have HP:=fun w' (hE:Ext w w')=>Lib.hid (peek_ok (h.ext hE) t hi)
 have HIn:=fun w' (hE:Ext w w')=>Lib.hid (is_c (h.ext hE) wNot (by decide) false hn)
 have HIp:=fun w' (hE:Ext w w')=>Lib.hid (is_c (h.ext hE) wLp (by decide) true hp)
 have HAn:=fun w' (hE:Ext w w')=>Lib.hid (acc_no (h.ext hE) wNot (by decide) hn)
 have HAp:=fun w' (hE:Ext w w')=>Lib.hid (acc_yes (h.ext hE) wLp (by decide) hp)
 have HC:=fun w' (hP:Psr L ao cap B (i+1) w')=>Lib.hid (cond_c hU (fun j c j' h=>unP_gt k j c j' h) hP)
 have HX:=fun w' j (hP:Psr L ao cap B j w')=>Lib.hid (exp_c hP wRp (by decide))
 have hBl:=h.hB
 have hd0:=hd.1
 have hd1:d≤11:=by omega
 have hd2:(d==12)=false:=by rw[beq_eq_false_iff_ne];omega
 clear hi hn hU hd hp
 cases hr:cdP L k (i+1)with
 | bad l c e=>
   rw[hr]at HC
   clear hr
   go_enter Tryz.func139,Tryz.ntmps139
   go_wp2_with (first
    | ((with_reducible show wpList _ _ _ (⟨some 4,.alloc _,_,_,_,_⟩::_) _ _);refine wpl_new rfl 27 zeroC rfl alloc_c ?_;intro W1 hE1 hR1 hz1)
    | (go_at_call 107;(with_reducible refine(HP _ (by(repeat (with_reducible (first|assumption|exact Ext.refl _|refine Ext.alloc ?_ _|refine Ext.setCell ?_ (by simp) _|refine Ext.setCell ?_ (by simp;omega) _|refine Ext.drewN ?_ _|refine Ext.drew ?_))))).out.mono ?_);rintro x w2 ⟨rfl,hE2'⟩;have hE2:=hE1.trans hE2')
    | (go_at_call 192;(with_reducible refine(HIn _ (by(repeat (with_reducible (first|assumption|exact Ext.refl _|refine Ext.alloc ?_ _|refine Ext.setCell ?_ (by simp) _|refine Ext.setCell ?_ (by simp;omega) _|refine Ext.drewN ?_ _|refine Ext.drew ?_))))).out.mono ?_);rintro x w3 ⟨rfl,n3,rfl⟩)
    | (go_at_call 192;(with_reducible refine(HIp _ (by(repeat (with_reducible (first|assumption|exact Ext.refl _|refine Ext.alloc ?_ _|refine Ext.setCell ?_ (by simp) _|refine Ext.setCell ?_ (by simp;omega) _|refine Ext.drewN ?_ _|refine Ext.drew ?_))))).out.mono ?_);rintro x w4 ⟨rfl,n4,rfl⟩)
    | (go_at_call 113;(with_reducible refine(HAn _ (by(repeat (with_reducible (first|assumption|exact Ext.refl _|refine Ext.alloc ?_ _|refine Ext.setCell ?_ (by simp) _|refine Ext.setCell ?_ (by simp;omega) _|refine Ext.drewN ?_ _|refine Ext.drew ?_))))).out.mono ?_);rintro x w5 ⟨rfl,n5,rfl⟩)
    | (go_at_call 113;(with_reducible refine(HAp _ (by(repeat (with_reducible (first|assumption|exact Ext.refl _|refine Ext.alloc ?_ _|refine Ext.setCell ?_ (by simp) _|refine Ext.setCell ?_ (by simp;omega) _|refine Ext.drewN ?_ _|refine Ext.drew ?_))))).out.mono ?_);rintro x w6 ⟨rfl,hP6,hF6⟩)
    | (go_at_call 67;(with_reducible refine(HC _ hP6).out.mono ?_);rintro x w7 ⟨hF7,rfl⟩))
   exact⟨rfl,PR.no rfl (((Frm.of_ext hE2).trans hF6.drewL).trans hF7)⟩
 | ok c j=>
   rw[hr]at HC
   clear hr
   cases hx:exP L wRp j with
   | bad l2 c2 e=>
     have HXb:=fun w' (hP:Psr L ao cap B j w')=>(HX w' j hP).out
     rw[hx]at HXb
     have HXb:=fun w' hP=>Lib.hid (HXb w' hP)
     have HB:Hid ((((Rs.ok c j:Rs (Tr CdD)).bind fun c j=>(exP L wRp j).bind fun _ j=>.ok c j):Rs (Tr CdD)) = .bad l2 c2 e):=by rw[Hid];show((exP L wRp j).bind _:Rs (Tr CdD))=_;rw[hx];rfl
     clear hx HX
     go_enter Tryz.func139,Tryz.ntmps139
     go_wp2_with (first
      | ((with_reducible show wpList _ _ _ (⟨some 4,.alloc _,_,_,_,_⟩::_) _ _);refine wpl_new rfl 27 zeroC rfl alloc_c ?_;intro W1 hE1 hR1 hz1)
      | (go_at_call 107;(with_reducible refine(HP _ (by(repeat (with_reducible (first|assumption|exact Ext.refl _|refine Ext.alloc ?_ _|refine Ext.setCell ?_ (by simp) _|refine Ext.setCell ?_ (by simp;omega) _|refine Ext.drewN ?_ _|refine Ext.drew ?_))))).out.mono ?_);rintro x w2 ⟨rfl,hE2'⟩;have hE2:=hE1.trans hE2')
        | (go_at_call 192;(with_reducible refine(HIn _ (by(repeat (with_reducible (first|assumption|exact Ext.refl _|refine Ext.alloc ?_ _|refine Ext.setCell ?_ (by simp) _|refine Ext.setCell ?_ (by simp;omega) _|refine Ext.drewN ?_ _|refine Ext.drew ?_))))).out.mono ?_);rintro x w3 ⟨rfl,n3,rfl⟩)
        | (go_at_call 192;(with_reducible refine(HIp _ (by(repeat (with_reducible (first|assumption|exact Ext.refl _|refine Ext.alloc ?_ _|refine Ext.setCell ?_ (by simp) _|refine Ext.setCell ?_ (by simp;omega) _|refine Ext.drewN ?_ _|refine Ext.drew ?_))))).out.mono ?_);rintro x w4 ⟨rfl,n4,rfl⟩)
        | (go_at_call 113;(with_reducible refine(HAn _ (by(repeat (with_reducible (first|assumption|exact Ext.refl _|refine Ext.alloc ?_ _|refine Ext.setCell ?_ (by simp) _|refine Ext.setCell ?_ (by simp;omega) _|refine Ext.drewN ?_ _|refine Ext.drew ?_))))).out.mono ?_);rintro x w5 ⟨rfl,n5,rfl⟩)
        | (go_at_call 113;(with_reducible refine(HAp _ (by(repeat (with_reducible (first|assumption|exact Ext.refl _|refine Ext.alloc ?_ _|refine Ext.setCell ?_ (by simp) _|refine Ext.setCell ?_ (by simp;omega) _|refine Ext.drewN ?_ _|refine Ext.drew ?_))))).out.mono ?_);rintro x w6 ⟨rfl,hP6,hF6⟩)
        | (go_at_call 67;(with_reducible refine(HC _ hP6).out.mono ?_);rintro x w7 ⟨hF7,v7,rfl,hV7,hP7⟩;obtain⟨t7,rfl,hI7,hm7⟩:=hV7)
      | ((with_reducible show wpList _ _ _ (⟨some 5,.alloc _,_,_,_,_⟩::_) _ _);refine wpl_new rfl 27 zeroC rfl alloc_c ?_;intro W8 hE8 hR8 hz8)
      | ((with_reducible show wpList _ _ _ (⟨none,.store _ _ _,_,_,_,_⟩::_) _ _);refine wpl_st rfl 27 _ _ rfl w7.heap.size zeroC (cdS.vals t7) rfl rfl hR8 rfl (info_c t7) (vals_one_c t7) ?_;intro W9 hF9 hR9;have hs7:=hF7.size;have hP9:=(hP7.ext hE8).frm hF9 (fun x e=>by have:=hP7.hB;omega))
      | (go_at_call 110;(with_reducible refine(HXb _ hP9).out.mono ?_);rintro x w10 ⟨hF10,rfl⟩))
     exact⟨rfl,PR.no HB.out ((((((Frm.of_ext hE2).trans hF6.drewL).trans hF7).trans (Frm.of_ext hE8)).step hF9 (fun x h1 e=>by have:=hF6.drewL.size;have:=hE2.size;omega)).trans hF10)⟩
   | ok u j2=>
     have HXb:=fun w' (hP:Psr L ao cap B j w')=>(HX w' j hP).out
     rw[hx]at HXb
     have HXb:=fun w' hP=>Lib.hid (HXb w' hP)
     have HB:Hid ((((Rs.ok c j:Rs (Tr CdD)).bind fun c j=>(exP L wRp j).bind fun _ j=>.ok c j):Rs (Tr CdD)) = .ok c j2):=by rw[Hid];show((exP L wRp j).bind _:Rs (Tr CdD))=_;rw[hx];rfl
     clear hx HX
     go_enter Tryz.func139,Tryz.ntmps139
     go_wp2_with (first
      | ((with_reducible show wpList _ _ _ (⟨some 4,.alloc _,_,_,_,_⟩::_) _ _);refine wpl_new rfl 27 zeroC rfl alloc_c ?_;intro W1 hE1 hR1 hz1)
      | (go_at_call 107;(with_reducible refine(HP _ (by(repeat (with_reducible (first|assumption|exact Ext.refl _|refine Ext.alloc ?_ _|refine Ext.setCell ?_ (by simp) _|refine Ext.setCell ?_ (by simp;omega) _|refine Ext.drewN ?_ _|refine Ext.drew ?_))))).out.mono ?_);rintro x w2 ⟨rfl,hE2'⟩;have hE2:=hE1.trans hE2')
        | (go_at_call 192;(with_reducible refine(HIn _ (by(repeat (with_reducible (first|assumption|exact Ext.refl _|refine Ext.alloc ?_ _|refine Ext.setCell ?_ (by simp) _|refine Ext.setCell ?_ (by simp;omega) _|refine Ext.drewN ?_ _|refine Ext.drew ?_))))).out.mono ?_);rintro x w3 ⟨rfl,n3,rfl⟩)
        | (go_at_call 192;(with_reducible refine(HIp _ (by(repeat (with_reducible (first|assumption|exact Ext.refl _|refine Ext.alloc ?_ _|refine Ext.setCell ?_ (by simp) _|refine Ext.setCell ?_ (by simp;omega) _|refine Ext.drewN ?_ _|refine Ext.drew ?_))))).out.mono ?_);rintro x w4 ⟨rfl,n4,rfl⟩)
        | (go_at_call 113;(with_reducible refine(HAn _ (by(repeat (with_reducible (first|assumption|exact Ext.refl _|refine Ext.alloc ?_ _|refine Ext.setCell ?_ (by simp) _|refine Ext.setCell ?_ (by simp;omega) _|refine Ext.drewN ?_ _|refine Ext.drew ?_))))).out.mono ?_);rintro x w5 ⟨rfl,n5,rfl⟩)
        | (go_at_call 113;(with_reducible refine(HAp _ (by(repeat (with_reducible (first|assumption|exact Ext.refl _|refine Ext.alloc ?_ _|refine Ext.setCell ?_ (by simp) _|refine Ext.setCell ?_ (by simp;omega) _|refine Ext.drewN ?_ _|refine Ext.drew ?_))))).out.mono ?_);rintro x w6 ⟨rfl,hP6,hF6⟩)
        | (go_at_call 67;(with_reducible refine(HC _ hP6).out.mono ?_);rintro x w7 ⟨hF7,v7,rfl,hV7,hP7⟩;obtain⟨t7,rfl,hI7,hm7⟩:=hV7)
      | ((with_reducible show wpList _ _ _ (⟨some 5,.alloc _,_,_,_,_⟩::_) _ _);refine wpl_new rfl 27 zeroC rfl alloc_c ?_;intro W8 hE8 hR8 hz8)
      | ((with_reducible show wpList _ _ _ (⟨none,.store _ (.tmp 5) _,_,_,_,_⟩::_) _ _);refine wpl_st rfl 27 _ _ rfl w7.heap.size zeroC (cdS.vals t7) rfl rfl hR8 rfl (info_c t7) (vals_one_c t7) ?_;intro W9 hF9 hR9;have hs7:=hF7.size;have hs6:=hF6.drewL.size;have hs2:=hE2'.size;have hP9:=(hP7.ext hE8).frm hF9 (fun x e=>by have:=hP7.hB;omega))
      | (go_at_call 110;(with_reducible refine(HXb _ hP9).out.mono ?_);rintro x w10 ⟨hF10,v10,rfl,rfl,hP10⟩)
      | ((with_reducible show wpList _ _ _ (⟨some 41,.load _ _,_,_,_,_⟩::_) _ _);refine wpl_load rfl 27 _ rfl w7.heap.size 0 rfl (cdS.vals t7) _ (hR9.frm hF10 (fun e=>by have:=hP7.hB;omega)).rd Tryz.underlying27 rfl (info_c t7) ?_)
      | ((with_reducible show wpList _ _ _ (⟨none,.store _ (.tmp 4) _,_,_,_,_⟩::_) _ _);refine wpl_st rfl 27 _ _ rfl w.heap.size zeroC (cdS.vals t7) rfl rfl ((((((hR1.ext hE2').frm hF6.drewL (fun e=>by omega)).frm hF7 (fun e=>by omega)).ext hE8).frm hF9 (fun e=>by omega)).frm hF10 (fun e=>by omega)) rfl (info_c t7) (vals_one_c t7) ?_;intro W11 hF11 hR11))
     refine bodyPost_ret (v:=.agg (cdS.vals t7).toArray) (results_c9 rfl rfl (run_loadVar_mid W11 w.heap.size 0 27 _ _ hR11.rd Tryz.underlying27 rfl (info_c t7))) rfl ?_
     refine PR.endc HB.out hP10 (((((((Frm.of_ext hE2).trans hF6.drewL).trans hF7).trans (Frm.of_ext hE8)).step hF9 (fun x h1 e=>by omega)).trans hF10)) hBl ?_ hm7 hF11
     have hI8:=(hI7.mono (A':=fun k=>w.heap.size<k∧k≠B∧k<w7.heap.size) (fun k h1 h2=>by have:=hP7.hB;exact⟨by omega,by omega,by omega⟩)).ext hE8
     exact((hI8.kp (Kp.frm hF9 (fun k h1 e=>by omega))).kp (Kp.frm hF10 (fun k h1 e=>h1.2.1 e))).mono (fun k h1 _=>h1.1)
end
end Go.Proofs.YtlmeinikknoeeaaGreatDoor
