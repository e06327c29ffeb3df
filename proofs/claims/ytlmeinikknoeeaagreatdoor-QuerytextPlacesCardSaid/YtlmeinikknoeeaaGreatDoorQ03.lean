/- Queries: the parser in memory; is, accept, expect, name. -/
import Derived.Test.YtlmeinikknoeeaaGreatDoorQ02
namespace Go.Proofs.YtlmeinikknoeeaaGreatDoor
set_option maxRecDepth 100000
set_option maxHeartbeats 1000000
set_option linter.unusedVariables false
set_option linter.unnecessarySimpa false
set_option linter.unusedSimpArgs false
open Go.RowKit
theorem PR.fin {α:Type} {L:List TkD} {ao:Option Addr} {cap B j:Nat} {w W W':World} {V:α→Value→World→Prop} {r:Rs α} {a:α} {v:Value} (hr:r = .ok a j) (hG:Psr L ao cap B j W∧Frm (fun k=>k=B) w W) (hE:Ext W W') (hv:V a v W'):PR L ao cap B w V r (.returned v) W':=by
 subst hr
 exact⟨hG.2.trans (Frm.of_ext hE),v,rfl,hv,hG.1.ext hE⟩
theorem PR.no {α:Type} {L:List TkD} {ao:Option Addr} {cap B:Nat} {w W':World} {V:α→Value→World→Prop} {r:Rs α} {l c er:Int} (hr:r = .bad l c er) (hF:Frm (fun k=>k=B) w W'):PR L ao cap B w V r (.panicked [{v:=flV l c er,recovered:=false}]) W':=by
 subst hr
 exact⟨hF,rfl⟩
theorem wrP_at {α:Type} {L:List TkD} {i:Nat} {t:TkD} (hi:L[i]? = some t) (e:Int):(wrP L e i:Rs α) = .bad t.ln t.cl e:=by unfold wrP;rw[hi]
theorem pkP_at {L:List TkD} {i:Nat} {t:TkD} (hi:L[i]? = some t):pkP L i = .ok t i:=by unfold pkP;rw[hi]
theorem Psr.rd {L:List TkD} {ao:Option Addr} {cap B i:Nat} {w:World} (h:Psr L ao cap B i w) (t:TkD) (hi:L[i]? = some t):∃R,ao=some ⟨R,0,none⟩∧R≠B∧R<w.heap.size∧i<L.length∧
  w.cell? ⟨R,i*7,none⟩=some (.int .i64 t.k)∧w.cell? ⟨R,i*7+1,none⟩=some (.string ⟨t.tx.toArray⟩)∧t.tx.length≤9223372036854775806:=by
 obtain⟨hi,ht⟩:=List.getElem?_eq_some_iff.1 hi
 obtain⟨R,e,n,l,r⟩:=h.tk i hi
 rw[ht]at r
 exact⟨R,e,by omega,l,hi,r 0 _ rfl,r 1 _ rfl,(h.bd t (by rw[←ht];exact List.getElem_mem _)).1⟩
theorem Psr.end {L:List TkD} {ao:Option Addr} {cap B i:Nat} {w:World} (h:Psr L ao cap B i w) (hi:L[i]? = none):i=L.length:=by
 have:=List.getElem?_eq_none_iff.1 hi
 have:=h.hi
 omega
theorem is_c {L:List TkD} {ao:Option Addr} {cap B i:Nat} {w:World} (h:Psr L ao cap B i w) (s:List UInt8) (hs:s.length≤9223372036854775806) (b:Bool) (hb:isP L s i=b) :
  Calls Tryz.prog 192 #[.pointer (some ⟨B,0,none⟩),.string ⟨s.toArray⟩] w fun e w'=>e = .returned (.bool b)∧∃n,w.drewN n=w':=by
 unfold isP at hb
 cases hi:L[i]? with
 | none=>
   rw[hi]at hb
   simp only at hb
   subst hb
   have:=h.end hi
   obtain⟨hB,c0,c1,-,-,-,-,-,-,-⟩:=h
   have d1:decide ((i:Int)<(L.length:Int))=false:=by rw[decide_eq_false_iff_not];omega
   have d2:decide (i<L.length)=false:=by rw[decide_eq_false_iff_not];omega
   clear this hi
   go_enter Tryz.func192,Tryz.ntmps192
   go_wp2_with fail
   go_quiet (fail)
   go_wp2_with fail
   go_ret
   exact⟨rfl,_,rfl⟩
 | some t=>
   rw[hi]at hb
   simp only at hb
   obtain⟨R,rfl,hRB,hR,hlt,k0,k1,ht⟩:=h.rd t hi
   obtain⟨hB,c0,c1,-,-,-,-,-,-,-⟩:=h
   have d1:decide ((i:Int)<(L.length:Int))=true:=by rw[decide_eq_true_eq];omega
   have d2:decide (i<L.length)=true:=by rw[decide_eq_true_eq];omega
   have d3:(i:Int)<(L.length:Int):=by omega
   clear hi
   by_cases hk:t.k=2
   ·have k2:(t.k != 2)=false:=by rw[hk];rfl
    have HB:Hid (b=false):=by rw[Hid,←hb,decide_eq_false (by simp[hk])];rfl
    clear hb hk
    go_enter Tryz.func192,Tryz.ntmps192
    go_wp2_with fail
    go_quiet (fail)
    go_wp2_with fail
    go_ret
    exact⟨by rw[HB.out];rfl,_,rfl⟩
   ·have k2:(t.k != 2)=true:=by rw[bne_iff_ne];exact hk
    rw[decide_eq_true hk,Bool.true_and]at hb
    have k3:(t.tx==s)=b:=by rw[←hb];rw[Bool.eq_iff_iff,beq_iff_eq,decide_eq_true_eq]
    clear hb hk
    go_enter Tryz.func192,Tryz.ntmps192
    go_wp2_with fail
    go_quiet (fail)
    go_wp2_with fail
    go_ret
    exact⟨rfl,_,rfl⟩
theorem is_at {L:List TkD} {s:List UInt8} {i:Nat} (h:isP L s i=true):∃t,L[i]? = some t:=by
 unfold isP at h
 cases e:L[i]? with
 | none=>rw[e]at h;cases h
 | some t=>exact⟨t,rfl⟩
theorem is_lt {L:List TkD} {s:List UInt8} {i:Nat} (h:isP L s i=true):i+1≤L.length:=by
 obtain⟨t,ht⟩:=is_at h
 exact(List.getElem?_eq_some_iff.1 ht).1
theorem acc_yes {L:List TkD} {ao:Option Addr} {cap B i:Nat} {w:World} (h:Psr L ao cap B i w) (s:List UInt8) (hs:s.length≤9223372036854775806) (hb:isP L s i=true) :
  Calls Tryz.prog 113 #[.pointer (some ⟨B,0,none⟩),.string ⟨s.toArray⟩] w fun e w'=>e = .returned (.bool true)∧Psr L ao cap B (i+1) w'∧Frm (fun k=>k=B) w w':=by
 have HC:=Lib.hid (is_c h s hs true hb)
 have HG:=fun n=>Lib.hid (h.go ((Ext.refl w).drewN n) (is_lt hb) (x:=(i:Int)+1) (by omega))
 have hi1:=is_lt hb
 have hl:=h.hl
 obtain⟨hB,c0,c1,f1,-,-,-,-,-,-⟩:=h
 have hx1:(i:Int)≤70000:=by omega
 clear hi1 hl hb
 go_enter Tryz.func113,Tryz.ntmps113
 go_wp2_with (first
  | (go_at_call 192;(with_reducible refine HC.out.mono ?_);rintro e w1 ⟨rfl,n,rfl⟩))
 go_ret
 exact⟨rfl,(HG n).out⟩
theorem acc_no {L:List TkD} {ao:Option Addr} {cap B i:Nat} {w:World} (h:Psr L ao cap B i w) (s:List UInt8) (hs:s.length≤9223372036854775806) (hb:isP L s i=false) :
  Calls Tryz.prog 113 #[.pointer (some ⟨B,0,none⟩),.string ⟨s.toArray⟩] w fun e w'=>e = .returned (.bool false)∧∃n,w.drewN n=w':=by
 have HC:=Lib.hid (is_c h s hs false hb)
 clear hb
 go_enter Tryz.func113,Tryz.ntmps113
 go_wp2_with (first
  | (go_at_call 192;(with_reducible refine HC.out.mono ?_);rintro e w1 ⟨rfl,n,rfl⟩))
 go_ret
 exact⟨rfl,_,rfl⟩
theorem exp_c {L:List TkD} {ao:Option Addr} {cap B i:Nat} {w:World} (h:Psr L ao cap B i w) (s:List UInt8) (hs:s.length≤9223372036854775806) :
  Calls Tryz.prog 110 #[.pointer (some ⟨B,0,none⟩),.string ⟨s.toArray⟩] w (PR L ao cap B w (fun(_:Unit) v _=>v = .tuple #[]) (exP L s i)):=by
 cases hi:L[i]? with
 | none=>
   have HB:Hid (exP L s i = .bad 0 0 4):=by rw[Hid];unfold exP isP wrP;rw[hi];rfl
   have HP:=Lib.hid (peek_no h (h.end hi))
   clear hi
   go_enter Tryz.func110,Tryz.ntmps110
   go_wp2_with (first
    | (go_at_call 107;(with_reducible refine HP.out.mono ?_);rintro e w1 ⟨rfl,hE⟩))
   refine⟨rfl,Frm.of_ext hE,?_⟩
   rw[HB.out]
 | some t=>
   have HP:=Lib.hid (peek_ok h t hi)
   cases hb:isP L s i with
   | true=>
     have HB:Hid (exP L s i = .ok () (i+1)):=by rw[Hid];unfold exP;rw[hb];rfl
     have HA:=fun w' (hE:Ext w w')=>Lib.hid (acc_yes (h.ext hE) s hs hb)
     clear hi hb
     go_enter Tryz.func110,Tryz.ntmps110
     go_wp2_with (first
      | (go_at_call 107;(with_reducible refine HP.out.mono ?_);rintro e w1 ⟨rfl,hE⟩)
      | (go_at_call 113;(with_reducible refine(HA _ hE).out.mono ?_);rintro e w2 ⟨rfl,hP2,hF2⟩))
     go_end0
     refine⟨(Frm.of_ext hE).trans hF2,?_⟩
     rw[HB.out]
     exact⟨_,rfl,rfl,hP2⟩
   | false=>
     have HB:Hid (exP L s i = .bad t.ln t.cl 3):=by rw[Hid];unfold exP wrP;rw[hb,hi];rfl
     have HA:=fun w' (hE:Ext w w')=>Lib.hid (acc_no (h.ext hE) s hs hb)
     have HW:=fun w' (hE:Ext w w')=>Lib.hid (wrong_ok 3 (h.ext hE) t hi)
     clear hi hb
     go_enter Tryz.func110,Tryz.ntmps110
     go_wp2_with (first
      | (go_at_call 107;(with_reducible refine HP.out.mono ?_);rintro e w1 ⟨rfl,hE⟩)
      | (go_at_call 113;(with_reducible refine(HA _ hE).out.mono ?_);rintro e w2 ⟨rfl,n,rfl⟩)
      | (go_at_call 106;(with_reducible refine(HW _ (hE.drewN n)).out.mono ?_);rintro e w3 ⟨rfl,hE3⟩))
     refine⟨rfl,Frm.of_ext ((hE.drewN n).trans hE3),?_⟩
     rw[HB.out]
end Go.Proofs.YtlmeinikknoeeaaGreatDoor
