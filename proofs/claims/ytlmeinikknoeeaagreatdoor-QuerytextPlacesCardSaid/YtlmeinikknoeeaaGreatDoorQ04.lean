/- Queries: the parser in memory; a name, names, an instant. -/
import Derived.Test.YtlmeinikknoeeaaGreatDoorQ03
namespace Go.Proofs.YtlmeinikknoeeaaGreatDoor
set_option maxRecDepth 100000
set_option maxHeartbeats 1000000
set_option linter.unusedVariables false
set_option linter.unnecessarySimpa false
set_option linter.unusedSimpArgs false
open Go.RowKit
theorem Psr.bdt {L:List TkD} {ao:Option Addr} {cap B i:Nat} {w:World} (h:Psr L ao cap B i w) {t:TkD} (hi:L[i]? = some t):Bs t.tx∧Bs t.v.s∧Bi t.k∧Bi t.v.k∧Bi t.v.n:=h.bd t (List.mem_of_getElem? hi)
theorem Psr.lt2 {L:List TkD} {ao:Option Addr} {cap B i:Nat} {w:World} (h:Psr L ao cap B i w) {t:TkD} (hi:L[i]? = some t):i+1≤L.length:=(List.getElem?_eq_some_iff.1 hi).1
theorem pname_c {L:List TkD} {ao:Option Addr} {cap B i:Nat} {w:World} (h:Psr L ao cap B i w) :
  Calls Tryz.prog 109 #[.pointer (some ⟨B,0,none⟩)] w (PR L ao cap B w (fun(s:List UInt8) v _=>v = .string ⟨s.toArray⟩) (naP L i)):=by
 cases hi:L[i]? with
 | none=>
   have HB:Hid (naP L i = .bad 0 0 4):=by rw[Hid];unfold naP pkP;rw[hi];rfl
   have HP:=Lib.hid (peek_no h (h.end hi))
   clear hi
   go_enter Tryz.func109,Tryz.ntmps109
   go_wp2_with (first
    | (go_at_call 107;(with_reducible refine HP.out.mono ?_);rintro e w1 ⟨rfl,hE⟩))
   refine⟨rfl,Frm.of_ext hE,?_⟩
   rw[HB.out]
 | some t=>
   have HP:=Lib.hid (peek_ok h t hi)
   have hs:=(h.bdt hi).1
   unfold Bs at hs
   by_cases hk:t.k=1
   ·have hk1:(t.k != 1)=false:=by rw[hk];rfl
    cases hq:nmQ t.tx with
    | true=>
      have HB:Hid (naP L i = .ok t.tx (i+1)):=by rw[Hid];unfold naP pkP;rw[hi];exact if_pos ⟨hk,hq⟩
      have HN:=fun w' (hE:Ext w w')=>Lib.hid (qname_c t.tx true w' hs (h.ext hE).rv.rsv hq)
      have HG:=fun w' (hE:Ext w w')=>Lib.hid (h.go hE (h.lt2 hi) (x:=(i:Int)+1) (by omega))
      have HS:=fun w' (hE:Ext w w')=>Lib.hid (h.ext hE)
      have hx1:(i:Int)≤70000:=by have:=h.lt2 hi;have:=h.hl;omega
      have hBl:=h.hB
      clear hi hq hk
      go_enter Tryz.func109,Tryz.ntmps109
      go_wp2_with (first
       | (go_at_call 107;(with_reducible refine HP.out.mono ?_);rintro e w1 ⟨rfl,hE⟩;have c1:=(HS _ hE).out.c1;have f1:=(HS _ hE).out.f1;have hB1:=(HS _ hE).out.hB)
       | (go_at_call 169;(with_reducible refine(HN _ (by(repeat (with_reducible (first|assumption|exact Ext.refl _|refine Ext.alloc ?_ _|refine Ext.setCell ?_ (by simp) _|refine Ext.setCell ?_ (by simp;omega) _|refine Ext.drewN ?_ _|refine Ext.drew ?_))))).out.mono ?_);rintro e w2 ⟨rfl,rfl⟩))
      go_ret
      exact PR.fin HB.out (HG _ hE).out (by(repeat (with_reducible (first|assumption|exact Ext.refl _|refine Ext.alloc ?_ _|refine Ext.setCell ?_ (by simp) _|refine Ext.setCell ?_ (by simp;omega) _|refine Ext.drewN ?_ _|refine Ext.drew ?_)))) rfl
    | false=>
      have HB:Hid (naP L i = .bad t.ln t.cl 3):=by rw[Hid];unfold naP;rw[pkP_at hi];exact(if_neg (fun q=>by rw[hq]at q;exact absurd q.2 (by simp))).trans (wrP_at hi 3)
      have HN:=fun w' (hE:Ext w w')=>Lib.hid (qname_c t.tx false w' hs (h.ext hE).rv.rsv hq)
      have HW:=fun w' (hE:Ext w w')=>Lib.hid (wrong_ok 3 (h.ext hE) t hi)
      clear hi hq hk
      go_enter Tryz.func109,Tryz.ntmps109
      go_wp2_with (first
       | (go_at_call 107;(with_reducible refine HP.out.mono ?_);rintro e w1 ⟨rfl,hE⟩)
       | (go_at_call 169;(with_reducible refine(HN _ (by(repeat (with_reducible (first|assumption|exact Ext.refl _|refine Ext.alloc ?_ _|refine Ext.setCell ?_ (by simp) _|refine Ext.setCell ?_ (by simp;omega) _|refine Ext.drewN ?_ _|refine Ext.drew ?_))))).out.mono ?_);rintro e w2 ⟨rfl,rfl⟩)
       | (go_at_call 106;(with_reducible refine(HW _ (by(repeat (with_reducible (first|assumption|exact Ext.refl _|refine Ext.alloc ?_ _|refine Ext.setCell ?_ (by simp) _|refine Ext.setCell ?_ (by simp;omega) _|refine Ext.drewN ?_ _|refine Ext.drew ?_))))).out.mono ?_);rintro e w3 ⟨rfl,hE3⟩))
      exact⟨rfl,PR.no HB.out (Frm.of_ext (Ext.trans (by(repeat (with_reducible (first|assumption|exact Ext.refl _|refine Ext.alloc ?_ _|refine Ext.setCell ?_ (by simp) _|refine Ext.setCell ?_ (by simp;omega) _|refine Ext.drewN ?_ _|refine Ext.drew ?_)))) hE3))⟩
   ·have HB:Hid (naP L i = .bad t.ln t.cl 3):=by rw[Hid];unfold naP;rw[pkP_at hi];exact(if_neg (fun q=>hk q.1)).trans (wrP_at hi 3)
    have hk1:(t.k != 1)=true:=by rw[bne_iff_ne];exact hk
    have HW:=fun w' (hE:Ext w w')=>Lib.hid (wrong_ok 3 (h.ext hE) t hi)
    clear hi hk
    go_enter Tryz.func109,Tryz.ntmps109
    go_wp2_with (first
     | (go_at_call 107;(with_reducible refine HP.out.mono ?_);rintro e w1 ⟨rfl,hE⟩)
     | (go_at_call 106;(with_reducible refine(HW _ (by(repeat (with_reducible (first|assumption|exact Ext.refl _|refine Ext.alloc ?_ _|refine Ext.setCell ?_ (by simp) _|refine Ext.setCell ?_ (by simp;omega) _|refine Ext.drewN ?_ _|refine Ext.drew ?_))))).out.mono ?_);rintro e w3 ⟨rfl,hE3⟩))
    exact⟨rfl,PR.no HB.out (Frm.of_ext (Ext.trans (by(repeat (with_reducible (first|assumption|exact Ext.refl _|refine Ext.alloc ?_ _|refine Ext.setCell ?_ (by simp) _|refine Ext.setCell ?_ (by simp;omega) _|refine Ext.drewN ?_ _|refine Ext.drew ?_)))) hE3))⟩
theorem ptime_c {L:List TkD} {ao:Option Addr} {cap B i:Nat} {w:World} (h:Psr L ao cap B i w) :
  Calls Tryz.prog 114 #[.pointer (some ⟨B,0,none⟩)] w (PR L ao cap B w (fun(n:Int) v _=>v = .int .i64 n) (tmP L i)):=by
 cases hi:L[i]? with
 | none=>
   have HB:Hid (tmP L i = .bad 0 0 4):=by rw[Hid];unfold tmP pkP;rw[hi];rfl
   have HP:=Lib.hid (peek_no h (h.end hi))
   clear hi
   go_enter Tryz.func114,Tryz.ntmps114
   go_wp2_with (first
    | (go_at_call 107;(with_reducible refine HP.out.mono ?_);rintro e w1 ⟨rfl,hE⟩))
   exact⟨rfl,PR.no HB.out (Frm.of_ext hE)⟩
 | some t=>
   have HP:=Lib.hid (peek_ok h t hi)
   cases hf:isP L wForever i with
   | true=>
     have HB:Hid (tmP L i = .ok 253402300800 (i+1)):=by rw[Hid];unfold tmP pkP;rw[hi];exact if_pos hf
     have HA:=fun w' (hE:Ext w w')=>Lib.hid (acc_yes (h.ext hE) wForever (by decide) hf)
     clear hi hf
     go_enter Tryz.func114,Tryz.ntmps114
     go_wp2_with (first
      | (go_at_call 107;(with_reducible refine HP.out.mono ?_);rintro e w1 ⟨rfl,hE⟩)
      | (go_at_call 113;(with_reducible refine(HA _ (by(repeat (with_reducible (first|assumption|exact Ext.refl _|refine Ext.alloc ?_ _|refine Ext.setCell ?_ (by simp) _|refine Ext.setCell ?_ (by simp;omega) _|refine Ext.drewN ?_ _|refine Ext.drew ?_))))).out.mono ?_);rintro e w2 ⟨rfl,hP2,hF2⟩))
     go_ret
     exact PR.fin HB.out ⟨hP2,(Frm.of_ext (by(repeat (with_reducible (first|assumption|exact Ext.refl _|refine Ext.alloc ?_ _|refine Ext.setCell ?_ (by simp) _|refine Ext.setCell ?_ (by simp;omega) _|refine Ext.drewN ?_ _|refine Ext.drew ?_))))).trans hF2⟩ (Ext.refl _) rfl
   | false=>
     have HA:=fun w' (hE:Ext w w')=>Lib.hid (acc_no (h.ext hE) wForever (by decide) hf)
     by_cases hk:t.k=2
     ·have k1:(t.k != 2)=false:=by rw[hk];rfl
      by_cases hv:t.v.k=4
      ·have k2:(t.v.k != 4)=false:=by rw[hv];rfl
       have HB:Hid (tmP L i = .ok t.v.n (i+1)):=by rw[Hid];unfold tmP pkP;rw[hi];show(if _ then _ else if _ then _ else _)=_;rw[hf,if_neg (by simp),if_pos ⟨hk,hv⟩]
       have HG:=fun w' (hE:Ext w w')=>Lib.hid (h.go hE (h.lt2 hi) (x:=(i:Int)+1) (by omega))
       have HS:=fun w' (hE:Ext w w')=>Lib.hid (h.ext hE)
       have hx1:(i:Int)≤70000:=by have:=h.lt2 hi;have:=h.hl;omega
       have hBl:=h.hB
       clear hi hf hk hv
       go_enter Tryz.func114,Tryz.ntmps114
       go_wp2_with (first
        | (go_at_call 107;(with_reducible refine HP.out.mono ?_);rintro e w1 ⟨rfl,hE⟩;have c1:=(HS _ hE).out.c1;have f1:=(HS _ hE).out.f1;have hB1:=(HS _ hE).out.hB)
        | (go_at_call 113;(with_reducible refine(HA _ (by(repeat (with_reducible (first|assumption|exact Ext.refl _|refine Ext.alloc ?_ _|refine Ext.setCell ?_ (by simp) _|refine Ext.setCell ?_ (by simp;omega) _|refine Ext.drewN ?_ _|refine Ext.drew ?_))))).out.mono ?_);rintro e w2 ⟨rfl,n,rfl⟩))
       go_ret
       exact PR.fin HB.out (HG _ (by(repeat (with_reducible (first|assumption|exact Ext.refl _|refine Ext.alloc ?_ _|refine Ext.setCell ?_ (by simp) _|refine Ext.setCell ?_ (by simp;omega) _|refine Ext.drewN ?_ _|refine Ext.drew ?_))))).out (Ext.refl _) rfl
      ·have k2:(t.v.k != 4)=true:=by rw[bne_iff_ne];exact hv
       have HB:Hid (tmP L i = .bad t.ln t.cl 3):=by rw[Hid];unfold tmP;rw[pkP_at hi];exact(if_neg (by rw[hf];simp)).trans ((if_neg (fun q=>hv q.2)).trans (wrP_at hi 3))
       have HW:=fun w' (hE:Ext w w')=>Lib.hid (wrong_ok 3 (h.ext hE) t hi)
       clear hi hf hk hv
       go_enter Tryz.func114,Tryz.ntmps114
       go_wp2_with (first
        | (go_at_call 107;(with_reducible refine HP.out.mono ?_);rintro e w1 ⟨rfl,hE⟩)
        | (go_at_call 113;(with_reducible refine(HA _ (by(repeat (with_reducible (first|assumption|exact Ext.refl _|refine Ext.alloc ?_ _|refine Ext.setCell ?_ (by simp) _|refine Ext.setCell ?_ (by simp;omega) _|refine Ext.drewN ?_ _|refine Ext.drew ?_))))).out.mono ?_);rintro e w2 ⟨rfl,n,rfl⟩)
        | (go_at_call 106;(with_reducible refine(HW _ (by(repeat (with_reducible (first|assumption|exact Ext.refl _|refine Ext.alloc ?_ _|refine Ext.setCell ?_ (by simp) _|refine Ext.setCell ?_ (by simp;omega) _|refine Ext.drewN ?_ _|refine Ext.drew ?_))))).out.mono ?_);rintro e w3 ⟨rfl,hE3⟩))
       exact⟨rfl,PR.no HB.out (Frm.of_ext (Ext.trans (by(repeat (with_reducible (first|assumption|exact Ext.refl _|refine Ext.alloc ?_ _|refine Ext.setCell ?_ (by simp) _|refine Ext.setCell ?_ (by simp;omega) _|refine Ext.drewN ?_ _|refine Ext.drew ?_)))) hE3))⟩
     ·have k1:(t.k != 2)=true:=by rw[bne_iff_ne];exact hk
      have HB:Hid (tmP L i = .bad t.ln t.cl 3):=by rw[Hid];unfold tmP;rw[pkP_at hi];exact(if_neg (by rw[hf];simp)).trans ((if_neg (fun q=>hk q.1)).trans (wrP_at hi 3))
      have HW:=fun w' (hE:Ext w w')=>Lib.hid (wrong_ok 3 (h.ext hE) t hi)
      clear hi hf hk
      go_enter Tryz.func114,Tryz.ntmps114
      go_wp2_with (first
       | (go_at_call 107;(with_reducible refine HP.out.mono ?_);rintro e w1 ⟨rfl,hE⟩)
       | (go_at_call 113;(with_reducible refine(HA _ (by(repeat (with_reducible (first|assumption|exact Ext.refl _|refine Ext.alloc ?_ _|refine Ext.setCell ?_ (by simp) _|refine Ext.setCell ?_ (by simp;omega) _|refine Ext.drewN ?_ _|refine Ext.drew ?_))))).out.mono ?_);rintro e w2 ⟨rfl,n,rfl⟩)
       | (go_at_call 106;(with_reducible refine(HW _ (by(repeat (with_reducible (first|assumption|exact Ext.refl _|refine Ext.alloc ?_ _|refine Ext.setCell ?_ (by simp) _|refine Ext.setCell ?_ (by simp;omega) _|refine Ext.drewN ?_ _|refine Ext.drew ?_))))).out.mono ?_);rintro e w3 ⟨rfl,hE3⟩))
      exact⟨rfl,PR.no HB.out (Frm.of_ext (Ext.trans (by(repeat (with_reducible (first|assumption|exact Ext.refl _|refine Ext.alloc ?_ _|refine Ext.setCell ?_ (by simp) _|refine Ext.setCell ?_ (by simp;omega) _|refine Ext.drewN ?_ _|refine Ext.drew ?_)))) hE3))⟩
end Go.Proofs.YtlmeinikknoeeaaGreatDoor
