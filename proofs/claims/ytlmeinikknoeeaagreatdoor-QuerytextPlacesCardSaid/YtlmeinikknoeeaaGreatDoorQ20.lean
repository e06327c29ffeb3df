/- Queries: integer.Parse. -/
import Derived.Test.YtlmeinikknoeeaaGreatDoorQ01
import Derived.Test.YtlmeinikknoeeaaGreatDoorQ00
import Derived.Test.YtlmeinikknoeeaaGreatDoorQ19
import Derived.Test.YtlmeinikknoeeaaGreatDoorQ15
import Derived.Test.YtlmeinikknoeeaaGreatDoorQ09
namespace Go.Proofs.YtlmeinikknoeeaaGreatDoor
set_option maxRecDepth 100000
set_option maxHeartbeats 2000000
set_option linter.unusedVariables false
set_option linter.unnecessarySimpa false
set_option linter.unusedSimpArgs false
open Go.RowKit
def sgV (m:Nat) (b:Bool):Int:=if b=true then -(m:Int)else(m:Int)
def sgK (m:Nat) (b:Bool):Bool:=if b=true then decide (m≤9223372036854775808)else decide (m≤9223372036854775807)
theorem signed_c (m:Nat) (b:Bool) (r:Int) (k:Bool) (w:World) (hm:m≤9223372036854775809) (hk:sgK m b=k) (hr:r=if k=true then sgV m b else 0) :
  Calls Tryz.prog 314 #[.int .u64 (m:Int),.bool b] w fun e w'=>e = .returned (.tuple #[.int .i64 r,.bool k])∧w=w':=by
 have HR:=Lib.hid hr
 cases b
 ·by_cases h:m≤9223372036854775807
  ·have e1:decide ((m:Int)≤9223372036854775807)=true:=by rw[decide_eq_true_eq];omega
   have HK:Hid (k=true):=hk.symm.trans (decide_eq_true h)
   clear hk hr
   go_enter Tryz.func314,Tryz.ntmps314
   go_wp2_with fail
   go_ret2
   exact⟨by rw[HR.out,HK.out];rfl,rfl⟩
  ·have e1:decide ((m:Int)≤9223372036854775807)=false:=by rw[decide_eq_false_iff_not];omega
   have HK:Hid (k=false):=hk.symm.trans (decide_eq_false h)
   clear hk hr
   go_enter Tryz.func314,Tryz.ntmps314
   go_wp2_with fail
   go_ret2
   exact⟨by rw[HR.out,HK.out];rfl,rfl⟩
 ·by_cases h:m≤9223372036854775808
  ·have e1:decide ((m:Int)≤9223372036854775808)=true:=by rw[decide_eq_true_eq];omega
   have HK:Hid (k=true):=hk.symm.trans (decide_eq_true h)
   clear hk hr
   go_enter Tryz.func314,Tryz.ntmps314
   go_wp2_with fail
   go_ret2
   have e:wrap64 (IntKind.u64.wrap (-(m:Int)))=sgV m true:=by
    unfold sgV
    rw[if_pos rfl]
    simp only[wrap64,IntKind.wrap,IntKind.bits,IntKind.signed]
    omega
   refine⟨?_,rfl⟩
   rw[HR.out,HK.out,if_pos rfl,←e]
   rfl
  ·have e1:decide ((m:Int)≤9223372036854775808)=false:=by rw[decide_eq_false_iff_not];omega
   have HK:Hid (k=false):=hk.symm.trans (decide_eq_false h)
   clear hk hr
   go_enter Tryz.func314,Tryz.ntmps314
   go_wp2_with fail
   go_ret2
   exact⟨by rw[HR.out,HK.out];rfl,rfl⟩
def inV (b:Bool) (D:List UInt8):Int:=if sgK (val D) b then sgV (val D) b else 0
def inE (b:Bool) (D:List UInt8):Int:=if sgK (val D) b then 0 else 9
theorem inE_no {b:Bool} {D:List UInt8} (h:9223372036854775810≤val D):inV b D=0∧inE b D=9:=by
 have:sgK (val D) b=false:=by
  unfold sgK
  cases b
  ·exact decide_eq_false (by omega)
  ·exact decide_eq_false (by omega)
 unfold inV inE
 rw[this]
 exact⟨rfl,rfl⟩
theorem inp_c (b:Bool) (D:List UInt8) (w:World) (h1:D≠[]) (h2:D.length≤29) (hd:∀c∈D,isDg c=true) :
  Calls Tryz.prog 287 #[.string ⟨((if b then [45]else [])++D).toArray⟩] w fun e w'=>e = .returned (.tuple #[.int .i64 (inV b D),.int .i64 (inE b D)])∧Ext w w':=by
 have hl:D.length≠0:=by simpa using h1
 obtain⟨d0,hd0⟩:∃d,d=D[0]'(by omega):=⟨_,rfl⟩
 have hb0:=bget D 0 (by omega) d0 hd0
 have n45:((d0.toNat:Int)==45)=false:=by
  have:=isDg_iff.1 (hd d0 (by rw[hd0];exact List.getElem_mem _))
  rw[beq_eq_false_iff_ne];omega
 have t0:D.isEmpty=false:=by simpa using h1
 have t1:(D == [])=false:=by simpa using h1
 have t2:decide (0<(D.length:Int))=true:=by rw[decide_eq_true_eq];omega
 have Hd:=Lib.hid hd
 clear hd hd0 h1
 have Hn:=fun(h:9223372036854775810≤val D)=>inE_no (b:=b) h
 obtain⟨V,hV⟩:∃V,V=inV b D:=⟨_,rfl⟩
 obtain⟨E,hE⟩:∃E,E=inE b D:=⟨_,rfl⟩
 rw[←hV,←hE]
 have HV:=Lib.hid hV
 have HE:=Lib.hid hE
 clear hV hE Hn
 cases b
 ·show Calls _ _ #[.string ⟨D.toArray⟩] _ _
  go_enter Tryz.func287,Tryz.ntmps287
  go_wp2_with fail
  go_loop [5,6,29] (fun m o i=>∃(k mg:Nat) (ov:Bool),k≤D.length∧i = .int .i64 (k:Int)∧m = .int .u64 (mg:Int)∧o = .bool ov∧mg≤9223372036854775809∧Hid ((ov=false∧mg=val (D.take k))∨(ov=true∧9223372036854775810≤val (D.take k)))) (fun _ _ i=>D.length-(intOf i).toNat)
  case atStart=>exact⟨0,0,false,by omega,rfl,rfl,rfl,by omega,.inl ⟨rfl,rfl⟩⟩
  case round=>
   obtain⟨k,mg,ov,hk,rfl,rfl,rfl,hmg,hov⟩:=hrel
   by_cases hlt:k<D.length
   ·obtain⟨d,hd⟩:∃d,d=D[k]:=⟨_,rfl⟩
    have hb:=bget D k hlt d hd
    have hdg:=isDg_iff.1 (Hd.out d (by rw[hd];exact List.getElem_mem _))
    have HT:Hid (val (D.take (k+1))=10*val (D.take k)+(d.toNat-48)):=by rw[Hid,hd];exact val_take_succ D k hlt
    have e48:decide ((d.toNat:Int)<48)=false:=by rw[decide_eq_false_iff_not];omega
    have e57:decide ((57:Int)<(d.toNat:Int))=false:=by rw[decide_eq_false_iff_not];omega
    clear hd
    cases ov with
    | false=>
      have hq:Hid (mg=val (D.take k)):=by
       rcases hov.out with h|h
       ·exact h.2
       ·exact absurd h.1 (by simp)
      by_cases hbig:mg≤922337203685477580
      ·have e9:decide ((922337203685477580:Int)<(mg:Int))=false:=by rw[decide_eq_false_iff_not];omega
       clear hov
       go_wp2_with fail
       go_round
       case rel=>exact⟨k+1,10*mg+(d.toNat-48),false,by omega,by go_num,by go_num,rfl,by omega,.inl ⟨rfl,by rw[HT.out,←hq.out]⟩⟩
       case measure=>simp[intOf];omega
      ·have e9:decide ((922337203685477580:Int)<(mg:Int))=true:=by rw[decide_eq_true_eq];omega
       clear hov
       go_wp2_with fail
       go_round
       case rel=>exact⟨k+1,mg,true,by omega,by go_num,rfl,rfl,hmg,.inr ⟨rfl,by rw[HT.out,←hq.out];omega⟩⟩
       case measure=>simp[intOf];omega
    | true=>
      have hq:Hid (9223372036854775810≤val (D.take k)):=by
       rcases hov.out with h|h
       ·exact absurd h.1 (by simp)
       ·exact h.2
      have hn:Hid (9223372036854775810≤val (D.take (k+1))):=by rw[Hid,HT.out];have:=hq.out;omega
      clear hov hq
      by_cases hbig:mg≤922337203685477580
      ·have e9:decide ((922337203685477580:Int)<(mg:Int))=false:=by rw[decide_eq_false_iff_not];omega
       go_wp2_with fail
       go_round
       case rel=>exact⟨k+1,mg,true,by omega,by go_num,rfl,rfl,hmg,.inr ⟨rfl,hn.out⟩⟩
       case measure=>simp[intOf];omega
      ·have e9:decide ((922337203685477580:Int)<(mg:Int))=true:=by rw[decide_eq_true_eq];omega
       go_wp2_with fail
       go_round
       case rel=>exact⟨k+1,mg,true,by omega,by go_num,rfl,rfl,hmg,.inr ⟨rfl,hn.out⟩⟩
       case measure=>simp[intOf];omega
   ·obtain rfl:k=D.length:=by omega
    obtain⟨kk,hkk⟩:∃kk,sgK mg false=kk:=⟨_,rfl⟩
    have Hk:=Lib.hid hkk
    have HO:Hid ((ov=false∧mg=val D)∨(ov=true∧9223372036854775810≤val D)):=by
     have:=hov.out
     rwa [List.take_of_length_le (Nat.le_refl _)]at this
    clear hkk hov
    cases ov with
    | true=>
      have HB:Hid (V=0∧E=9):=by
       rcases HO.out with h|h
       ·exact absurd h.1 (by simp)
       ·have:=inE_no (b:=false) h.2
        exact⟨HV.out.trans this.1,HE.out.trans this.2⟩
      clear HO HV HE
      obtain⟨r,hr⟩:∃r,r=if kk=true then sgV mg false else 0:=⟨_,rfl⟩
      have HR:=Lib.hid hr
      clear hr
      cases kk
      all_goals
       go_wp2_with (go_at_call 314;(with_reducible refine(signed_c mg false r _ _ hmg Hk.out HR.out).mono ?_);rintro x w1 ⟨rfl,rfl⟩)
       go_ret2
       exact⟨by rw[HB.out.1,HB.out.2];rfl,Ext.refl _⟩
    | false=>
      have HB:Hid (V=(if kk=true then sgV mg false else 0)∧E=(if kk=true then 0 else 9)):=by
       rcases HO.out with h|h
       ·rw[Hid,HV.out,HE.out,inV,inE,←h.2,Hk.out];exact⟨rfl,rfl⟩
       ·exact absurd h.1 (by simp)
      obtain⟨r,hr⟩:∃r,r=if kk=true then sgV mg false else 0:=⟨_,rfl⟩
      have HR:=Lib.hid hr
      clear HO HV HE hr
      cases kk
      all_goals
       go_wp2_with (go_at_call 314;(with_reducible refine(signed_c mg false r _ _ hmg Hk.out HR.out).mono ?_);rintro x w1 ⟨rfl,rfl⟩)
       go_ret2
       first
        | exact⟨by rw[HB.out.1,HB.out.2,←HR.out];rfl,Ext.refl _⟩
        | exact⟨by rw[HB.out.1,HB.out.2];rfl,Ext.refl _⟩
 ·have hm:(⟨(45::D).toArray⟩:ByteArray).extract 1 (D.length+1)=⟨D.toArray⟩:=bdrop (45::D) 1
  have hb1:=bget (45::D) 0 (by simp) 45 rfl
  show Calls _ _ #[.string ⟨(45::D).toArray⟩] _ _
  go_enter Tryz.func287,Tryz.ntmps287
  go_wp2_with fail
  go_loop [5,6,29] (fun m o i=>∃(k mg:Nat) (ov:Bool),k≤D.length∧i = .int .i64 (k:Int)∧m = .int .u64 (mg:Int)∧o = .bool ov∧mg≤9223372036854775809∧Hid ((ov=false∧mg=val (D.take k))∨(ov=true∧9223372036854775810≤val (D.take k)))) (fun _ _ i=>D.length-(intOf i).toNat)
  case atStart=>exact⟨0,0,false,by omega,rfl,rfl,rfl,by omega,.inl ⟨rfl,rfl⟩⟩
  case round=>
   obtain⟨k,mg,ov,hk,rfl,rfl,rfl,hmg,hov⟩:=hrel
   by_cases hlt:k<D.length
   ·obtain⟨d,hd⟩:∃d,d=D[k]:=⟨_,rfl⟩
    have hb:=bget D k hlt d hd
    have hdg:=isDg_iff.1 (Hd.out d (by rw[hd];exact List.getElem_mem _))
    have HT:Hid (val (D.take (k+1))=10*val (D.take k)+(d.toNat-48)):=by rw[Hid,hd];exact val_take_succ D k hlt
    have e48:decide ((d.toNat:Int)<48)=false:=by rw[decide_eq_false_iff_not];omega
    have e57:decide ((57:Int)<(d.toNat:Int))=false:=by rw[decide_eq_false_iff_not];omega
    clear hd
    cases ov with
    | false=>
      have hq:Hid (mg=val (D.take k)):=by
       rcases hov.out with h|h
       ·exact h.2
       ·exact absurd h.1 (by simp)
      by_cases hbig:mg≤922337203685477580
      ·have e9:decide ((922337203685477580:Int)<(mg:Int))=false:=by rw[decide_eq_false_iff_not];omega
       clear hov
       go_wp2_with fail
       go_round
       case rel=>exact⟨k+1,10*mg+(d.toNat-48),false,by omega,by go_num,by go_num,rfl,by omega,.inl ⟨rfl,by rw[HT.out,←hq.out]⟩⟩
       case measure=>simp[intOf];omega
      ·have e9:decide ((922337203685477580:Int)<(mg:Int))=true:=by rw[decide_eq_true_eq];omega
       clear hov
       go_wp2_with fail
       go_round
       case rel=>exact⟨k+1,mg,true,by omega,by go_num,rfl,rfl,hmg,.inr ⟨rfl,by rw[HT.out,←hq.out];omega⟩⟩
       case measure=>simp[intOf];omega
    | true=>
      have hq:Hid (9223372036854775810≤val (D.take k)):=by
       rcases hov.out with h|h
       ·exact absurd h.1 (by simp)
       ·exact h.2
      have hn:Hid (9223372036854775810≤val (D.take (k+1))):=by rw[Hid,HT.out];have:=hq.out;omega
      clear hov hq
      by_cases hbig:mg≤922337203685477580
      ·have e9:decide ((922337203685477580:Int)<(mg:Int))=false:=by rw[decide_eq_false_iff_not];omega
       go_wp2_with fail
       go_round
       case rel=>exact⟨k+1,mg,true,by omega,by go_num,rfl,rfl,hmg,.inr ⟨rfl,hn.out⟩⟩
       case measure=>simp[intOf];omega
      ·have e9:decide ((922337203685477580:Int)<(mg:Int))=true:=by rw[decide_eq_true_eq];omega
       go_wp2_with fail
       go_round
       case rel=>exact⟨k+1,mg,true,by omega,by go_num,rfl,rfl,hmg,.inr ⟨rfl,hn.out⟩⟩
       case measure=>simp[intOf];omega
   ·obtain rfl:k=D.length:=by omega
    obtain⟨kk,hkk⟩:∃kk,sgK mg true=kk:=⟨_,rfl⟩
    have Hk:=Lib.hid hkk
    have HO:Hid ((ov=false∧mg=val D)∨(ov=true∧9223372036854775810≤val D)):=by
     have:=hov.out
     rwa [List.take_of_length_le (Nat.le_refl _)]at this
    clear hkk hov
    cases ov with
    | true=>
      have HB:Hid (V=0∧E=9):=by
       rcases HO.out with h|h
       ·exact absurd h.1 (by simp)
       ·have:=inE_no (b:=true) h.2
        exact⟨HV.out.trans this.1,HE.out.trans this.2⟩
      clear HO HV HE
      obtain⟨r,hr⟩:∃r,r=if kk=true then sgV mg true else 0:=⟨_,rfl⟩
      have HR:=Lib.hid hr
      clear hr
      cases kk
      all_goals
       go_wp2_with (go_at_call 314;(with_reducible refine(signed_c mg true r _ _ hmg Hk.out HR.out).mono ?_);rintro x w1 ⟨rfl,rfl⟩)
       go_ret2
       exact⟨by rw[HB.out.1,HB.out.2];rfl,Ext.refl _⟩
    | false=>
      have HB:Hid (V=(if kk=true then sgV mg true else 0)∧E=(if kk=true then 0 else 9)):=by
       rcases HO.out with h|h
       ·rw[Hid,HV.out,HE.out,inV,inE,←h.2,Hk.out];exact⟨rfl,rfl⟩
       ·exact absurd h.1 (by simp)
      obtain⟨r,hr⟩:∃r,r=if kk=true then sgV mg true else 0:=⟨_,rfl⟩
      have HR:=Lib.hid hr
      clear HO HV HE hr
      cases kk
      all_goals
       go_wp2_with (go_at_call 314;(with_reducible refine(signed_c mg true r _ _ hmg Hk.out HR.out).mono ?_);rintro x w1 ⟨rfl,rfl⟩)
       go_ret2
       first
        | exact⟨by rw[HB.out.1,HB.out.2,←HR.out];rfl,Ext.refl _⟩
        | exact⟨by rw[HB.out.1,HB.out.2];rfl,Ext.refl _⟩
end Go.Proofs.YtlmeinikknoeeaaGreatDoor
namespace Go.Proofs.YtlmeinikknoeeaaGreatDoor
set_option linter.unusedVariables false
set_option linter.unnecessarySimpa false
set_option linter.unusedSimpArgs false
open Go.RowKit
def nbC (T:List UInt8) (vk vn ln cl:Int):List Value:=[.int .i64 2,.string ⟨T.toArray⟩,.int .i64 vk,.int .i64 vn,.string ⟨#[]⟩,.int .i64 ln,.int .i64 cl]
def NuP (T:List UInt8) (ln cl:Int) (w:World) (r:Sum Int ValD) (e:Ending) (w':World):Prop:=
 Ext w w'∧match r with
  | .inr v=>e = .returned (.tuple #[.agg (tkC ⟨2,T,v,ln,cl⟩).toArray,.int .i64 0])
  | .inl er=>∃vk vn,e = .returned (.tuple #[.agg (nbC T vk vn ln cl).toArray,.int .i64 er])
theorem NuP.yes {T:List UInt8} {ln cl:Int} {w:World} {r:Sum Int ValD} {k n:Int} {w':World} (h:r = .inr ⟨k,n,[]⟩) (hE:Ext w w'):NuP T ln cl w r (.returned (.tuple #[.agg (nbC T k n ln cl).toArray,.int .i64 0])) w':=by
 subst h
 exact⟨hE,rfl⟩
theorem NuP.no {T:List UInt8} {ln cl:Int} {w:World} {r:Sum Int ValD} {k n er:Int} {w':World} (h:r = .inl er) (hE:Ext w w'):NuP T ln cl w r (.returned (.tuple #[.agg (nbC T k n ln cl).toArray,.int .i64 er])) w':=by
 subst h
 exact⟨hE,k,n,rfl⟩
def ndR (n:Nat):Bool:=decide (n<48)||decide (57<n)
theorem ndR_any (D:List UInt8):D.any (fun c=>ndR c.toNat) = !(D.all isDg):=by
 induction D with
 | nil=>rfl
 | cons c D ih=>
   rw[List.any_cons,List.all_cons,ih,Bool.not_and]
   congr 1
   unfold ndR isDg
   by_cases h:48≤c.toNat∧c.toNat≤57
   ·rw[decide_eq_true h,decide_eq_false (by omega),decide_eq_false (by omega)];rfl
   ·rw[decide_eq_false h]
    by_cases h2:c.toNat<48
    ·rw[decide_eq_true h2];rfl
    ·rw[decide_eq_false h2,decide_eq_true (by omega)];rfl
set_option maxRecDepth 100000 in
set_option maxHeartbeats 1000000 in
theorem nod_c (x:Nat) (w:World):Calls Tryz.prog 285 #[.int .i32 (x:Int)] w fun e w'=>e = .returned (.bool (ndR x))∧w=w':=by
 unfold ndR
 by_cases h:x<48
 ·have e1:decide ((x:Int)<48)=true:=by rw[decide_eq_true_eq];omega
  have H:Hid ((decide (x<48)||decide (57<x))=true):=by rw[Hid,decide_eq_true h];rfl
  obtain⟨b,hb⟩:∃b,b=(decide (x<48)||decide (57<x)):=⟨_,rfl⟩
  rw[←hb]
  have HB:=Lib.hid hb
  clear hb
  go_enter Tryz.func285,Tryz.ntmps285
  go_wp2_with fail
  go_ret
  exact⟨by rw[HB.out,H.out];rfl,rfl⟩
 ·have e1:decide ((x:Int)<48)=false:=by rw[decide_eq_false_iff_not];omega
  obtain⟨b,hb⟩:∃b,b=(decide (x<48)||decide (57<x)):=⟨_,rfl⟩
  rw[←hb]
  have HB:=Lib.hid hb
  by_cases h2:57<x
  ·have e2:decide ((57:Int)<(x:Int))=true:=by rw[decide_eq_true_eq];omega
   have H:Hid (b=true):=by rw[Hid,hb,decide_eq_true h2];simp
   clear hb
   go_enter Tryz.func285,Tryz.ntmps285
   go_wp2_with fail
   go_ret
   exact⟨by rw[H.out];rfl,rfl⟩
  ·have e2:decide ((57:Int)<(x:Int))=false:=by rw[decide_eq_false_iff_not];omega
   have H:Hid (b=false):=by rw[Hid,hb,decide_eq_false h,decide_eq_false h2];rfl
   clear hb
   go_enter Tryz.func285,Tryz.ntmps285
   go_wp2_with fail
   go_ret
   exact⟨by rw[H.out];rfl,rfl⟩
theorem ndR_hi:∀r,128≤r→ndR r=true:=fun r h=>by unfold ndR;rw[decide_eq_true (p:=57<r) (by omega)];simp
theorem cnd_c (D:List UInt8) (b:Bool) (w:World) (h:(!(D.all isDg))=b):Calls Tryz.prog 258 #[.string ⟨D.toArray⟩,.func (.func 285) #[] #[]] w fun e w'=>e = .returned (.bool b)∧Ext w w':=by
 rw[←h,←ndR_any]
 exact cfun_c _ ndR (fun _ _=>by kernel_rfl) ndR_hi nod_c D w
theorem tp_c (T:List UInt8) (w:World):Calls Tryz.prog 284 #[.string ⟨T.toArray⟩,.string ⟨#[45]⟩] w fun e w'=>e = .returned (.string ⟨(dgQ T).toArray⟩)∧w=w':=by
 refine(Tryz.strings_TrimPrefix ⟨T.toArray⟩ ⟨#[45]⟩ w).mono ?_
 rintro e w' ⟨rfl,rfl⟩
 refine⟨?_,rfl⟩
 have:Lib.trimPrefix (⟨T.toArray⟩:ByteArray).data.toList (⟨#[45]⟩:ByteArray).data.toList=dgQ T:=by
  show Lib.trimPrefix T [45]=dgQ T
  unfold Lib.trimPrefix Lib.hasPrefix dgQ sgQ
  cases T with
  | nil=>rfl
  | cons c r=>
    show(if (((45:UInt8)==c)&&([]:List UInt8).isPrefixOf r)=true then _ else _)=_
    rw[show ([]:List UInt8).isPrefixOf r=true by cases r<;>rfl,Bool.and_true]
    by_cases e:(45:UInt8)=c
    ·subst e;rfl
    ·rw[if_neg (by simpa using e),if_neg (by simp;exact fun q=>e q.symm)]
 rw[this]
def tzQ (D:List UInt8):List UInt8:=D.dropWhile (· == 48)
theorem tl_c (D:List UInt8) (w:World):Calls Tryz.prog 286 #[.string ⟨D.toArray⟩,.string ⟨#[48]⟩] w fun e w'=>e = .returned (.string ⟨(tzQ D).toArray⟩)∧w=w':=by
 refine(Tryz.strings_TrimLeft_one ⟨D.toArray⟩ 48 (by decide) w).mono ?_
 rintro e w' ⟨rfl,rfl⟩
 exact⟨rfl,rfl⟩
theorem tz_val (D:List UInt8):val (tzQ D)=val D:=by
 induction D with
 | nil=>rfl
 | cons c D ih=>
   unfold tzQ
   rw[List.dropWhile_cons]
   split
   ·rename_i h
    have e:c=48:=by simpa using h
    subst e
    exact ih.trans (by unfold val;rfl)
   ·rfl
theorem tz_mem {D:List UInt8} {c:UInt8} (h:c∈tzQ D):c∈D:=(List.dropWhile_sublist _).subset h
theorem val_ge (c:UInt8) (l:List UInt8):(c.toNat-48)*10 ^ l.length≤val (c::l):=by
 refine snoc_ind (P:=fun l=>(c.toNat-48)*10 ^ l.length≤val (c::l)) ?_ ?_ l
 ·simp[val]
 ·intro l d ih
  rw[←List.cons_append,val_snoc,List.length_append,List.length_singleton,Nat.pow_succ,←Nat.mul_assoc]
  omega
theorem tz_big {D:List UInt8} (hd:∀c∈D,isDg c=true) (h:19<(tzQ D).length):10000000000000000000≤val D:=by
 rw[←tz_val]
 cases hz:tzQ D with
 | nil=>rw[hz]at h;simp at h
 | cons c l=>
   rw[hz]at h
   have hc:(c==48)=false:=by
    have:=List.head?_dropWhile_not (· == 48) D
    rw[show D.dropWhile (· == 48)=c::l from hz]at this
    simpa using this
   have hm:c∈D:=tz_mem (by rw[hz];simp)
   have:=isDg_iff.1 (hd c hm)
   have h2:c.toNat≠48:=fun q=>by
    have:c=48:=UInt8.toNat_inj.1 q
    rw[this]at hc;exact absurd hc (by decide)
   have:=val_ge c l
   have h3:10 ^ 19≤10 ^ l.length:=Nat.pow_le_pow_right (by decide) (by simp at h;omega)
   have h4:1*10 ^ l.length≤(c.toNat-48)*10 ^ l.length:=Nat.mul_le_mul_right _ (by omega)
   omega
end Go.Proofs.YtlmeinikknoeeaaGreatDoor
