/- The walk of the reference's Parse of moments. -/
import Derived.Test.YtlmeinikknoeeaaGreatDoorQ14
import Derived.Test.YtlmeinikknoeeaaGreatDoorQ12
import Derived.Test.YtlmeinikknoeeaaGreatDoorQ13
import Derived.Test.YtlmeinikknoeeaaGreatDoorQ01
import Derived.Deep.RegionWith
import Derived.Deep.DeepCutAuto
import Derived.Test.YtlmeinikknoeeaaGreatDoorShelf
import Derived.Laws.RangeAny
namespace Go.Proofs.YtlmeinikknoeeaaGreatDoor
set_option linter.unusedVariables false
set_option linter.unnecessarySimpa false
set_option linter.unusedSimpArgs false
open Go.RowKit
end Go.Proofs.YtlmeinikknoeeaaGreatDoor
namespace Go.Proofs.YtlmeinikknoeeaaGreatDoor
set_option linter.unusedVariables false
set_option linter.unnecessarySimpa false
set_option linter.unusedSimpArgs false
open Go.RowKit
theorem idxF_from (p:Nat→Bool) (hp:∀r,128≤r→p r=true) (s:List UInt8):∀(f pos:Nat),s.length≤pos+f→decide (0≤Lib.idxFuncFrom p true ⟨s.toArray⟩ f pos)=(s.drop pos).any (fun c=>p c.toNat)
 | 0,pos,h=>by rw[List.drop_eq_nil_of_le (by omega)];rfl
 | f+1,pos,h=>by
   unfold Lib.idxFuncFrom
   have hz:(⟨s.toArray⟩:ByteArray).size=s.length:=by simp[ByteArray.size]
   by_cases hlt:pos<s.length
   ·have hg:=bget s pos hlt _ rfl
    rw[if_pos (by rw[hz];exact hlt),List.drop_eq_getElem_cons hlt,List.any_cons]
    by_cases ha:(s[pos]).toNat<128
    ·have hd:=decode_ascii ⟨s.toArray⟩ pos (by rw[hz];exact hlt) (by rw[hg];exact ha)
     rw[hg]at hd
     rw[hd]
     cases hq:p s[pos].toNat with
     | true=>simp
     | false=>
       rw[if_neg (by simp)]
       rw[Bool.false_or]
       exact idxF_from p hp s f (pos+1) (by omega)
    ·have hd:=decode_high ⟨s.toArray⟩ pos (by rw[hz];exact hlt) (by rw[hg];omega)
     rw[if_pos (hp _ hd.1),hp _ (by omega)]
     simp
   ·rw[if_neg (by rw[hz];exact hlt),List.drop_eq_nil_of_le (by omega)]
    rfl
theorem idxF_any (p:Nat→Bool) (hp:∀r,128≤r→p r=true) (s:List UInt8):decide (0≤Lib.idxFunc p true ⟨s.toArray⟩)=s.any (fun c=>p c.toNat):=by
 unfold Lib.idxFunc
 have:=idxF_from p hp s s.length 0 (by omega)
 rw[List.drop_zero]at this
 rw[←this]
 simp[ByteArray.size]
theorem cfun_c (g:FuncId) (p:Nat→Bool) (eg:∀args w,(callFunc g args).run Tryz.prog w = .ok (.enter g args) w) (hp:∀r,128≤r→p r=true) (hq:∀(x:Nat) (W:World),Calls Tryz.prog g #[.int .i32 (x:Int)] W fun e w'=>e = .returned (.bool (p x))∧W=w') (s:List UInt8) (w:World) :
  Calls Tryz.prog 258 #[.string ⟨s.toArray⟩,.func (.func g) #[] #[]] w fun e w'=>e = .returned (.bool (s.any (fun c=>p c.toNat)))∧Ext w w':=by
 refine(Tryz.strings_ContainsFunc g #[] eg p ⟨s.toArray⟩ w (fun W x _=>(hq x W).mono fun e w' h=>⟨h.1,0,h.2.symm⟩)).mono ?_
 rintro e w' ⟨rfl,hB⟩
 exact⟨by rw[idxF_any p hp s],⟨hB.os,hB.tape,hB.output,hB.size,hB.block⟩⟩
theorem form_intQ {s:List UInt8} (h:formL s):∃y m d hh mi se:Int,(0≤y∧y≤9999∧0≤m∧m≤99∧0≤d∧d≤99∧0≤hh∧hh≤99∧0≤mi∧mi≤99∧0≤se∧se≤99)∧s=mtx y m d hh mi se:=by
 obtain⟨y,m,d,hh,mi,se,a,b,c,e,f,g,rfl⟩:=form_mtx h
 exact⟨y,m,d,hh,mi,se,by omega,rfl⟩
theorem vldQ_000:¬(vldB 0 0 0=true∧tmB 0 0 0=true):=fun h=>by
 have:=vld_parts h.1
 omega
def momQ (y m d h mi s:Int):Value:=.agg #[.int .i64 y,.int .i64 m,.int .i64 d,.int .i64 h,.int .i64 mi,.int .i64 s]
theorem cparseQ_c (s:List UInt8) (w:World) (hs:s.length≤5000000) :
  Calls Tryz.prog 283 #[.string ⟨s.toArray⟩] w fun e w'=>(∃(y m d h mi se er:Int),e = .returned (.tuple #[momQ y m d h mi se,.int .i64 er])∧((er=0∧vldB y m d=true∧tmB h mi se=true∧untZ s=some (inst y m d h mi se))∨(0<er∧untZ s=none∧¬(vldB y m d=true∧tmB h mi se=true))))∧Ext w w':=by
 by_cases hF:formL s
 ·obtain⟨y,m,d,hh,mi,se,hb,rfl⟩:=form_intQ hF
  have hb2:=hb
  obtain⟨a1,a2,a3,a4,a5,a6,a7,a8,a9,b1,b2,b3⟩:=hb2
  by_cases q:vldB y m d=true∧tmB hh mi se=true
  ·refine(parse_v y m d hh mi se w a1 a2 a3 a4 a5 a6 a7 a8 a9 b1 b2 b3 q.1 q.2).mono ?_
   rintro e w' ⟨rfl,hE⟩
   exact⟨⟨y,m,d,hh,mi,se,0,rfl,.inl ⟨rfl,q.1,q.2,by rw[untZ_mtx hb,if_pos q]⟩⟩,hE⟩
  ·refine(parse_i y m d hh mi se w a1 a2 a3 a4 a5 a6 a7 a8 a9 b1 b2 b3 q).mono ?_
   rintro e w' ⟨rfl,hE⟩
   exact⟨⟨0,0,0,0,0,0,1,rfl,.inr ⟨by decide,by rw[untZ_mtx hb,if_neg q],vldQ_000⟩⟩,hE⟩
 ·refine(parse_n s w hF (by omega)).mono ?_
  rintro e w' ⟨rfl,hE⟩
  exact⟨⟨0,0,0,0,0,0,3,rfl,.inr ⟨by decide,untZ_no hF,vldQ_000⟩⟩,hE⟩
end Go.Proofs.YtlmeinikknoeeaaGreatDoor
namespace Go.Proofs.YtlmeinikknoeeaaGreatDoor
set_option maxRecDepth 100000
set_option maxHeartbeats 1000000
set_option linter.unusedVariables false
set_option linter.unnecessarySimpa false
set_option linter.unusedSimpArgs false
open Go.RowKit
def npR (n:Nat):Bool:=decide (n<32)||decide (126<n)
theorem npR_hi:∀r,128≤r→npR r=true:=fun r h=>by unfold npR;rw[decide_eq_true (show 126<r by omega)];simp
theorem npR_any (s:List UInt8):s.any (fun c=>npR c.toNat) = !(s.all fun c=>decide (32≤c.toNat∧c.toNat≤126)):=by
 induction s with
 | nil=>rfl
 | cons c D ih=>
   rw[List.any_cons,List.all_cons,ih,Bool.not_and]
   congr 1
   unfold npR
   by_cases h:32≤c.toNat∧c.toNat≤126
   ·rw[decide_eq_true h,decide_eq_false (by omega),decide_eq_false (by omega)];rfl
   ·rw[decide_eq_false h]
    by_cases h2:c.toNat<32
    ·rw[decide_eq_true h2];rfl
    ·rw[decide_eq_false h2,decide_eq_true (by omega)];rfl
theorem nop_c (x:Nat) (w:World):Calls Tryz.prog 259 #[.int .i32 (x:Int)] w fun e w'=>e = .returned (.bool (npR x))∧w=w':=by
 unfold npR
 by_cases h:x<32
 ·have e1:decide ((x:Int)<32)=true:=by rw[decide_eq_true_eq];omega
  have H:Hid ((decide (x<32)||decide (126<x))=true):=by rw[Hid,decide_eq_true h];rfl
  obtain⟨b,hb⟩:∃b,b=(decide (x<32)||decide (126<x)):=⟨_,rfl⟩
  rw[←hb]
  have HB:=Lib.hid hb
  clear hb
  go_enter Tryz.func259,Tryz.ntmps259
  go_wp2_with fail
  go_ret
  exact⟨by rw[HB.out,H.out];rfl,rfl⟩
 ·have e1:decide ((x:Int)<32)=false:=by rw[decide_eq_false_iff_not];omega
  obtain⟨b,hb⟩:∃b,b=(decide (x<32)||decide (126<x)):=⟨_,rfl⟩
  rw[←hb]
  have HB:=Lib.hid hb
  by_cases h2:126<x
  ·have e2:decide ((126:Int)<(x:Int))=true:=by rw[decide_eq_true_eq];omega
   have H:Hid (b=true):=by rw[Hid,hb,decide_eq_true h2];simp
   clear hb
   go_enter Tryz.func259,Tryz.ntmps259
   go_wp2_with fail
   go_ret
   exact⟨by rw[H.out];rfl,rfl⟩
  ·have e2:decide ((126:Int)<(x:Int))=false:=by rw[decide_eq_false_iff_not];omega
   have H:Hid (b=false):=by rw[Hid,hb,decide_eq_false h,decide_eq_false h2];rfl
   clear hb
   go_enter Tryz.func259,Tryz.ntmps259
   go_wp2_with fail
   go_ret
   exact⟨by rw[H.out];rfl,rfl⟩
theorem prn_c (s:List UInt8) (b:Bool) (w:World) (h:(s.all fun c=>decide (32≤c.toNat∧c.toNat≤126))=b):Calls Tryz.prog 258 #[.string ⟨s.toArray⟩,.func (.func 259) #[] #[]] w fun e w'=>e = .returned (.bool (!b))∧Ext w w':=by
 have:=cfun_c _ npR (fun _ _=>by kernel_rfl) npR_hi nop_c s w
 rw[npR_any,h]at this
 exact this
theorem vvalid_c (k n:Int) (s:List UInt8) (b:Bool) (w:World) (hs:Bs s) (hb:vlQ ⟨k,n,s⟩=b):Calls Tryz.prog 203 #[.agg #[.int .i64 k,.int .i64 n,.string ⟨s.toArray⟩]] w fun e w'=>e = .returned (.bool b)∧Ext w w':=by
 unfold Bs at hs
 unfold vlQ at hb
 simp only at hb
 by_cases h1:k=1
 ·subst h1
  rw[if_pos rfl]at hb
  by_cases e:s = []
  ·subst e
   obtain rfl:b=true:=by rw[←hb];rfl
   clear hb
   go_enter Tryz.func203,Tryz.ntmps203
   go_wp2_with fail
   go_ret
   exact⟨rfl,by(repeat (with_reducible (first|assumption|exact Ext.refl _|refine Ext.alloc ?_ _|refine Ext.setCell ?_ (by simp) _|refine Ext.setCell ?_ (by simp;omega) _|refine Ext.drewN ?_ _|refine Ext.drew ?_)))⟩
  ·obtain rfl:b=false:=by rw[←hb];exact decide_eq_false e
   clear hb
   have e1:(s == [])=false:=by rw[beq_eq_false_iff_ne];exact e
   clear e
   go_enter Tryz.func203,Tryz.ntmps203
   go_wp2_with fail
   go_ret
   exact⟨rfl,by(repeat (with_reducible (first|assumption|exact Ext.refl _|refine Ext.alloc ?_ _|refine Ext.setCell ?_ (by simp) _|refine Ext.setCell ?_ (by simp;omega) _|refine Ext.drewN ?_ _|refine Ext.drew ?_)))⟩
 rw[if_neg h1]at hb
 have k1:(k==1)=false:=by rw[beq_eq_false_iff_ne];exact h1
 by_cases h2:k=2
 ·subst h2
  rw[if_pos rfl]at hb
  clear h1 k1
  by_cases n0:n=0
  ·subst n0
   by_cases hl:s.length≤30
   ·have e2:decide ((s.length:Int)≤30)=true:=by rw[decide_eq_true_eq];omega
    obtain⟨c,hc⟩:∃c,(s.all fun c=>decide (32≤c.toNat∧c.toNat≤126))=c:=⟨_,rfl⟩
    obtain rfl:b=c:=by rw[←hb,hc,decide_eq_true hl];simp
    have HC:=fun w=>Lib.hid (prn_c s b w hc)
    clear hb hc hl
    go_enter Tryz.func203,Tryz.ntmps203
    go_wp2_with (first
     | (go_at_call 258;(with_reducible refine(HC _).out.mono ?_);rintro e w1 ⟨rfl,hE⟩))
    go_ret
    exact⟨by simp,((Ext.refl w).alloc _).trans hE⟩
   ·have e2:decide ((s.length:Int)≤30)=false:=by rw[decide_eq_false_iff_not];omega
    obtain rfl:b=false:=by rw[←hb,decide_eq_false hl];simp
    clear hb hl
    go_enter Tryz.func203,Tryz.ntmps203
    go_wp2_with fail
    go_ret
    exact⟨rfl,by(repeat (with_reducible (first|assumption|exact Ext.refl _|refine Ext.alloc ?_ _|refine Ext.setCell ?_ (by simp) _|refine Ext.setCell ?_ (by simp;omega) _|refine Ext.drewN ?_ _|refine Ext.drew ?_)))⟩
  ·obtain rfl:b=false:=by rw[←hb,decide_eq_false n0];simp
   have e1:(n==0)=false:=by rw[beq_eq_false_iff_ne];exact n0
   clear hb n0
   go_enter Tryz.func203,Tryz.ntmps203
   go_wp2_with fail
   go_ret
   exact⟨rfl,by(repeat (with_reducible (first|assumption|exact Ext.refl _|refine Ext.alloc ?_ _|refine Ext.setCell ?_ (by simp) _|refine Ext.setCell ?_ (by simp;omega) _|refine Ext.drewN ?_ _|refine Ext.drew ?_)))⟩
 rw[if_neg h2]at hb
 have k2:(k==2)=false:=by rw[beq_eq_false_iff_ne];exact h2
 by_cases h3:k=3
 ·subst h3
  rw[if_pos rfl]at hb
  clear h1 k1 h2 k2
  by_cases e:s = []
  ·subst e
   by_cases n0:n=0
   ·subst n0
    obtain rfl:b=true:=by rw[←hb];rfl
    clear hb
    go_enter Tryz.func203,Tryz.ntmps203
    go_wp2_with fail
    go_ret
    exact⟨rfl,by(repeat (with_reducible (first|assumption|exact Ext.refl _|refine Ext.alloc ?_ _|refine Ext.setCell ?_ (by simp) _|refine Ext.setCell ?_ (by simp;omega) _|refine Ext.drewN ?_ _|refine Ext.drew ?_)))⟩
   ·have e1:(n==0)=false:=by rw[beq_eq_false_iff_ne];exact n0
    by_cases n1:n=1
    ·subst n1
     obtain rfl:b=true:=by rw[←hb];rfl
     clear hb n0 e1
     go_enter Tryz.func203,Tryz.ntmps203
     go_wp2_with fail
     go_ret
     exact⟨rfl,by(repeat (with_reducible (first|assumption|exact Ext.refl _|refine Ext.alloc ?_ _|refine Ext.setCell ?_ (by simp) _|refine Ext.setCell ?_ (by simp;omega) _|refine Ext.drewN ?_ _|refine Ext.drew ?_)))⟩
    ·have e2:(n==1)=false:=by rw[beq_eq_false_iff_ne];exact n1
     obtain rfl:b=false:=by rw[←hb];simp[n0,n1]
     clear hb n0 n1
     go_enter Tryz.func203,Tryz.ntmps203
     go_wp2_with fail
     go_ret
     exact⟨rfl,by(repeat (with_reducible (first|assumption|exact Ext.refl _|refine Ext.alloc ?_ _|refine Ext.setCell ?_ (by simp) _|refine Ext.setCell ?_ (by simp;omega) _|refine Ext.drewN ?_ _|refine Ext.drew ?_)))⟩
  ·obtain rfl:b=false:=by rw[←hb,decide_eq_false e];simp
   clear hb
   have e1:(s == [])=false:=by rw[beq_eq_false_iff_ne];exact e
   clear e
   go_enter Tryz.func203,Tryz.ntmps203
   go_wp2_with fail
   go_ret
   exact⟨rfl,by(repeat (with_reducible (first|assumption|exact Ext.refl _|refine Ext.alloc ?_ _|refine Ext.setCell ?_ (by simp) _|refine Ext.setCell ?_ (by simp;omega) _|refine Ext.drewN ?_ _|refine Ext.drew ?_)))⟩
 rw[if_neg h3]at hb
 have k3:(k==3)=false:=by rw[beq_eq_false_iff_ne];exact h3
 by_cases h4:k=4
 ·subst h4
  rw[if_pos rfl]at hb
  clear h1 k1 h2 k2 h3 k3
  by_cases e:s = []
  ·subst e
   by_cases n0 : -62135596800≤n
   ·have e1:decide ((-62135596800:Int)≤n)=true:=by rw[decide_eq_true_eq];exact n0
    by_cases n1:n≤253402300800
    ·have e2:decide (n≤(253402300800:Int))=true:=by rw[decide_eq_true_eq];exact n1
     obtain rfl:b=true:=by rw[←hb];simp[n0,n1]
     clear hb n0 n1
     go_enter Tryz.func203,Tryz.ntmps203
     go_wp2_with fail
     go_ret
     exact⟨rfl,by(repeat (with_reducible (first|assumption|exact Ext.refl _|refine Ext.alloc ?_ _|refine Ext.setCell ?_ (by simp) _|refine Ext.setCell ?_ (by simp;omega) _|refine Ext.drewN ?_ _|refine Ext.drew ?_)))⟩
    ·have e2:decide (n≤(253402300800:Int))=false:=by rw[decide_eq_false_iff_not];exact n1
     obtain rfl:b=false:=by rw[←hb];simp[n1]
     clear hb n0 n1
     go_enter Tryz.func203,Tryz.ntmps203
     go_wp2_with fail
     go_ret
     exact⟨rfl,by(repeat (with_reducible (first|assumption|exact Ext.refl _|refine Ext.alloc ?_ _|refine Ext.setCell ?_ (by simp) _|refine Ext.setCell ?_ (by simp;omega) _|refine Ext.drewN ?_ _|refine Ext.drew ?_)))⟩
   ·have e1:decide ((-62135596800:Int)≤n)=false:=by rw[decide_eq_false_iff_not];exact n0
    obtain rfl:b=false:=by rw[←hb];simp[n0]
    clear hb n0
    go_enter Tryz.func203,Tryz.ntmps203
    go_wp2_with fail
    go_ret
    exact⟨rfl,by(repeat (with_reducible (first|assumption|exact Ext.refl _|refine Ext.alloc ?_ _|refine Ext.setCell ?_ (by simp) _|refine Ext.setCell ?_ (by simp;omega) _|refine Ext.drewN ?_ _|refine Ext.drew ?_)))⟩
  ·obtain rfl:b=false:=by rw[←hb,decide_eq_false e];simp
   clear hb
   have e1:(s == [])=false:=by rw[beq_eq_false_iff_ne];exact e
   clear e
   go_enter Tryz.func203,Tryz.ntmps203
   go_wp2_with fail
   go_ret
   exact⟨rfl,by(repeat (with_reducible (first|assumption|exact Ext.refl _|refine Ext.alloc ?_ _|refine Ext.setCell ?_ (by simp) _|refine Ext.setCell ?_ (by simp;omega) _|refine Ext.drewN ?_ _|refine Ext.drew ?_)))⟩
 rw[if_neg h4]at hb
 have k4:(k==4)=false:=by rw[beq_eq_false_iff_ne];exact h4
 subst hb
 clear h1 h2 h3 h4
 go_enter Tryz.func203,Tryz.ntmps203
 go_wp2_with fail
 go_ret
 exact⟨rfl,by(repeat (with_reducible (first|assumption|exact Ext.refl _|refine Ext.alloc ?_ _|refine Ext.setCell ?_ (by simp) _|refine Ext.setCell ?_ (by simp;omega) _|refine Ext.drewN ?_ _|refine Ext.drew ?_)))⟩
end Go.Proofs.YtlmeinikknoeeaaGreatDoor
