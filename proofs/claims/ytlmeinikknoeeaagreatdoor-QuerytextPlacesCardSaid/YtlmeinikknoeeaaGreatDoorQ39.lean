/- Queries: the walk of plain, kind by kind. -/
import Derived.Test.YtlmeinikknoeeaaGreatDoorQ38
import Derived.Test.YtlmeinikknoeeaaGreatDoorQ37
namespace Go.Proofs.YtlmeinikknoeeaaGreatDoor
set_option linter.unusedVariables false
set_option linter.unnecessarySimpa false
set_option linter.unusedSimpArgs false
open Go.RowKit
section
variable {k:Int} {tb:List UInt8} {cols:List (List UInt8)} {ca:Option Addr} {cc:Nat} {nms:List (List UInt8)} {na:Option Addr} {nc:Nat} {ck:Int} {ccol coth:List UInt8} {cvk cvn:Int} {cvs:List UInt8} {cca:Option Addr} {ccap:Nat} {cl:List Cnd} {rel fn f t:Int} {ao:Option Addr} {cap:Nat} {l:List Qry} {w:World} {A:Nat→Prop}
set_option maxRecDepth 100000 in
set_option maxHeartbeats 40000000 in
theorem pl_C {r:Bool} (hI:InQ A w (.mk ⟨k,tb,cols,ca,cc,nms,na,nc,(.mk ⟨⟨ck,ccol,coth,cvk,cvn,cvs⟩,cca,ccap⟩ cl),rel,fn,f,t,ao,cap⟩ l:Qry)) (hw:Rsv w) (hc:(k=9∧(fn==1)=true∧nmsQ cols=false∧r=false)∨(k=9∧(fn==1)=true∧nmsQ cols=true∧decide ((1:Int)≤fn)=true∧decide (fn≤(4:Int))=true∧((nms.length:Int)==1)=false∧r=false)∨(k=9∧(fn==1)=true∧nmsQ cols=true∧decide ((1:Int)≤fn)=true∧decide (fn≤(4:Int))=true∧((nms.length:Int)==1)=true∧alQ nms=false∧r=false)∨(k=9∧(fn==1)=true∧nmsQ cols=true∧decide ((1:Int)≤fn)=true∧decide (fn≤(4:Int))=true∧((nms.length:Int)==1)=true∧alQ nms=true∧((l.length:Int)==1)=false∧r=false)∨(k=9∧(fn==1)=true∧nmsQ cols=true∧decide ((1:Int)≤fn)=true∧decide (fn≤(4:Int))=true∧((nms.length:Int)==1)=true∧alQ nms=true∧((l.length:Int)==1)=true∧r=emB tb 0 0 ck ccol coth cvk cvn cvs cl.length rel 0 f t)∨(k=9∧(fn==1)=false∧nmsQ cols=false∧r=false)∨(k=9∧(fn==1)=false∧nmsQ cols=true∧decide ((1:Int)≤fn)=false∧r=false)∨(k=9∧(fn==1)=false∧nmsQ cols=true∧decide ((1:Int)≤fn)=true∧decide (fn≤(4:Int))=false∧r=false)∨(k=9∧(fn==1)=false∧nmsQ cols=true∧decide ((1:Int)≤fn)=true∧decide (fn≤(4:Int))=true∧((nms.length:Int)==2)=false∧r=false)∨(k=9∧(fn==1)=false∧nmsQ cols=true∧decide ((1:Int)≤fn)=true∧decide (fn≤(4:Int))=true∧((nms.length:Int)==2)=true∧alQ nms=false∧r=false)∨(k=9∧(fn==1)=false∧nmsQ cols=true∧decide ((1:Int)≤fn)=true∧decide (fn≤(4:Int))=true∧((nms.length:Int)==2)=true∧alQ nms=true∧((l.length:Int)==1)=false∧r=false)∨(k=9∧(fn==1)=false∧nmsQ cols=true∧decide ((1:Int)≤fn)=true∧decide (fn≤(4:Int))=true∧((nms.length:Int)==2)=true∧alQ nms=true∧((l.length:Int)==1)=true∧r=emB tb 0 0 ck ccol coth cvk cvn cvs cl.length rel 0 f t)) :
  Calls Tryz.prog 97 #[.agg (qnS.vals (.mk ⟨k,tb,cols,ca,cc,nms,na,nc,(.mk ⟨⟨ck,ccol,coth,cvk,cvn,cvs⟩,cca,ccap⟩ cl),rel,fn,f,t,ao,cap⟩ l:Qry)).toArray] w fun e w'=>e = .returned (.bool r)∧Ext w w':=by
 rcases hc with⟨rfl,hf,hv,rfl⟩|⟨rfl,hf,hv,h1,h2,hn,rfl⟩|⟨rfl,hf,hv,h1,h2,hn,hu,rfl⟩|⟨rfl,hf,hv,h1,h2,hn,hu,hl,rfl⟩|⟨rfl,hf,hv,h1,h2,hn,hu,hl,rfl⟩|⟨rfl,hf,hv,rfl⟩|⟨rfl,hf,hv,h1,rfl⟩|⟨rfl,hf,hv,h1,h2,rfl⟩|⟨rfl,hf,hv,h1,h2,hn,rfl⟩|⟨rfl,hf,hv,h1,h2,hn,hu,rfl⟩|⟨rfl,hf,hv,h1,h2,hn,hu,hl,rfl⟩|⟨rfl,hf,hv,h1,h2,hn,hu,hl,rfl⟩
 all_goals
  obtain⟨HT1,HT2,HIC,HTB,HW,HB⟩:=pl_h0 hI hw
  clear hw hI
  try (have HV:=Lib.hid hv;clear hv)
  try (have HU:=Lib.hid hu;clear hu)
  go_enter Tryz.func97,Tryz.ntmps97
  go_wp2_with (first
   | ((with_reducible show wpList _ _ _ (⟨some 7,.load _ _,_,_,_,_⟩::_) _ _);refine wpl_elemT rfl rfl rfl 32 _ _ _ rfl rfl rfl w.heap.size 0 rfl _ zeroQ _ HB.out.rd Tryz.underlying32 rfl (info_q _) (vals_one_q _) rfl alloc_q rfl rfl ?_;intro W1 hE1 hR1;rw[World.size_alloc]at hR1)
   | ((with_reducible show wpList _ _ _ (⟨none,.store _ (.tmp 8) _,_,_,_,_⟩::_) _ _);refine wpl_st1 rfl 3 _ _ rfl (w.heap.size+1) 0 _ (.int .i64 0) rfl rfl hR1 (by show 0<16;decide) (fun w a b=>st_int _ _ _ w a b) ?_;intro W2 hF2 hR2)
   | ((with_reducible show wpList _ _ _ (⟨none,.store _ (.tmp 9) _,_,_,_,_⟩::_) _ _);refine wpl_st1 rfl 30 _ _ rfl (w.heap.size+1) 15 _ (.slice none 0 0) rfl rfl hR2 (by show 15<16;decide) (fun w a b=>st_slQ _ _ w a b) ?_;intro W3 hF3 hR3;obtain⟨hbx,hz3,HB,HR,HE,b0,b1,b2,b3,b11,b12,b13,b14,b15⟩:=pl_h3 HB hE1 hF2 hF3 hR3;clear hR1 hR2 hR3 hF2 hF3)
   | (go_at_call 170;(with_reducible refine(qnames_c A cols ca cc _ _ (HT1.out.ext HE.out) (HW.out.ext HE.out) HV.out).mono ?_);rintro e w1 ⟨rfl,rfl⟩)
   | (go_at_call 171;(with_reducible refine(con2_c nms A na nc _ _ (HT2.out.ext HE.out) (HW.out.ext HE.out) HU.out).mono ?_);rintro e w1 ⟨rfl,rfl⟩)
   | ((with_reducible show wpList _ _ _ (⟨none,.store _ (.tmp 123) _,_,_,_,_⟩::_) _ _);refine wpl_st1 rfl 22 _ _ rfl (w.heap.size+1) 2 _ (.slice none 0 0) rfl rfl HR.out (by show 2<16;decide) (fun w a b=>st_slS _ _ w a b) ?_;intro W hF hR;obtain⟨HB,HR,HE,g⟩:=pl_hs (ao:=ao) (cap:=cap) (n:=l.length) HB HE.out hF (bq2 hR) rfl;clear hF hR)
   | ((with_reducible show wpList _ _ _ (⟨none,.store _ (.tmp 124) _,_,_,_,_⟩::_) _ _);refine wpl_st1 rfl 22 _ _ rfl (w.heap.size+1) 3 _ (.slice none 0 0) rfl rfl HR.out (by show 3<16;decide) (fun w a b=>st_slS _ _ w a b) ?_;intro W hF hR;obtain⟨HB,HR,HE,g⟩:=pl_hs (ao:=ao) (cap:=cap) (n:=l.length) HB HE.out hF (bq3 hR) rfl;clear hF hR)
   | ((with_reducible show wpList _ _ _ (⟨none,.store _ (.tmp 125) _,_,_,_,_⟩::_) _ _);refine wpl_st1 rfl 3 _ _ rfl (w.heap.size+1) 12 _ (.int .i64 0) rfl rfl HR.out (by show 12<16;decide) (fun w a b=>st_int _ _ _ w a b) ?_;intro W hF hR;obtain⟨HB,HR,HE,g⟩:=pl_hs (ao:=ao) (cap:=cap) (n:=l.length) HB HE.out hF (bq12 hR) rfl;clear hF hR)
   | ((with_reducible show wpList _ _ _ (⟨some 146,.load _ _,_,_,_,_⟩::_) _ _);refine wpl_load rfl 32 _ rfl (w.heap.size+1) 0 rfl _ _ HR.out.rd Tryz.underlying32 rfl (by kernel_rfl) ?_)
   | (go_at_call 174;(with_reducible refine(empty_c ..).mono ?_);rintro e w9 ⟨rfl,hE9⟩))
  go_ret
  first|exact⟨rfl,HE.out.trans hE9⟩|exact⟨rfl,HE.out⟩
end
end Go.Proofs.YtlmeinikknoeeaaGreatDoor
namespace Go.Proofs.YtlmeinikknoeeaaGreatDoor
set_option linter.unusedVariables false
set_option linter.unnecessarySimpa false
set_option linter.unusedSimpArgs false
open Go.RowKit
theorem cB {P:Program} {f:FuncId} {args:Array Value} {w:World} {x b:Bool} (h:Calls P f args w fun e w'=>e = .returned (.bool b)∧Ext w w') (e:x=b):Calls P f args w fun e w'=>e = .returned (.bool x)∧Ext w w':=by subst e;exact h
section
variable (tb:List UInt8) (cols nms:List (List UInt8)) (ck:Int) (ccol coth:List UInt8) (cvk cvn:Int) (cvs:List UInt8) (cl:List (Tr CdD)) (rel fn f t:Int)
theorem rest_1:restQ ⟨1,tb,cols,nms,.mk ⟨ck,ccol,coth,⟨cvk,cvn,cvs⟩⟩ cl,rel,fn,f,t⟩=emB [] cols.length nms.length ck ccol coth cvk cvn cvs cl.length rel fn f t:=by
 rw[Bool.eq_iff_iff];unfold restQ emB czQ;simp[CdD.zero,ValD.zero,and_assoc,and_comm,and_left_comm]
theorem rest_2:restQ ⟨2,tb,cols,nms,.mk ⟨ck,ccol,coth,⟨cvk,cvn,cvs⟩⟩ cl,rel,fn,f,t⟩=emB tb cols.length nms.length 0 [] [] 0 0 [] 0 rel fn f t:=by
 rw[Bool.eq_iff_iff];unfold restQ emB;simp[and_assoc,and_comm,and_left_comm]
theorem rest_3:restQ ⟨3,tb,cols,nms,.mk ⟨ck,ccol,coth,⟨cvk,cvn,cvs⟩⟩ cl,rel,fn,f,t⟩=emB tb 0 nms.length ck ccol coth cvk cvn cvs cl.length rel fn f t:=by
 rw[Bool.eq_iff_iff];unfold restQ emB czQ;simp[CdD.zero,ValD.zero,and_assoc,and_comm,and_left_comm]
theorem rest_4:restQ ⟨4,tb,cols,nms,.mk ⟨ck,ccol,coth,⟨cvk,cvn,cvs⟩⟩ cl,rel,fn,f,t⟩=emB tb 0 0 ck ccol coth cvk cvn cvs cl.length rel fn f t:=by
 rw[Bool.eq_iff_iff];unfold restQ emB czQ;simp[CdD.zero,ValD.zero,and_assoc,and_comm,and_left_comm]
theorem rest_5 (k:Int) (hk:k=5∨k=6∨k=7):restQ ⟨k,tb,cols,nms,.mk ⟨ck,ccol,coth,⟨cvk,cvn,cvs⟩⟩ cl,rel,fn,f,t⟩=emB tb cols.length nms.length ck ccol coth cvk cvn cvs cl.length rel fn f t:=by
 rw[Bool.eq_iff_iff];unfold restQ emB czQ
 rcases hk with rfl|rfl|rfl<;>simp[CdD.zero,ValD.zero,and_assoc,and_comm,and_left_comm]
theorem rest_8:restQ ⟨8,tb,cols,nms,.mk ⟨ck,ccol,coth,⟨cvk,cvn,cvs⟩⟩ cl,rel,fn,f,t⟩=emB tb cols.length nms.length ck ccol coth cvk cvn cvs cl.length rel fn 0 0:=by
 rw[Bool.eq_iff_iff];unfold restQ emB czQ;simp[CdD.zero,ValD.zero,and_assoc,and_comm,and_left_comm]
theorem rest_9:restQ ⟨9,tb,cols,nms,.mk ⟨ck,ccol,coth,⟨cvk,cvn,cvs⟩⟩ cl,rel,fn,f,t⟩=emB tb 0 0 ck ccol coth cvk cvn cvs cl.length rel 0 f t:=by
 rw[Bool.eq_iff_iff];unfold restQ emB czQ;simp[CdD.zero,ValD.zero,and_assoc,and_comm,and_left_comm]
theorem rest_10:restQ ⟨10,tb,cols,nms,.mk ⟨ck,ccol,coth,⟨cvk,cvn,cvs⟩⟩ cl,rel,fn,f,t⟩=emB tb cols.length nms.length ck ccol coth cvk cvn cvs cl.length 0 fn f t:=by
 rw[Bool.eq_iff_iff];unfold restQ emB czQ;simp[CdD.zero,ValD.zero,and_assoc,and_comm,and_left_comm]
end
theorem qn_k {q:QnD} {n M:Nat} (hk:1≤q.k∧q.k≤10) (hM:manyQ q.k=M) {r o:Bool} (hr:restQ q=r) (ho:ownQ q=o):qnN q n=(decide (n=M)&&r&&o):=by
 unfold qnN;rw[hr,ho,hM,decide_eq_true hk];simp
theorem lenI {n M:Nat} (h:n=M):((n:Int)==(M:Int))=true:=by rw[beq_iff_eq];omega
theorem lenN {n M:Nat} (h:¬n=M):((n:Int)==(M:Int))=false:=by rw[beq_eq_false_iff_ne];omega
theorem plain_c (A:Nat→Prop) (t:Qry) (w:World) (hI:InQ A w t) (hw:Rsv w):Calls Tryz.prog 97 #[.agg (qnS.vals t).toArray] w fun e w'=>e = .returned (.bool (qnN t.a.d t.l.length))∧Ext w w':=by
 obtain⟨⟨k,tb,cols,ca,cc,nms,na,nc,⟨⟨⟨ck,ccol,coth,cvk,cvn,cvs⟩,cca,ccap⟩,cl⟩,rel,fn,f,t,ao,cap⟩,l⟩:=t
 show Calls Tryz.prog 97 _ w fun e w'=>e = .returned (.bool (qnN ⟨k,tb,cols,nms,.mk ⟨ck,ccol,coth,⟨cvk,cvn,cvs⟩⟩ (mapTs CdA.d cl),rel,fn,f,t⟩ l.length))∧Ext w w'
 have hcl:(mapTs CdA.d cl).length=cl.length:=mapTs_len _ _
 by_cases hk:1≤k∧k≤10
 case neg=>
  refine cB (pl_A hI hw (.inr (.inr (.inr (.inr (.inr (.inr (.inr (.inr (.inr (.inr (.inr (.inr (.inr (.inr (.inr (.inr (.inr (.inr (.inr (.inr (⟨hk,rfl⟩)))))))))))))))))))))) ?_
  unfold qnN
  rw[decide_eq_false hk];simp
 have hk2:k=1∨k=2∨k=3∨k=4∨k=5∨k=6∨k=7∨k=8∨k=9∨k=10:=by omega
 rcases hk2 with rfl|rfl|rfl|rfl|rfl|rfl|rfl|rfl|rfl|rfl
 ·
  rw[qn_k (M:=0) hk rfl (rest_1 _ _ _ _ _ _ _ _ _ _ _ _ _ _) (show ownQ _=nmQ tb from rfl),hcl]
  cases hv:nmQ tb with
  | false=>exact cB (pl_A hI hw (.inl ⟨rfl,hv,rfl⟩)) (by simp)
  | true=>
    by_cases hl:l.length=0
    ·exact cB (pl_A hI hw (.inr (.inr (.inl ⟨rfl,hv,lenI hl,rfl⟩)))) (by rw[decide_eq_true hl];simp)
    ·exact cB (pl_A hI hw (.inr (.inl ⟨rfl,hv,lenN hl,rfl⟩))) (by rw[decide_eq_false hl];simp)
 ·
  rw[qn_k (M:=1) hk rfl (rest_2 _ _ _ _ _ _ _ _ _ _ _ _ _ _) (show ownQ _=cdQ (.mk ⟨ck,ccol,coth,⟨cvk,cvn,cvs⟩⟩ (mapTs CdA.d cl))from rfl)]
  cases hv:cdQ (.mk ⟨ck,ccol,coth,⟨cvk,cvn,cvs⟩⟩ (mapTs CdA.d cl))with
  | false=>exact cB (pl_A hI hw (.inr (.inr (.inr (.inl ⟨rfl,hv,rfl⟩))))) (by simp)
  | true=>
    by_cases hl:l.length=1
    ·exact cB (pl_A hI hw (.inr (.inr (.inr (.inr (.inr (.inl ⟨rfl,hv,lenI hl,rfl⟩))))))) (by rw[decide_eq_true hl];simp)
    ·exact cB (pl_A hI hw (.inr (.inr (.inr (.inr (.inl ⟨rfl,hv,lenN hl,rfl⟩)))))) (by rw[decide_eq_false hl];simp)
 ·
  rw[qn_k (M:=1) hk rfl (rest_3 _ _ _ _ _ _ _ _ _ _ _ _ _ _) (show ownQ _=(decide (cols≠[])&&nmsQ cols)from rfl),hcl]
  by_cases hc:cols = []
  ·subst hc
   exact cB (pl_A hI hw (.inr (.inr (.inr (.inr (.inr (.inr (.inl ⟨rfl,rfl,rfl⟩)))))))) (by simp)
  have hc0:(0:Int)<(cols.length:Int):=by have:=List.length_pos_iff.2 hc;omega
  cases hv:nmsQ cols with
  | false=>exact cB (pl_A hI hw (.inr (.inr (.inr (.inr (.inr (.inr (.inr (.inl ⟨rfl,hc0,hv,rfl⟩))))))))) (by simp)
  | true=>
    by_cases hl:l.length=1
    ·exact cB (pl_A hI hw (.inr (.inr (.inr (.inr (.inr (.inr (.inr (.inr (.inr (.inl ⟨rfl,hc0,hv,lenI hl,rfl⟩))))))))))) (by rw[decide_eq_true hl,decide_eq_true hc];simp)
    ·exact cB (pl_A hI hw (.inr (.inr (.inr (.inr (.inr (.inr (.inr (.inr (.inl ⟨rfl,hc0,hv,lenN hl,rfl⟩)))))))))) (by rw[decide_eq_false hl];simp)
 ·
  rw[qn_k (M:=1) hk rfl (rest_4 _ _ _ _ _ _ _ _ _ _ _ _ _ _) (show ownQ _=(decide (cols≠[])&&nmsQ cols&&decide (nms.length=cols.length)&&alQ nms)from rfl),hcl]
  by_cases hc:cols = []
  ·subst hc
   exact cB (pl_B hI hw (.inl ⟨rfl,rfl,rfl⟩)) (by simp)
  have hc0:(0:Int)<(cols.length:Int):=by have:=List.length_pos_iff.2 hc;omega
  cases hv:nmsQ cols with
  | false=>exact cB (pl_B hI hw (.inr (.inl ⟨rfl,hc0,hv,rfl⟩))) (by simp)
  | true=>
    by_cases hn:nms.length=cols.length
    case neg=>exact cB (pl_B hI hw (.inr (.inr (.inl ⟨rfl,hc0,hv,lenN hn,rfl⟩)))) (by rw[decide_eq_false hn];simp)
    cases hu:alQ nms with
    | false=>exact cB (pl_B hI hw (.inr (.inr (.inr (.inl ⟨rfl,hc0,hv,lenI hn,hu,rfl⟩))))) (by simp)
    | true=>
      by_cases hl:l.length=1
      ·exact cB (pl_B hI hw (.inr (.inr (.inr (.inr (.inr (.inl ⟨rfl,hc0,hv,lenI hn,hu,lenI hl,rfl⟩))))))) (by rw[decide_eq_true hl,decide_eq_true hc,decide_eq_true hn];simp)
      ·exact cB (pl_B hI hw (.inr (.inr (.inr (.inr (.inl ⟨rfl,hc0,hv,lenI hn,hu,lenN hl,rfl⟩)))))) (by rw[decide_eq_false hl];simp)
 ·rw[qn_k (M:=2) hk rfl (rest_5 _ _ _ _ _ _ _ _ _ _ _ _ _ _ 5 (by decide)) (show ownQ _=true from rfl),hcl]
  by_cases hl:l.length=2
  ·exact cB (pl_A hI hw (.inr (.inr (.inr (.inr (.inr (.inr (.inr (.inr (.inr (.inr (.inr (.inl ⟨rfl,lenI hl,rfl⟩))))))))))))) (by rw[decide_eq_true hl];simp)
  ·exact cB (pl_A hI hw (.inr (.inr (.inr (.inr (.inr (.inr (.inr (.inr (.inr (.inr (.inl ⟨rfl,lenN hl,rfl⟩)))))))))))) (by rw[decide_eq_false hl];simp)
 ·rw[qn_k (M:=2) hk rfl (rest_5 _ _ _ _ _ _ _ _ _ _ _ _ _ _ 6 (by decide)) (show ownQ _=true from rfl),hcl]
  by_cases hl:l.length=2
  ·exact cB (pl_A hI hw (.inr (.inr (.inr (.inr (.inr (.inr (.inr (.inr (.inr (.inr (.inr (.inr (.inr (.inl ⟨rfl,lenI hl,rfl⟩))))))))))))))) (by rw[decide_eq_true hl];simp)
  ·exact cB (pl_A hI hw (.inr (.inr (.inr (.inr (.inr (.inr (.inr (.inr (.inr (.inr (.inr (.inr (.inl ⟨rfl,lenN hl,rfl⟩)))))))))))))) (by rw[decide_eq_false hl];simp)
 ·rw[qn_k (M:=2) hk rfl (rest_5 _ _ _ _ _ _ _ _ _ _ _ _ _ _ 7 (by decide)) (show ownQ _=true from rfl),hcl]
  by_cases hl:l.length=2
  ·exact cB (pl_A hI hw (.inr (.inr (.inr (.inr (.inr (.inr (.inr (.inr (.inr (.inr (.inr (.inr (.inr (.inr (.inr (.inl ⟨rfl,lenI hl,rfl⟩))))))))))))))))) (by rw[decide_eq_true hl];simp)
  ·exact cB (pl_A hI hw (.inr (.inr (.inr (.inr (.inr (.inr (.inr (.inr (.inr (.inr (.inr (.inr (.inr (.inr (.inl ⟨rfl,lenN hl,rfl⟩)))))))))))))))) (by rw[decide_eq_false hl];simp)
 ·
  rw[qn_k (M:=1) hk rfl (rest_8 _ _ _ _ _ _ _ _ _ _ _ _ _ _) (show ownQ _=(decide (-62135596800≤f)&&decide (f<t)&&decide (t≤253402300800))from rfl),hcl]
  cases h1:decide (-62135596800≤f)with
  | false=>exact cB (pl_B hI hw (.inr (.inr (.inr (.inr (.inr (.inr (.inl ⟨rfl,h1,rfl⟩)))))))) (by simp)
  | true=>
    cases h2:decide (f<t)with
    | false=>exact cB (pl_B hI hw (.inr (.inr (.inr (.inr (.inr (.inr (.inr (.inl ⟨rfl,h1,h2,rfl⟩))))))))) (by simp)
    | true=>
      cases h3:decide (t≤253402300800)with
      | false=>exact cB (pl_B hI hw (.inr (.inr (.inr (.inr (.inr (.inr (.inr (.inr (.inl ⟨rfl,h1,h2,h3,rfl⟩)))))))))) (by simp)
      | true=>
        by_cases hl:l.length=1
        ·exact cB (pl_B hI hw (.inr (.inr (.inr (.inr (.inr (.inr (.inr (.inr (.inr (.inr (⟨rfl,h1,h2,h3,lenI hl,rfl⟩)))))))))))) (by rw[decide_eq_true hl];simp)
        ·exact cB (pl_B hI hw (.inr (.inr (.inr (.inr (.inr (.inr (.inr (.inr (.inr (.inl ⟨rfl,h1,h2,h3,lenN hl,rfl⟩))))))))))) (by rw[decide_eq_false hl];simp)
 ·
  rw[qn_k (M:=1) hk rfl (rest_9 _ _ _ _ _ _ _ _ _ _ _ _ _ _) (show ownQ _=(nmsQ cols&&decide (1≤fn)&&decide (fn≤4)&&decide (nms.length=if fn=1 then 1 else 2)&&alQ nms)from rfl),hcl]
  by_cases hf:fn=1
  ·have hfb:(fn==1)=true:=by rw[beq_iff_eq];exact hf
   have g1:decide (1≤fn)=true:=decide_eq_true (by omega)
   have g2:decide (fn≤4)=true:=decide_eq_true (by omega)
   rw[if_pos hf]
   cases hv:nmsQ cols with
   | false=>exact cB (pl_C hI hw (.inl ⟨rfl,hfb,hv,rfl⟩)) (by simp)
   | true=>
     by_cases hn:nms.length=1
     case neg=>exact cB (pl_C hI hw (.inr (.inl ⟨rfl,hfb,hv,g1,g2,lenN hn,rfl⟩))) (by rw[decide_eq_false hn];simp)
     cases hu:alQ nms with
     | false=>exact cB (pl_C hI hw (.inr (.inr (.inl ⟨rfl,hfb,hv,g1,g2,lenI hn,hu,rfl⟩)))) (by simp)
     | true=>
       by_cases hl:l.length=1
       ·exact cB (pl_C hI hw (.inr (.inr (.inr (.inr (.inl ⟨rfl,hfb,hv,g1,g2,lenI hn,hu,lenI hl,rfl⟩)))))) (by rw[decide_eq_true hl,decide_eq_true hn,g1,g2];simp)
       ·exact cB (pl_C hI hw (.inr (.inr (.inr (.inl ⟨rfl,hfb,hv,g1,g2,lenI hn,hu,lenN hl,rfl⟩))))) (by rw[decide_eq_false hl];simp)
  ·have hfb:(fn==1)=false:=by rw[beq_eq_false_iff_ne];exact hf
   rw[if_neg hf]
   cases hv:nmsQ cols with
   | false=>exact cB (pl_C hI hw (.inr (.inr (.inr (.inr (.inr (.inl ⟨rfl,hfb,hv,rfl⟩))))))) (by simp)
   | true=>
     cases g1:decide (1≤fn)with
     | false=>exact cB (pl_C hI hw (.inr (.inr (.inr (.inr (.inr (.inr (.inl ⟨rfl,hfb,hv,g1,rfl⟩)))))))) (by simp)
     | true=>
       cases g2:decide (fn≤4)with
       | false=>exact cB (pl_C hI hw (.inr (.inr (.inr (.inr (.inr (.inr (.inr (.inl ⟨rfl,hfb,hv,g1,g2,rfl⟩))))))))) (by simp)
       | true=>
         by_cases hn:nms.length=2
         case neg=>exact cB (pl_C hI hw (.inr (.inr (.inr (.inr (.inr (.inr (.inr (.inr (.inl ⟨rfl,hfb,hv,g1,g2,lenN hn,rfl⟩)))))))))) (by rw[decide_eq_false hn];simp)
         cases hu:alQ nms with
         | false=>exact cB (pl_C hI hw (.inr (.inr (.inr (.inr (.inr (.inr (.inr (.inr (.inr (.inl ⟨rfl,hfb,hv,g1,g2,lenI hn,hu,rfl⟩))))))))))) (by simp)
         | true=>
           by_cases hl:l.length=1
           ·exact cB (pl_C hI hw (.inr (.inr (.inr (.inr (.inr (.inr (.inr (.inr (.inr (.inr (.inr (⟨rfl,hfb,hv,g1,g2,lenI hn,hu,lenI hl,rfl⟩))))))))))))) (by rw[decide_eq_true hl,decide_eq_true hn];simp)
           ·exact cB (pl_C hI hw (.inr (.inr (.inr (.inr (.inr (.inr (.inr (.inr (.inr (.inr (.inl ⟨rfl,hfb,hv,g1,g2,lenI hn,hu,lenN hl,rfl⟩)))))))))))) (by rw[decide_eq_false hl];simp)
 ·
  rw[qn_k (M:=2) hk rfl (rest_10 _ _ _ _ _ _ _ _ _ _ _ _ _ _) (show ownQ _=(decide (1≤rel)&&decide (rel≤8191))from rfl),hcl]
  cases h1:decide (1≤rel)with
  | false=>exact cB (pl_A hI hw (.inr (.inr (.inr (.inr (.inr (.inr (.inr (.inr (.inr (.inr (.inr (.inr (.inr (.inr (.inr (.inr (.inl ⟨rfl,h1,rfl⟩)))))))))))))))))) (by simp)
  | true=>
    cases h2:decide (rel≤8191)with
    | false=>exact cB (pl_A hI hw (.inr (.inr (.inr (.inr (.inr (.inr (.inr (.inr (.inr (.inr (.inr (.inr (.inr (.inr (.inr (.inr (.inr (.inl ⟨rfl,h1,h2,rfl⟩))))))))))))))))))) (by simp)
    | true=>
      by_cases hl:l.length=2
      ·exact cB (pl_A hI hw (.inr (.inr (.inr (.inr (.inr (.inr (.inr (.inr (.inr (.inr (.inr (.inr (.inr (.inr (.inr (.inr (.inr (.inr (.inr (.inl ⟨rfl,h1,h2,lenI hl,rfl⟩))))))))))))))))))))) (by rw[decide_eq_true hl];simp)
      ·exact cB (pl_A hI hw (.inr (.inr (.inr (.inr (.inr (.inr (.inr (.inr (.inr (.inr (.inr (.inr (.inr (.inr (.inr (.inr (.inr (.inr (.inl ⟨rfl,h1,h2,lenN hl,rfl⟩)))))))))))))))))))) (by rw[decide_eq_false hl];simp)
end Go.Proofs.YtlmeinikknoeeaaGreatDoor
namespace Go.Proofs.YtlmeinikknoeeaaGreatDoor
set_option maxRecDepth 100000
set_option linter.unusedVariables false
set_option linter.unnecessarySimpa false
set_option linter.unusedSimpArgs false
open Go.RowKit
mutual
theorem ndC_le {α:Type} (p:α→Nat→Bool):∀(c:Tr α) (d:Nat),ndC p c d≤61+60*(13-d)
 | .mk a l,d=>by
   rw[ndC]
   split
   ·omega
   ·exact Nat.le_trans (ndCs_le p l d 1 (by omega) (by omega)) (by omega)
theorem ndCs_le {α:Type} (p:α→Nat→Bool):∀(l:List (Tr α)) (d n:Nat),d≤12→n≤61+60*(13-d)→ndCs p l d n≤61+60*(13-d)
 | [],d,n,hd,hn=>by rw[ndCs];exact hn
 | c::r,d,n,hd,hn=>by
   rw[ndCs]
   split
   ·exact hn
   ·refine ndCs_le p r d _ hd ?_
    have:=ndC_le p c (d+1)
    omega
end
theorem ndCs_big {α:Type} (p:α→Nat→Bool) (l:List (Tr α)) (d n:Nat) (h:60<n):ndCs p l d n=n:=by
 cases l with
 | nil=>rfl
 | cons c r=>rw[ndCs,if_pos h]
theorem ndCs_at {l:List (Tr QnD)} {d m j:Nat} {c:Tr QnD} {R:Nat} (h:ndCs qnN (l.drop j) d m=R) (hj:j<l.length) (hc:l[j]=c) (hm:m≤60):ndCs qnN (l.drop (j+1)) d (m+ndC qnN c (d+1))=R:=by
 rw[←h,List.drop_eq_getElem_cons hj,ndCs,if_neg (by omega),hc]
theorem mapTsQ_get {l:List Qry} {j:Nat} (h:j<l.length):(mapTs QnA.d l)[j]'(by rw[mapTs_len];exact h)=mapT QnA.d l[j]:=by
 simp only[mapTs_map,List.getElem_map]
set_option maxHeartbeats 2000000 in
theorem qcnt_c (A:Nat→Prop):∀(n:Nat) (t:Qry),szC t≤n→∀(d:Nat) (w:World),d≤1000→InQ A w t→Rsv w→
  Calls Tryz.prog 48 #[.agg (qnS.vals t).toArray,.int .i64 (d:Int)] w fun e w'=>e = .returned (.int .i64 ((ndC qnN (mapT QnA.d t) d:Nat):Int))∧Ext w w'
 | 0,t,hn,_,_,_,_,_=>by have:=szC_pos t;omega
 | n+1,.mk a l,hn,d,w,hd,hI,hw=>by
   have hE0:Ext w (w.alloc (.cells (qnS.vals (.mk a l)).toArray 32)):=(Ext.refl w).alloc _
   have hB:=BxT.new w (qnS.vals (.mk a l)) 32
   have c15:(w.alloc (.cells (qnS.vals (.mk a l)).toArray 32)).cell? ⟨w.heap.size,15,none⟩=some (.slice a.ao l.length a.cap):=hB.at 15 _ rfl
   have hbx:=hB.hD
   obtain⟨ao,hao⟩:∃ao,a.ao=ao:=⟨_,rfl⟩
   obtain⟨cap,hcp⟩:∃cap,a.cap=cap:=⟨_,rfl⟩
   rw[hao,hcp]at c15
   have hRd:RdT qnS A w ao cap l:=by rw[←hao,←hcp];exact hI.parts.2.1
   clear hao hcp
   have HB:=Lib.hid hB
   have HW:=Lib.hid hw
   have HI:=Lib.hid hI
   obtain⟨R,hR⟩:∃R,ndC qnN (mapT QnA.d (.mk a l)) d=R:=⟨_,rfl⟩
   rw[hR]
   rw[mapT,ndC,mapTs_len]at hR
   obtain⟨b,hb⟩:∃b,qnN a.d l.length=b:=⟨_,rfl⟩
   have HP:=Lib.hid (plain_c A (.mk a l) _ (InQ.ext hI hE0) (hw.ext hE0))
   rw[show qnN (Tr.mk a l).a.d (Tr.mk a l).l.length=b from hb]at HP
   rw[hb]at hR
   clear hB hw
   by_cases h12:12<d
   ·have e1:decide ((12:Int)<(d:Int))=true:=by rw[decide_eq_true_eq];omega
    rw[if_pos (.inl h12)]at hR
    subst hR
    clear h12 hI hb
    go_enter Tryz.func48,Tryz.ntmps48
    go_wp2_with fail
    go_ret
    exact⟨rfl,hE0⟩
   have e1:decide ((12:Int)<(d:Int))=false:=by rw[decide_eq_false_iff_not];omega
   cases b with
   | false=>
     rw[if_pos (.inr rfl)]at hR
     subst hR
     clear h12 hI hb
     go_enter Tryz.func48,Tryz.ntmps48
     go_wp2_with (first
      | ((with_reducible show wpList _ _ _ (⟨some 11,.load _ _,_,_,_,_⟩::_) _ _);refine wpl_load rfl 32 _ rfl w.heap.size 0 rfl (qnS.vals (.mk a l)) _ HB.out.rd Tryz.underlying32 rfl (info_q _) ?_)
      | (go_at_call 97;(with_reducible refine HP.out.mono ?_);rintro e w1 ⟨rfl,hE1⟩))
     go_ret
     exact⟨rfl,hE0.trans hE1⟩
   | true=>
     rw[if_neg (by simp;omega)]at hR
     have HR:=Lib.hid hR
     have HK:Hid (∀x∈l,∀wx,Ext w wx→Calls Tryz.prog 48 #[.agg (qnS.vals x).toArray,.int .i64 ((d:Int)+1)] wx fun e w'=>e = .returned (.int .i64 ((ndC qnN (mapT QnA.d x) (d+1):Nat):Int))∧Ext wx w'):=fun x hx wx hE=>by
      have hxs:szC x≤n:=by
       have:=szC_lt (t:=.mk a l) (show x∈(Tr.mk a l).l from hx)
       omega
      have e:((d+1:Nat):Int)=(d:Int)+1:=by omega
      have:=qcnt_c A n x hxs (d+1) wx (by omega) (InQ.ext (HI.out.parts.2.2 x hx) hE) (HW.out.ext hE)
      rwa [e]at this
     obtain⟨hlen,hcap,hrd⟩:=hRd
     have hcap:cap≤9223372036854775807:=hcap
     have HL:=Lib.hid hrd
     clear hI hb hR hrd
     go_enter Tryz.func48,Tryz.ntmps48
     go_wp2_with (first
      | ((with_reducible show wpList _ _ _ (⟨some 11,.load _ _,_,_,_,_⟩::_) _ _);refine wpl_load rfl 32 _ rfl w.heap.size 0 rfl (qnS.vals (.mk a l)) _ HB.out.rd Tryz.underlying32 rfl (info_q _) ?_)
      | (go_at_call 97;(with_reducible refine HP.out.mono ?_);rintro e w1 ⟨rfl,hE1⟩;have hE2:=hE0.trans hE1;have c15':=(hE1.cells _ _ hbx).trans c15))
     go_loopw [5,18] (fun y i wr=>∃j m:Nat,j≤l.length∧i = .int .i64 (j:Int)∧y = .int .i64 (m:Int)∧m≤60∧Ext w wr∧Hid (ndCs qnN ((mapTs QnA.d l).drop j) d m=R)) (fun _ i _=>l.length-(intOf i).toNat)
     case atStart=>exact⟨0,1,Nat.zero_le _,rfl,rfl,by decide,hE2,HR.out⟩
     case round=>
      obtain⟨j,m,hj,rfl,rfl,hm,hE,hRj⟩:=hrel
      by_cases hlt:j<l.length
      ·obtain⟨R2,of2,e2,-,hR0,hc⟩:=HL.out (by rintro rfl;simp at hlt)
       subst e2
       have HV:Hid (wr.rangeAt R2 (of2+j*16) (qnS.vals l[j])):=fun k v hv=>(hE.cells _ _ hR0).trans (hc j hlt k v hv)
       have hmem:l[j]∈l:=List.getElem_mem _
       have HRx:=Lib.hid (ndCs_at hRj.out (by rw[mapTs_len];exact hlt) (mapTsQ_get hlt) hm)
       have HKx:=Lib.hid (HK.out _ hmem)
       have hbd:=ndC_le qnN (mapT QnA.d l[j]) (d+1)
       obtain⟨x,hx⟩:∃x,x=l[j]:=⟨_,rfl⟩
       rw[←hx]at HV HRx HKx hbd
       obtain⟨v,hv⟩:∃v,ndC qnN (mapT QnA.d x) (d+1)=v:=⟨_,rfl⟩
       rw[hv]at HRx HKx hbd
       have hbd:v≤1000:=by omega
       clear hx hc hmem hRj hv
       by_cases h60:60<m+v
       ·have e60:decide ((60:Int)<(m:Int)+(v:Int))=true:=by rw[decide_eq_true_eq];omega
        have HRs:Hid (R=m+v):=by rw[Hid,←HRx.out];exact ndCs_big _ _ _ _ h60
        clear HRx h60
        go_wp2_with (first
         | ((with_reducible show wpList _ _ _ (⟨some 21,.load _ _,_,_,_,_⟩::_) _ _);refine wpl_elem rfl rfl rfl 32 _ _ _ rfl rfl rfl R2 (of2+j*16) rfl (qnS.vals x) zeroQ _ HV.out Tryz.underlying32 rfl (info_q x) (vals_one_q x) rfl alloc_q rfl rfl ?_;intro W hEW hBW)
         | ((with_reducible show wpList _ _ _ (⟨some 23,.load _ _,_,_,_,_⟩::_) _ _);refine wpl_load rfl 32 _ rfl wr.heap.size 0 rfl (qnS.vals x) _ hBW.2 Tryz.underlying32 rfl (info_q x) ?_)
         | (go_at_call 48;(with_reducible refine(HKx.out W (hE.trans hEW)).mono ?_);rintro e w4 ⟨rfl,hE4⟩))
        go_ret
        exact⟨by rw[HRs.out];rfl,(hE.trans hEW).trans hE4⟩
       ·have e60:decide ((60:Int)<(m:Int)+(v:Int))=false:=by rw[decide_eq_false_iff_not];omega
        go_wp2_with (first
         | ((with_reducible show wpList _ _ _ (⟨some 21,.load _ _,_,_,_,_⟩::_) _ _);refine wpl_elem rfl rfl rfl 32 _ _ _ rfl rfl rfl R2 (of2+j*16) rfl (qnS.vals x) zeroQ _ HV.out Tryz.underlying32 rfl (info_q x) (vals_one_q x) rfl alloc_q rfl rfl ?_;intro W hEW hBW)
         | ((with_reducible show wpList _ _ _ (⟨some 23,.load _ _,_,_,_,_⟩::_) _ _);refine wpl_load rfl 32 _ rfl wr.heap.size 0 rfl (qnS.vals x) _ hBW.2 Tryz.underlying32 rfl (info_q x) ?_)
         | (go_at_call 48;(with_reducible refine(HKx.out W (hE.trans hEW)).mono ?_);rintro e w4 ⟨rfl,hE4⟩))
        go_roundw
        case rel=>exact⟨j+1,m+v,by omega,by go_num,by go_num,by omega,(hE.trans hEW).trans hE4,HRx.out⟩
        case measure=>simp[intOf];omega
      ·obtain rfl:j=l.length:=by omega
       have HRs:Hid (R=m):=by
        rw[Hid,←hRj.out,show l.length=(mapTs QnA.d l).length from(mapTs_len _ _).symm,List.drop_length,ndCs]
       go_wp2_with fail
       go_ret
       exact⟨by rw[HRs.out];rfl,hE⟩
theorem hval:HVal Tryz.prog 17:=fun A t w hI hw=>by
 have hE0:Ext w (w.alloc (.cells (qnS.vals t).toArray 32)):=(Ext.refl w).alloc _
 have HB:=Lib.hid (BxT.new w (qnS.vals t) 32)
 have HC:Hid (Calls Tryz.prog 48 #[.agg (qnS.vals t).toArray,.int .i64 1] (w.alloc (.cells (qnS.vals t).toArray 32)) fun e w'=>e = .returned (.int .i64 ((ndC qnN (mapT QnA.d t) 1:Nat):Int))∧Ext (w.alloc (.cells (qnS.vals t).toArray 32)) w'):=
  qcnt_c A (szC t) t (Nat.le_refl _) 1 _ (by decide) (InQ.ext hI hE0) (hw.ext hE0)
 obtain⟨m,hm⟩:∃m,ndC qnN (mapT QnA.d t) 1=m:=⟨_,rfl⟩
 rw[hm]at HC
 unfold vdQ
 rw[hm]
 obtain⟨G,hG⟩:∃G,decide (m≤60)=G:=⟨_,rfl⟩
 have e60:decide ((m:Int)≤60)=G:=by rw[←hG];by_cases h:m≤60;rw[decide_eq_true h];exact decide_eq_true (by omega);rw[decide_eq_false h];exact decide_eq_false (by omega)
 rw[hG]
 clear hG hm hI hw
 cases G
 all_goals
  go_enter Tryz.func17,Tryz.ntmps17
  go_wp2_with (first
   | ((with_reducible show wpList _ _ _ (⟨some 3,.load _ _,_,_,_,_⟩::_) _ _);refine wpl_load rfl 32 _ rfl w.heap.size 0 rfl (qnS.vals t) _ HB.out.rd Tryz.underlying32 rfl (info_q t) ?_)
   | (go_at_call 48;(with_reducible refine HC.out.mono ?_);rintro e w1 ⟨rfl,hE⟩))
  go_ret
  exact⟨rfl,hE0.trans hE⟩
theorem qparse_c (s:List UInt8) (w:World) (hs:s.length≤9223372036854775807) (hr:RsvB w.heap.size w):Calls Tryz.prog 26 #[.string ⟨s.toArray⟩] w (PaV w (paQ untZ s)):=parse_q hval s w hs hr
end Go.Proofs.YtlmeinikknoeeaaGreatDoor
