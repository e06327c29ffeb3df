/- Queries: the walk of printed, whole; CondText. -/
import Derived.Test.YtlmeinikknoeeaaGreatDoorQ42
namespace Go.Proofs.YtlmeinikknoeeaaGreatDoor
set_option linter.unusedVariables false
set_option linter.unnecessarySimpa false
set_option linter.unusedSimpArgs false
open Go.RowKit
theorem prL_56 (k:Int) (X:List UInt8):prL k [5,6] X=prA (k,X) 5 6:=by unfold prL prA;simp
theorem prL_6 (k:Int) (X:List UInt8):prL k [6] X=prA (k,X) 6 6:=by unfold prL prA;simp
theorem prL_65 (k:Int) (X:List UInt8):prL k [6,5] X=prA (k,X) 6 5:=by unfold prL prA;simp
theorem prL_0 (k:Int) (X:List UInt8):prL k [] X=X:=by unfold prL;simp
mutual
theorem szC_map {α β:Type} {f:α→β}:∀t:Tr α,szC (mapT f t)=szC t
 | .mk a l=>by rw[mapT,szC,szC,szCs_map l]
theorem szCs_map {α β:Type} {f:α→β}:∀l:List (Tr α),szCs (mapTs f l)=szCs l
 | []=>rfl
 | c::r=>by rw[mapTs,szCs,szCs,szC_map c,szCs_map r]
end
theorem inC_bn {A:Nat→Prop} {w:World}:∀(n:Nat) (t:Cnd),szC t≤n→InC A w t→bnC (mapT CdA.d t)
 | 0,t,hn,_=>by have:=szC_pos t;omega
 | n+1,.mk a l,hn,hI=>by
   rw[mapT,bnC]
   refine⟨hI.parts.1.2.2.2.2.2,?_⟩
   have hall:∀x∈l,bnC (mapT CdA.d x):=fun x hx=>inC_bn n x (by
    have:=szC_lt (t:=.mk a l) (show x∈(Tr.mk a l).l from hx)
    omega) (hI.parts.2.2 x hx)
   clear hI hn
   induction l with
   | nil=>trivial
   | cons x r ih=>rw[mapTs,bnCs];exact⟨hall x (by simp),ih (fun y hy=>hall y (by simp[hy]))⟩
theorem opT_of {t:Cnd} {ks:List Int} {X P:List UInt8} {w:World} (hX:X.length≤90000) (hP:prL t.a.d.k ks X=P)
  (h:∀wx,Ext w wx→Calls Tryz.prog 63 #[.agg (cdS.vals t).toArray] wx fun e w'=>e = .returned (.string ⟨X.toArray⟩)∧Ext wx w'):OpT t ks P w:=fun ko kc wx hE hK=>by
 rw[←hP]
 exact opr_c t ko kc ks X wx hK (by omega) (fun wy hEy=>h wy (hE.trans hEy))
theorem printed_c (A:Nat→Prop):∀(n:Nat) (t:Cnd),szC t≤n→n≤60→∀(d:Nat) (w:World),gdC cdN (mapT CdA.d t) d=true→fmdR (mapT CdA.d t)=true→InC A w t→LmO w→
  Calls Tryz.prog 63 #[.agg (cdS.vals t).toArray] w fun e w'=>e = .returned (.string ⟨(tcX momT [32] (mapT CdA.d t)).toArray⟩)∧Ext w w'
 | 0,t,hn,_,_,_,_,_,_,_=>by have:=szC_pos t;omega
 | n+1,.mk ⟨⟨k,col,oth,vk,vn,vs⟩,ao,cap⟩ l,hn,hn60,d,w,hg,hf,hI,hm=>by
   have hlen:∀x∈l,∀e,gdC cdN (mapT CdA.d x) e=true→fmdR (mapT CdA.d x)=true→(tcX momT [32] (mapT CdA.d x)).length≤6000:=fun x hx e h1 h2=>by
    have hs:=szC_lt (t:=.mk ⟨⟨k,col,oth,vk,vn,vs⟩,ao,cap⟩ l) (show x∈(Tr.mk (⟨⟨k,col,oth,vk,vn,vs⟩,ao,cap⟩:CdA) l).l from hx)
    have:=tcX_len momT_len (mapT CdA.d x) e h1 h2 (inC_bn (szC x) x (Nat.le_refl _) (hI.parts.2.2 x hx))
    have hsz:szC (mapT CdA.d x)=szC x:=szC_map x
    omega
   have hK:∀x∈l,∀e,gdC cdN (mapT CdA.d x) e=true→fmdR (mapT CdA.d x)=true→∀wx,Ext w wx→Calls Tryz.prog 63 #[.agg (cdS.vals x).toArray] wx fun e w'=>e = .returned (.string ⟨(tcX momT [32] (mapT CdA.d x)).toArray⟩)∧Ext wx w':=fun x hx e h1 h2 wx hE=>by
    have hs:=szC_lt (t:=.mk ⟨⟨k,col,oth,vk,vn,vs⟩,ao,cap⟩ l) (show x∈(Tr.mk (⟨⟨k,col,oth,vk,vn,vs⟩,ao,cap⟩:CdA) l).l from hx)
    exact printed_c A n x (by omega) (by omega) e wx h1 h2 (InC.ext (hI.parts.2.2 x hx) hE) (hm.ext hE)
   have hrd:=hI.parts.2.1
   have hok:=hI.parts.1
   rw[mapT]at hg hf ⊢
   rw[gdC,mapTs_len]at hg
   simp only[Bool.and_eq_true,decide_eq_true_eq]at hg
   obtain⟨⟨hd,hN⟩,hgs⟩:=hg
   rw[←mapTs_len CdA.d l]at hN
   have hN2:cdN ⟨k,col,oth,⟨vk,vn,vs⟩⟩ (mapTs CdA.d l).length=true:=hN
   have hN:=hN2
   rw[fmdR]at hf
   rw[tcX]
   show Calls Tryz.prog 63 _ w fun e w'=>e = .returned (.string ⟨(ndX momT [32] ⟨k,col,oth,⟨vk,vn,vs⟩⟩ (tcXs momT [32] (mapTs CdA.d l))).toArray⟩)∧Ext w w'
   have hf2:((if k=1∨k=2 then nmQ col&&(decide (oth = [])||nmQ oth)else true)&&fmdRs (mapTs CdA.d l))=true:=hf
   clear hf
   have hf:=hf2
   clear hf2
   by_cases h12:k=1∨k=2
   ·have k3:¬k=3:=by omega
    have k4:¬k=4:=by omega
    have k5:¬k=5:=by omega
    have k6:¬k=6:=by omega
    rw[if_pos h12,Bool.and_eq_true,Bool.and_eq_true]at hf
    obtain⟨_,_,_,_,_,hcl,_⟩:=nm_parts hf.1.1
    have hgk:k=1∧(if k=1 then(61:UInt8)else 60)=61∨k=2∧(if k=1 then(61:UInt8)else 60)=60:=by rcases h12 with rfl|rfl;exact .inl ⟨rfl,rfl⟩;exact .inr ⟨rfl,rfl⟩
    rw[cdN_12 h12]at hN
    simp only[Bool.and_eq_true,decide_eq_true_eq]at hN
    by_cases ho:oth = []
    ·have hv:vlQ ⟨vk,vn,vs⟩=true:=by have:=hN.2;rwa [if_pos ho]at this
     have hvl:=vlT_len momT_len hv hok.2.2.2.2.2
     have:=prn_val (ao:=ao) (cap:=cap) (l:=l) (vlT momT ⟨vk,vn,vs⟩) _ w hgk hcl (by omega) (show(oth == [])=true by rw[ho];rfl) (fun wx hE=>vtext_c vk vn vs _ wx (hm.ext hE) hok.2.2.2.2.2 hv rfl)
     unfold ndX
     simp only[if_neg k3,if_neg k4,if_neg k5,if_neg k6,if_pos ho]
     have e:col ++ [32,(if k=1 then(61:UInt8)else 60),32]++vlT momT ⟨vk,vn,vs⟩=col++([32]++([if k=1 then 61 else 60]++([32]++vlT momT ⟨vk,vn,vs⟩))):=by simp
     rw[e]at this
     exact this
    ·have ho2:=hf.1.2
     rw[Bool.or_eq_true,decide_eq_true_eq]at ho2
     obtain⟨_,_,_,_,_,hol,_⟩:=nm_parts (ho2.resolve_left ho)
     have:=prn_oth (vk:=vk) (vn:=vn) (vs:=vs) (ao:=ao) (cap:=cap) (l:=l) _ w hgk hcl hol (show(oth == [])=false by rw[beq_eq_false_iff_ne];exact ho)
     unfold ndX
     simp only[if_neg k3,if_neg k4,if_neg k5,if_neg k6,if_neg ho]
     have e:col ++ [32,(if k=1 then(61:UInt8)else 60),32]++oth=col++([32]++([if k=1 then 61 else 60]++([32]++oth))):=by simp
     rw[e]at this
     exact this
   ·rw[if_neg h12,Bool.true_and]at hf
    have h36:3≤k∧k≤6:=by
     rcases Decidable.em (3≤k∧k≤6)with h|h
     ·exact h
     ·rw[cdN_no (by omega)]at hN;cases hN
    rw[cdN_36 h36]at hN
    simp only[Bool.and_eq_true,decide_eq_true_eq]at hN
    have hll:=hN.2
    rw[mapTs_len]at hll
    have hk:k=3∨k=4∨k=5∨k=6:=by omega
    rcases hk with rfl|rfl|rfl|rfl
    ·exact prn_alw w
    ·obtain⟨x,rfl⟩:=len1 hll
     obtain⟨R,off,e,hA,hR,hc⟩:=hrd.2.2 (by intro h;cases h)
     have e:ao=some ⟨R,off,none⟩:=e
     subst e
     rw[mapTs,mapTs,gdCs,gdCs,Bool.and_true]at hgs
     rw[mapTs,mapTs,fmdRs,fmdRs,Bool.and_true]at hf
     have hc0:w.rangeAt R (off+0*7) (cdS.vals x):=hc 0 (show 0<1 by decide)
     rw[Nat.zero_mul,Nat.add_zero]at hc0
     have hl0:=hlen x (List.mem_cons_self) _ hgs hf
     have hpl:(prA (x.a.d.k,tcX momT [32] (mapT CdA.d x)) 5 6).length≤(tcX momT [32] (mapT CdA.d x)).length+2:=prA_len _ _ _
     have:=prn_not (col:=col) (oth:=oth) (vk:=vk) (vn:=vn) (vs:=vs) (cap:=cap) (off:=off) x (prA (x.a.d.k,tcX momT [32] (mapT CdA.d x)) 5 6) w hR hc0 (by omega) (opT_of (X:=tcX momT [32] (mapT CdA.d x)) (by omega) (prL_56 _ _) (hK x (List.mem_cons_self) _ hgs hf))
     have e2:ndX momT [32] ⟨4,col,oth,⟨vk,vn,vs⟩⟩ (tcXs momT [32] (mapTs CdA.d [x])) = [110,111,116,32]++prA (x.a.d.k,tcX momT [32] (mapT CdA.d x)) 5 6:=by
      cases x;rfl
     rw[e2]
     exact this
    ·obtain⟨x,y,rfl⟩:=len2 hll
     obtain⟨R,off,e,hA,hR,hc⟩:=hrd.2.2 (by intro h;cases h)
     have e:ao=some ⟨R,off,none⟩:=e
     subst e
     rw[mapTs,mapTs,mapTs,gdCs,gdCs,gdCs,Bool.and_true,Bool.and_eq_true]at hgs
     rw[mapTs,mapTs,mapTs,fmdRs,fmdRs,fmdRs,Bool.and_true,Bool.and_eq_true]at hf
     have hc0:w.rangeAt R (off+0*7) (cdS.vals x):=hc 0 (show 0<2 by decide)
     rw[Nat.zero_mul,Nat.add_zero]at hc0
     have hc1:w.rangeAt R (off+1*7) (cdS.vals y):=hc 1 (show 1<2 by decide)
     rw[Nat.one_mul]at hc1
     have hl0:=hlen x (List.mem_cons_self) _ hgs.1 hf.1
     have hl1:=hlen y (List.mem_cons_of_mem _ List.mem_cons_self) _ hgs.2 hf.2
     have hp0:(prA (x.a.d.k,tcX momT [32] (mapT CdA.d x)) 6 6).length≤(tcX momT [32] (mapT CdA.d x)).length+2:=prA_len _ _ _
     have hp1:(prA (y.a.d.k,tcX momT [32] (mapT CdA.d y)) 6 5).length≤(tcX momT [32] (mapT CdA.d y)).length+2:=prA_len _ _ _
     have:=prn_and (col:=col) (oth:=oth) (vk:=vk) (vn:=vn) (vs:=vs) (cap:=cap) (off:=off) x y (prA (x.a.d.k,tcX momT [32] (mapT CdA.d x)) 6 6) (prA (y.a.d.k,tcX momT [32] (mapT CdA.d y)) 6 5) w hR hc0 hc1 (by omega) (by omega)
      (opT_of (X:=tcX momT [32] (mapT CdA.d x)) (by omega) (prL_6 _ _) (hK x (List.mem_cons_self) _ hgs.1 hf.1)) (opT_of (X:=tcX momT [32] (mapT CdA.d y)) (by omega) (prL_65 _ _) (hK y (List.mem_cons_of_mem _ List.mem_cons_self) _ hgs.2 hf.2))
     have e2:ndX momT [32] ⟨5,col,oth,⟨vk,vn,vs⟩⟩ (tcXs momT [32] (mapTs CdA.d [x,y]))=prA (x.a.d.k,tcX momT [32] (mapT CdA.d x)) 6 6 ++ [32,97,110,100,32]++prA (y.a.d.k,tcX momT [32] (mapT CdA.d y)) 6 5:=by
      cases x;cases y;rw[List.append_assoc];rfl
     rw[e2]
     exact this
    ·obtain⟨x,y,rfl⟩:=len2 hll
     obtain⟨R,off,e,hA,hR,hc⟩:=hrd.2.2 (by intro h;cases h)
     have e:ao=some ⟨R,off,none⟩:=e
     subst e
     rw[mapTs,mapTs,mapTs,gdCs,gdCs,gdCs,Bool.and_true,Bool.and_eq_true]at hgs
     rw[mapTs,mapTs,mapTs,fmdRs,fmdRs,fmdRs,Bool.and_true,Bool.and_eq_true]at hf
     have hc0:w.rangeAt R (off+0*7) (cdS.vals x):=hc 0 (show 0<2 by decide)
     rw[Nat.zero_mul,Nat.add_zero]at hc0
     have hc1:w.rangeAt R (off+1*7) (cdS.vals y):=hc 1 (show 1<2 by decide)
     rw[Nat.one_mul]at hc1
     have hl0:=hlen x (List.mem_cons_self) _ hgs.1 hf.1
     have hl1:=hlen y (List.mem_cons_of_mem _ List.mem_cons_self) _ hgs.2 hf.2
     have hp1:(prA (y.a.d.k,tcX momT [32] (mapT CdA.d y)) 6 6).length≤(tcX momT [32] (mapT CdA.d y)).length+2:=prA_len _ _ _
     have:=prn_or (col:=col) (oth:=oth) (vk:=vk) (vn:=vn) (vs:=vs) (cap:=cap) (off:=off) x y (tcX momT [32] (mapT CdA.d x)) (prA (y.a.d.k,tcX momT [32] (mapT CdA.d y)) 6 6) w hR hc0 hc1 (by omega) (by omega)
      (opT_of (X:=tcX momT [32] (mapT CdA.d x)) (by omega) (prL_0 _ _) (hK x (List.mem_cons_self) _ hgs.1 hf.1)) (opT_of (X:=tcX momT [32] (mapT CdA.d y)) (by omega) (prL_6 _ _) (hK y (List.mem_cons_of_mem _ List.mem_cons_self) _ hgs.2 hf.2))
     have e2:ndX momT [32] ⟨6,col,oth,⟨vk,vn,vs⟩⟩ (tcXs momT [32] (mapTs CdA.d [x,y]))=tcX momT [32] (mapT CdA.d x) ++ [32,111,114,32]++prA (y.a.d.k,tcX momT [32] (mapT CdA.d y)) 6 6:=by
      cases x;cases y;rw[List.append_assoc];rfl
     rw[e2]
     exact this
set_option maxRecDepth 100000 in
set_option maxHeartbeats 1000000 in
theorem condtext_c (A:Nat→Prop) (t:Cnd) (w:World) (hI:InC A w t) (hw:Rsv w) (hm:LmO w) :
  Calls Tryz.prog 29 #[.agg (cdS.vals t).toArray] w fun e w'=>e = .returned (if cdQ (mapT CdA.d t)=true then .tuple #[.string ⟨(tcX momT [32] (mapT CdA.d t)).toArray⟩,.int .i64 0]else .tuple #[.string ⟨#[]⟩,.int .i64 1])∧Ext w w':=by
 have hE0:Ext w (w.alloc (.cells (cdS.vals t).toArray 27)):=(Ext.refl w).alloc _
 have HB:=Lib.hid (BxT.new w (cdS.vals t) 27)
 have HC:=Lib.hid (cond_t A t _ (InC.ext hI hE0) (hw.ext hE0))
 cases hq:cdQ (mapT CdA.d t)with
 | false=>
   rw[hq]at HC
   clear hI hw hm hq
   go_enter Tryz.func29,Tryz.ntmps29
   go_wp2_with (first
    | ((with_reducible show wpList _ _ _ (⟨some 4,.load _ _,_,_,_,_⟩::_) _ _);refine wpl_load rfl 27 _ rfl w.heap.size 0 rfl (cdS.vals t) _ HB.out.rd Tryz.underlying27 rfl (info_c t) ?_)
    | (go_at_call 62;(with_reducible refine HC.out.mono ?_);rintro e w1 ⟨rfl,hE1⟩))
   go_ret2
   exact⟨rfl,hE0.trans hE1⟩
 | true=>
   obtain⟨hg,hsz,hf⟩:=cd_gd hq
   rw[szC_map]at hsz
   obtain⟨X,hX⟩:∃X,tcX momT [32] (mapT CdA.d t)=X:=⟨_,rfl⟩
   have HP:Hid (∀wx,Ext w wx→Calls Tryz.prog 63 #[.agg (cdS.vals t).toArray] wx fun e w'=>e = .returned (.string ⟨X.toArray⟩)∧Ext wx w'):=fun wx hE=>by
    have:=printed_c A 60 t hsz (Nat.le_refl _) 1 wx hg hf (InC.ext hI hE) (hm.ext hE)
    rwa [hX]at this
   rw[hq]at HC
   rw[hX]
   clear hI hw hm hq hg hsz hf hX
   go_enter Tryz.func29,Tryz.ntmps29
   go_wp2_with (first
    | ((with_reducible show wpList _ _ _ (⟨some 4,.load _ _,_,_,_,_⟩::_) _ _);refine wpl_load rfl 27 _ rfl w.heap.size 0 rfl (cdS.vals t) _ HB.out.rd Tryz.underlying27 rfl (info_c t) ?_)
    | (go_at_call 62;(with_reducible refine HC.out.mono ?_);rintro e w1 ⟨rfl,hE1⟩;have HB1:=HB.out.ext hE1)
    | ((with_reducible show wpList _ _ _ (⟨some 7,.load _ _,_,_,_,_⟩::_) _ _);refine wpl_load rfl 27 _ rfl w.heap.size 0 rfl (cdS.vals t) _ HB1.rd Tryz.underlying27 rfl (info_c t) ?_)
    | (go_at_call 63;(with_reducible refine(HP.out _ (hE0.trans hE1)).mono ?_);rintro e w2 ⟨rfl,hE2⟩))
   go_ret2
   exact⟨rfl,(hE0.trans hE1).trans hE2⟩
end Go.Proofs.YtlmeinikknoeeaaGreatDoor
namespace Go.Proofs.YtlmeinikknoeeaaGreatDoor
set_option maxRecDepth 100000
set_option maxHeartbeats 2000000
set_option linter.unusedVariables false
set_option linter.unnecessarySimpa false
set_option linter.unusedSimpArgs false
open Go.RowKit
noncomputable def eqC (x y:Tr CdD):Bool:=@decide (x=y) (Classical.propDecidable _)
theorem eqC_iff (x y:Tr CdD):eqC x y=true↔x=y:=@decide_eq_true_iff _ (Classical.propDecidable _)
noncomputable def eqQ (x y:Tr QnD):Bool:=@decide (x=y) (Classical.propDecidable _)
theorem eqQ_iff (x y:Tr QnD):eqQ x y=true↔x=y:=@decide_eq_true_iff _ (Classical.propDecidable _)
theorem yr_eqv2 {o:Oper} {a:Act} {w:World} {x y:Operand} {t2:TypeId} {k n k' n':Int} {s s':List UInt8} {b:Bool} (hop:o.op = .binOp .eql 24 x y t2) (hx:a.eval x = .agg #[.int .i64 k,.int .i64 n,.string ⟨s.toArray⟩]) (hy:a.eval y = .agg #[.int .i64 k',.int .i64 n',.string ⟨s'.toArray⟩]) (hb:decide (k=k'∧n=n'∧s=s')=b):(execOp a.eval o).run Tryz.prog w = .ok (.value (.bool b)) w:=by
 unfold execOp
 simp only[hop,hx,hy]
 simp[Result.andThen,go_sem,eqGuard]
 rw[←hb]
 by_cases h1:k=k'
 ·by_cases h2:n=n'
  ·by_cases h3:s=s'
   ·simp[h1,h2,h3]
   ·simp[h1,h2,h3]
  ·simp[h1,h2]
 ·simp[h1]
theorem eqfC_c (l1 l2:List Cnd) (A B:Nat→Prop) (a1 a2:Option Addr) (c1 c2:Nat) (r:Bool) (w:World) (h1:RdT cdS A w a1 c1 l1) (h2:RdT cdS B w a2 c2 l2)
  (h:∀x∈l1,∀y∈l2,∀wx,Ext w wx→Calls Tryz.prog 100 #[.agg (cdS.vals x).toArray,.agg (cdS.vals y).toArray] wx fun e w'=>e = .returned (.bool (eqC (mapT CdA.d x) (mapT CdA.d y)))∧Ext wx w') (hr:(r=true↔l1.map (mapT CdA.d)=l2.map (mapT CdA.d))) :
  Calls Tryz.prog 177 #[.slice a1 l1.length c1,.slice a2 l2.length c2,.func (.func 100) #[] #[]] w fun e w'=>e = .returned (.bool r)∧Ext w w':=by
 have hcf:∀xs w',(callFunc 100 xs).run Tryz.prog w' = .ok (.enter 100 xs) w':=fun _ _=>by kernel_rfl
 obtain⟨hl1,hc1,hd1⟩:=h1
 obtain⟨hl2,hc2,hd2⟩:=h2
 unfold maxLen at hc1 hc2
 have H1:=Lib.hid hd1
 have H2:=Lib.hid hd2
 have HC:=Lib.hid h
 have HR:=Lib.hid hr
 by_cases hlen:l1.length=l2.length
 case neg=>
  have e1:((l1.length:Int) != (l2.length:Int))=true:=by rw[bne_iff_ne];omega
  have HF:Hid (r=false):=by
   rw[Hid,←Bool.not_eq_true]
   intro q
   have:=congrArg List.length (hr.1 q)
   rw[List.length_map,List.length_map]at this
   exact hlen this
  clear hr h hd1 hd2 hlen
  go_enter Tryz.func177,Tryz.ntmps177
  go_wp2_with fail
  go_ret
  exact⟨by rw[HF.out];rfl,Ext.refl w⟩
 have e1:((l1.length:Int) != (l2.length:Int))=false:=by rw[bne_eq_false_iff_eq];omega
 have HLn:=Lib.hid hlen
 clear hr h hd1 hd2 hlen
 go_enter Tryz.func177,Tryz.ntmps177
 go_wp2_with fail
 go_loopw [17] (fun i wr=>∃j:Nat,j≤l1.length∧i = .int .i64 (j:Int)∧Hid (∀i (h1:i<l1.length) (h2:i<l2.length),i<j→mapT CdA.d l1[i]=mapT CdA.d l2[i])∧Ext w wr) (fun i _=>l1.length-(intOf i).toNat)
 case atStart=>exact⟨0,Nat.zero_le _,rfl,fun i _ _ h=>absurd h (Nat.not_lt_zero i),Ext.refl w⟩
 case round=>
  obtain⟨j,hj,rfl,Hall,hE⟩:=hrel
  by_cases hlt:j<l1.length
  ·have hlt2:j<l2.length:=by have:=HLn.out;omega
   obtain⟨R1,o1,rfl,-,hR1,hx1⟩:=H1.out (by rintro rfl;simp at hlt)
   obtain⟨R2,o2,rfl,-,hR2,hx2⟩:=H2.out (by rintro rfl;simp at hlt2)
   have HV1:Hid (wr.rangeAt R1 (o1+j*7) (cdS.vals l1[j])):=fun k v hv=>(hE.cells _ _ hR1).trans (hx1 j hlt k v hv)
   have HV2:Hid (∀W,Ext wr W→W.rangeAt R2 (o2+j*7) (cdS.vals l2[j])):=fun W hEW k v hv=>((hE.trans hEW).cells _ _ hR2).trans (hx2 j hlt2 k v hv)
   have HK:=Lib.hid (HC.out _ (List.getElem_mem hlt) _ (List.getElem_mem hlt2))
   have HQ:Hid (∀q:Bool,(eqC (mapT CdA.d l1[j]) (mapT CdA.d l2[j])=q)→(q=true→∀i (h1:i<l1.length) (h2:i<l2.length),i<j+1→mapT CdA.d l1[i]=mapT CdA.d l2[i])∧(q=false→r=false)):=fun q hq=>by
    constructor
    ·rintro rfl i g1 g2 g3
     by_cases e:i=j
     ·subst e;exact(eqC_iff _ _).1 hq
     ·exact Hall.out i g1 g2 (by omega)
    ·rintro rfl
     rw[←Bool.not_eq_true]
     intro q
     have:=HR.out.1 q
     have:=congrArg (fun z=>z[j]?) this
     simp only[List.getElem?_map,List.getElem?_eq_getElem hlt,List.getElem?_eq_getElem hlt2,Option.map_some,Option.some.injEq]at this
     rw[(eqC_iff _ _).2 this]at hq
     cases hq
   obtain⟨x,hx⟩:∃x,x=l1[j]:=⟨_,rfl⟩
   obtain⟨y,hy⟩:∃y,y=l2[j]:=⟨_,rfl⟩
   rw[←hx]at HV1 HK HQ
   rw[←hy]at HV2 HK HQ
   clear hx hy hx1 hx2
   obtain⟨q,hq⟩:∃q,eqC (mapT CdA.d x) (mapT CdA.d y)=q:=⟨_,rfl⟩
   have HQ:=Lib.hid (HQ.out q hq)
   rw[hq]at HK
   clear hq
   cases q
   all_goals
    go_wp2_with (first
     | ((with_reducible show wpList _ _ _ (⟨some 21,.load _ _,_,_,_,_⟩::_) _ _);refine wpl_load rfl 27 _ rfl R1 (o1+j*7) rfl (cdS.vals x) _ HV1.out Tryz.underlying27 rfl (info_c x) ?_)
     | ((with_reducible show wpList _ _ _ (⟨some 8,.alloc _,_,_,_,_⟩::_) _ _);refine wpl_new rfl 27 zeroC rfl alloc_c ?_;intro W1 hE1 hB1 hs1)
     | ((with_reducible show wpList _ _ _ (⟨none,.store _ (.tmp 8) _,_,_,_,_⟩::_) _ _);refine wpl_st rfl 27 _ _ rfl wr.heap.size zeroC (cdS.vals x) rfl rfl hB1 rfl (info_c x) (vals_one_c x) ?_;intro W2 hF2 hB2;have hE2:Ext wr W2:=ext_frm ((Frm.of_ext hE1).step hF2 (fun k h1 h2=>by omega));have HB2:=Lib.hid hB2;have hsz2:wr.heap.size<W2.heap.size:=hB2.hD;clear hB1 hs1 hB2 hF2 hE1)
     | ((with_reducible show wpList _ _ _ (⟨some 25,.load _ _,_,_,_,_⟩::_) _ _);refine wpl_elem rfl rfl rfl 27 _ _ _ rfl rfl rfl R2 (o2+j*7) rfl (cdS.vals y) zeroC _ (HV2.out W2 hE2) Tryz.underlying27 rfl (info_c y) (vals_one_c y) rfl alloc_c rfl rfl ?_;intro W3 hE3 hB3;have HB3:=HB2.out.ext hE3)
     | ((with_reducible show wpList _ _ _ (⟨some 27,.load _ _,_,_,_,_⟩::_) _ _);refine wpl_load rfl 27 _ rfl wr.heap.size 0 rfl (cdS.vals x) _ HB3.rd Tryz.underlying27 rfl (info_c x) ?_)
     | ((with_reducible show wpList _ _ _ (⟨some 28,.load _ _,_,_,_,_⟩::_) _ _);refine wpl_load rfl 27 _ rfl W2.heap.size 0 rfl (cdS.vals y) _ hB3.2 Tryz.underlying27 rfl (info_c y) ?_)
     | (go_at_call 100;(with_reducible refine(HK.out W3 ((hE.trans hE2).trans hE3)).mono ?_);rintro e w4 ⟨rfl,hE4⟩))
   ·go_ret
    exact⟨by rw[HQ.out.2 (by trivial)];rfl,((hE.trans hE2).trans hE3).trans hE4⟩
   ·go_roundw
    case rel=>exact⟨j+1,by omega,by go_num,HQ.out.1 (by trivial),((hE.trans hE2).trans hE3).trans hE4⟩
    case measure=>simp[intOf];omega
  ·obtain rfl:j=l1.length:=by omega
   have HT:Hid (r=true):=by
    rw[Hid,HR.out]
    apply List.ext_getElem (by rw[List.length_map,List.length_map];exact HLn.out)
    intro i g1 g2
    rw[List.length_map]at g1 g2
    rw[List.getElem_map,List.getElem_map]
    exact Hall.out i g1 g2 g1
   go_wp2_with fail
   go_ret
   exact⟨by rw[HT.out];rfl,hE⟩
theorem eqfQ_c (l1 l2:List Qry) (A B:Nat→Prop) (a1 a2:Option Addr) (c1 c2:Nat) (r:Bool) (w:World) (h1:RdT qnS A w a1 c1 l1) (h2:RdT qnS B w a2 c2 l2)
  (h:∀x∈l1,∀y∈l2,∀wx,Ext w wx→Calls Tryz.prog 51 #[.agg (qnS.vals x).toArray,.agg (qnS.vals y).toArray] wx fun e w'=>e = .returned (.bool (eqQ (mapT QnA.d x) (mapT QnA.d y)))∧Ext wx w') (hr:(r=true↔l1.map (mapT QnA.d)=l2.map (mapT QnA.d))) :
  Calls Tryz.prog 101 #[.slice a1 l1.length c1,.slice a2 l2.length c2,.func (.func 51) #[] #[]] w fun e w'=>e = .returned (.bool r)∧Ext w w':=by
 have hcf:∀xs w',(callFunc 51 xs).run Tryz.prog w' = .ok (.enter 51 xs) w':=fun _ _=>by kernel_rfl
 obtain⟨hl1,hc1,hd1⟩:=h1
 obtain⟨hl2,hc2,hd2⟩:=h2
 unfold maxLen at hc1 hc2
 have H1:=Lib.hid hd1
 have H2:=Lib.hid hd2
 have HC:=Lib.hid h
 have HR:=Lib.hid hr
 by_cases hlen:l1.length=l2.length
 case neg=>
  have e1:((l1.length:Int) != (l2.length:Int))=true:=by rw[bne_iff_ne];omega
  have HF:Hid (r=false):=by
   rw[Hid,←Bool.not_eq_true]
   intro q
   have:=congrArg List.length (hr.1 q)
   rw[List.length_map,List.length_map]at this
   exact hlen this
  clear hr h hd1 hd2 hlen
  go_enter Tryz.func101,Tryz.ntmps101
  go_wp2_with fail
  go_ret
  exact⟨by rw[HF.out];rfl,Ext.refl w⟩
 have e1:((l1.length:Int) != (l2.length:Int))=false:=by rw[bne_eq_false_iff_eq];omega
 have HLn:=Lib.hid hlen
 clear hr h hd1 hd2 hlen
 go_enter Tryz.func101,Tryz.ntmps101
 go_wp2_with fail
 go_loopw [17] (fun i wr=>∃j:Nat,j≤l1.length∧i = .int .i64 (j:Int)∧Hid (∀i (h1:i<l1.length) (h2:i<l2.length),i<j→mapT QnA.d l1[i]=mapT QnA.d l2[i])∧Ext w wr) (fun i _=>l1.length-(intOf i).toNat)
 case atStart=>exact⟨0,Nat.zero_le _,rfl,fun i _ _ h=>absurd h (Nat.not_lt_zero i),Ext.refl w⟩
 case round=>
  obtain⟨j,hj,rfl,Hall,hE⟩:=hrel
  by_cases hlt:j<l1.length
  ·have hlt2:j<l2.length:=by have:=HLn.out;omega
   obtain⟨R1,o1,rfl,-,hR1,hx1⟩:=H1.out (by rintro rfl;simp at hlt)
   obtain⟨R2,o2,rfl,-,hR2,hx2⟩:=H2.out (by rintro rfl;simp at hlt2)
   have HV1:Hid (wr.rangeAt R1 (o1+j*16) (qnS.vals l1[j])):=fun k v hv=>(hE.cells _ _ hR1).trans (hx1 j hlt k v hv)
   have HV2:Hid (∀W,Ext wr W→W.rangeAt R2 (o2+j*16) (qnS.vals l2[j])):=fun W hEW k v hv=>((hE.trans hEW).cells _ _ hR2).trans (hx2 j hlt2 k v hv)
   have HK:=Lib.hid (HC.out _ (List.getElem_mem hlt) _ (List.getElem_mem hlt2))
   have HQ:Hid (∀q:Bool,(eqQ (mapT QnA.d l1[j]) (mapT QnA.d l2[j])=q)→(q=true→∀i (h1:i<l1.length) (h2:i<l2.length),i<j+1→mapT QnA.d l1[i]=mapT QnA.d l2[i])∧(q=false→r=false)):=fun q hq=>by
    constructor
    ·rintro rfl i g1 g2 g3
     by_cases e:i=j
     ·subst e;exact(eqQ_iff _ _).1 hq
     ·exact Hall.out i g1 g2 (by omega)
    ·rintro rfl
     rw[←Bool.not_eq_true]
     intro q
     have:=HR.out.1 q
     have:=congrArg (fun z=>z[j]?) this
     simp only[List.getElem?_map,List.getElem?_eq_getElem hlt,List.getElem?_eq_getElem hlt2,Option.map_some,Option.some.injEq]at this
     rw[(eqQ_iff _ _).2 this]at hq
     cases hq
   obtain⟨x,hx⟩:∃x,x=l1[j]:=⟨_,rfl⟩
   obtain⟨y,hy⟩:∃y,y=l2[j]:=⟨_,rfl⟩
   rw[←hx]at HV1 HK HQ
   rw[←hy]at HV2 HK HQ
   clear hx hy hx1 hx2
   obtain⟨q,hq⟩:∃q,eqQ (mapT QnA.d x) (mapT QnA.d y)=q:=⟨_,rfl⟩
   have HQ:=Lib.hid (HQ.out q hq)
   rw[hq]at HK
   clear hq
   cases q
   all_goals
    go_wp2_with (first
     | ((with_reducible show wpList _ _ _ (⟨some 21,.load _ _,_,_,_,_⟩::_) _ _);refine wpl_load rfl 32 _ rfl R1 (o1+j*16) rfl (qnS.vals x) _ HV1.out Tryz.underlying32 rfl (info_q x) ?_)
     | ((with_reducible show wpList _ _ _ (⟨some 8,.alloc _,_,_,_,_⟩::_) _ _);refine wpl_new rfl 32 zeroQ rfl alloc_q ?_;intro W1 hE1 hB1 hs1)
     | ((with_reducible show wpList _ _ _ (⟨none,.store _ (.tmp 8) _,_,_,_,_⟩::_) _ _);refine wpl_st rfl 32 _ _ rfl wr.heap.size zeroQ (qnS.vals x) rfl rfl hB1 rfl (info_q x) (vals_one_q x) ?_;intro W2 hF2 hB2;have hE2:Ext wr W2:=ext_frm ((Frm.of_ext hE1).step hF2 (fun k h1 h2=>by omega));have HB2:=Lib.hid hB2;have hsz2:wr.heap.size<W2.heap.size:=hB2.hD;clear hB1 hs1 hB2 hF2 hE1)
     | ((with_reducible show wpList _ _ _ (⟨some 25,.load _ _,_,_,_,_⟩::_) _ _);refine wpl_elem rfl rfl rfl 32 _ _ _ rfl rfl rfl R2 (o2+j*16) rfl (qnS.vals y) zeroQ _ (HV2.out W2 hE2) Tryz.underlying32 rfl (info_q y) (vals_one_q y) rfl alloc_q rfl rfl ?_;intro W3 hE3 hB3;have HB3:=HB2.out.ext hE3)
     | ((with_reducible show wpList _ _ _ (⟨some 27,.load _ _,_,_,_,_⟩::_) _ _);refine wpl_load rfl 32 _ rfl wr.heap.size 0 rfl (qnS.vals x) _ HB3.rd Tryz.underlying32 rfl (info_q x) ?_)
     | ((with_reducible show wpList _ _ _ (⟨some 28,.load _ _,_,_,_,_⟩::_) _ _);refine wpl_load rfl 32 _ rfl W2.heap.size 0 rfl (qnS.vals y) _ hB3.2 Tryz.underlying32 rfl (info_q y) ?_)
     | (go_at_call 51;(with_reducible refine(HK.out W3 ((hE.trans hE2).trans hE3)).mono ?_);rintro e w4 ⟨rfl,hE4⟩))
   ·go_ret
    exact⟨by rw[HQ.out.2 (by trivial)];rfl,((hE.trans hE2).trans hE3).trans hE4⟩
   ·go_roundw
    case rel=>exact⟨j+1,by omega,by go_num,HQ.out.1 (by trivial),((hE.trans hE2).trans hE3).trans hE4⟩
    case measure=>simp[intOf];omega
  ·obtain rfl:j=l1.length:=by omega
   have HT:Hid (r=true):=by
    rw[Hid,HR.out]
    apply List.ext_getElem (by rw[List.length_map,List.length_map];exact HLn.out)
    intro i g1 g2
    rw[List.length_map]at g1 g2
    rw[List.getElem_map,List.getElem_map]
    exact Hall.out i g1 g2 g1
   go_wp2_with fail
   go_ret
   exact⟨by rw[HT.out];rfl,hE⟩
end Go.Proofs.YtlmeinikknoeeaaGreatDoor
namespace Go.Proofs.YtlmeinikknoeeaaGreatDoor
set_option linter.unusedVariables false
set_option linter.unnecessarySimpa false
set_option linter.unusedSimpArgs false
open Go.RowKit
set_option maxRecDepth 100000 in
set_option maxHeartbeats 2000000 in
theorem eqTx_c (l1 l2:List (List UInt8)) (A B:Nat→Prop) (a1 a2:Option Addr) (c1 c2:Nat) (r:Bool) (w:World) (h1:TxA A w a1 c1 l1) (h2:TxA B w a2 c2 l2) (hr:r=true↔l1=l2) :
  Calls Tryz.prog 24 #[.slice a1 l1.length c1,.slice a2 l2.length c2] w fun e w'=>e = .returned (.bool r)∧Ext w w':=by
 obtain⟨hl1,hc1,-,hd1⟩:=h1
 obtain⟨hl2,hc2,-,hd2⟩:=h2
 unfold maxLen at hc1 hc2
 have H1:=Lib.hid hd1
 have H2:=Lib.hid hd2
 have HR:=Lib.hid hr
 by_cases hlen:l1.length=l2.length
 case neg=>
  have e1:((l1.length:Int) != (l2.length:Int))=true:=by rw[bne_iff_ne];omega
  have HF:Hid (r=false):=by
   rw[Hid,←Bool.not_eq_true]
   intro q
   exact hlen (congrArg List.length (hr.1 q))
  clear hr hd1 hd2 hlen
  go_enter Tryz.func24,Tryz.ntmps24
  go_wp2_with fail
  go_ret
  exact⟨by rw[HF.out];rfl,Ext.refl w⟩
 have e1:((l1.length:Int) != (l2.length:Int))=false:=by rw[bne_eq_false_iff_eq];omega
 have HLn:=Lib.hid hlen
 clear hr hd1 hd2 hlen
 go_enter Tryz.func24,Tryz.ntmps24
 go_wp2_with fail
 go_loopw [13] (fun i wr=>∃j:Nat,j≤l1.length∧i = .int .i64 (j:Int)∧Hid (∀i (h1:i<l1.length) (h2:i<l2.length),i<j→l1[i]=l2[i])∧Ext w wr) (fun i _=>l1.length-(intOf i).toNat)
 case atStart=>exact⟨0,Nat.zero_le _,rfl,fun i _ _ h=>absurd h (Nat.not_lt_zero i),Ext.refl w⟩
 case round=>
  obtain⟨j,hj,rfl,Hall,hE⟩:=hrel
  by_cases hlt:j<l1.length
  ·have hlt2:j<l2.length:=by have:=HLn.out;omega
   have hlt2i:(j:Int)<(l2.length:Int):=by omega
   have hlt1i:(j:Int)<(l1.length:Int):=by omega
   obtain⟨R1,o1,rfl,-,hR1,hx1⟩:=H1.out (by rintro rfl;simp at hlt)
   obtain⟨R2,o2,rfl,-,hR2,hx2⟩:=H2.out (by rintro rfl;simp at hlt2)
   have d1:=(hE.cells _ _ hR1).trans (hx1 j hlt)
   have d2:=(hE.cells _ _ hR2).trans (hx2 j hlt2)
   by_cases hq:l1[j]=l2[j]
   ·have Hn:Hid (∀i (h1:i<l1.length) (h2:i<l2.length),i<j+1→l1[i]=l2[i]):=fun i g1 g2 g3=>by
     by_cases e:i=j
     ·subst e;exact hq
     ·exact Hall.out i g1 g2 (by omega)
    rw[←hq]at d2
    obtain⟨x,hx⟩:∃x,x=l1[j]:=⟨_,rfl⟩
    rw[←hx]at d1 d2
    clear hx hq hx1 hx2
    go_wp2_with fail
    go_region
    all_goals
     go_wp2_with fail
     go_roundw
     case rel=>exact⟨j+1,by omega,by go_num,Hn,hE.trans (by(repeat (with_reducible (first|assumption|exact Ext.refl _|refine Ext.alloc ?_ _|refine Ext.setCell ?_ (by simp) _|refine Ext.setCell ?_ (by simp;omega) _|refine Ext.drewN ?_ _|refine Ext.drew ?_))))⟩
     case measure=>simp[intOf];omega
   ·have HF:Hid (r=false):=by
     rw[Hid,←Bool.not_eq_true]
     intro q
     have h:=HR.out.1 q
     subst h
     exact hq rfl
    obtain⟨x,hx⟩:∃x,x=l1[j]:=⟨_,rfl⟩
    obtain⟨y,hy⟩:∃y,y=l2[j]:=⟨_,rfl⟩
    rw[←hx]at d1 hq
    rw[←hy]at d2 hq
    have hne:(x==y)=false:=by rw[beq_eq_false_iff_ne];exact hq
    clear hx hy hq hx1 hx2
    go_wp2_with fail
    go_region
    all_goals
     go_wp2_with fail
     go_ret
     exact⟨by rw[HF.out];rfl,hE.trans (by(repeat (with_reducible (first|assumption|exact Ext.refl _|refine Ext.alloc ?_ _|refine Ext.setCell ?_ (by simp) _|refine Ext.setCell ?_ (by simp;omega) _|refine Ext.drewN ?_ _|refine Ext.drew ?_))))⟩
  ·obtain rfl:j=l1.length:=by omega
   have HT:Hid (r=true):=by
    rw[Hid,HR.out]
    exact List.ext_getElem HLn.out (fun i g1 g2=>Hall.out i g1 g2 g1)
   go_wp2_with fail
   go_ret
   exact⟨by rw[HT.out];rfl,hE⟩
end Go.Proofs.YtlmeinikknoeeaaGreatDoor
