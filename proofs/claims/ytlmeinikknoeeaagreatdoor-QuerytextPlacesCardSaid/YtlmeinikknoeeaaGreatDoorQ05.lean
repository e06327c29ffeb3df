/- Queries: the parser in memory; a list of names. -/
import Derived.Test.YtlmeinikknoeeaaGreatDoorQ04
import Derived.Test.YtlmeinikknoeeaaGreatDoorQ00
import Derived.Deep.LoopGhost
import Derived.Orders
namespace Go.Proofs.YtlmeinikknoeeaaGreatDoor
set_option linter.unusedVariables false
set_option linter.unnecessarySimpa false
set_option linter.unusedSimpArgs false
open Go.RowKit
theorem infoStrZ:(Tryz.prog.info? 9).map (fun i=>(i.zero,i.size,i.bytes))=some (some (.string .empty),1,16):=by kernel_rfl
theorem own_newZ (w:World) (x:List UInt8):(w.alloc (.cells #[.string ⟨x.toArray⟩] 9)).ownsRow w.heap.size 9 1 (.slice (some ⟨w.heap.size,0,none⟩) 1 1) 1 (sv [x]):=by
 exact⟨rfl,.inr ⟨w.heap.size,1,#[.string ⟨x.toArray⟩],rfl,Nat.le_refl _,heap_alloc_new w _,Nat.le_refl _,by decide,rfl,rfl⟩⟩
theorem own_frmZ {w w':World} {b size n:Nat} {e:TypeId} {v:Value} {xs:List Value} {F:Nat→Prop} (h:w.ownsRow b e size v n xs) (hF:Frm F w w') (hn:∀k,b≤k→k<w.heap.size→¬F k):w'.ownsRow b e size v n xs:=by
 refine⟨h.1,?_⟩
 rcases h.2 with q|⟨g,cap,cur,rfl,h1,h2,h3⟩
 ·exact .inl q
 ·have hlt:g<w.heap.size:=(Array.getElem?_eq_some_iff.1 h2).1
  exact .inr ⟨g,cap,cur,rfl,h1,(hF.block g hlt (hn g h1 hlt)).trans h2,h3⟩
def NmV (b0:Nat) (l:List (List UInt8)) (v:Value) (w:World):Prop:=∃ao cap,v = .slice ao l.length cap∧TxA (fun k=>b0≤k) w ao cap l
theorem NmV.of_own {b0 b n:Nat} {l:List (List UInt8)} {ao:Option Addr} {cap:Nat} {w:World} (h:w.ownsRow b 9 1 (.slice ao n cap) n (sv l)) (hn:n=l.length) (hB:b0≤b) (hs:∀s∈l,Bs s):TxA (fun k=>b0≤k) w ao cap l:=by
 subst hn
 by_cases hl:l = []
 ·subst hl
  rcases h.2 with⟨e,_⟩|⟨g,c,cur,e,h1,h2,h3,h4,_⟩
  ·injection e with e1 e2 e3
   subst e1 e3
   exact TxA.nil _ _
  ·injection e with e1 e2 e3
   subst e3
   exact⟨h3,h4,hs,fun q=>absurd rfl q⟩
 ·obtain⟨R,c,e,h1,h2,h3,h4⟩:=RdS.of_own h rfl hl
  injection e with e1 e2 e3
  subst e1 e3
  exact⟨h1,h2,hs,fun _=>⟨R,0,rfl,by omega,h3⟩⟩
theorem naP_ok {L:List TkD} {i j:Nat} {s:List UInt8} (h:naP L i = .ok s j):j=i+1∧nmQ s=true∧i<L.length:=by
 unfold naP pkP at h
 cases hi:L[i]? with
 | none=>rw[hi]at h;cases h
 | some t=>
   rw[hi]at h
   have h:(if t.k=1∧nmQ t.tx=true then Rs.ok t.tx (i+1)else wrP L 3 i)=Rs.ok s j:=h
   split at h
   ·rename_i q
    injection h with h1 h2
    rw[←h1]
    exact⟨h2.symm,q.2,(List.getElem?_eq_some_iff.1 hi).1⟩
   ·rw[wrP_at hi]at h;cases h
theorem nmQ_len {s:List UInt8} (h:nmQ s=true):s.length≤30∧s≠[]:=by
 unfold nmQ nmH at h
 simp only[Bool.and_eq_true,decide_eq_true_eq]at h
 refine⟨h.1.1.1.2,?_⟩
 rintro rfl
 exact absurd h.1.1.1.1 (by simp)
theorem nasL_no {L:List TkD} {g i:Nat} {P:List (List UInt8)} (h:isP L wCm i=false):nasL L g P i = .ok P i:=by
 cases g with
 | zero=>rfl
 | succ g=>rw[nasL,h];rfl
theorem nasL_yes {L:List TkD} {g i:Nat} {P:List (List UInt8)} (h:isP L wCm i=true):nasL L (g+1) P i=(naP L (i+1)).bind fun s j=>nasL L g (P ++ [s]) j:=by rw[nasL,h];rfl
set_option maxRecDepth 100000 in
set_option maxHeartbeats 4000000 in
theorem pnames_c {L:List TkD} {ao:Option Addr} {cap B i:Nat} {w:World} (h:Psr L ao cap B i w) :
  Calls Tryz.prog 112 #[.pointer (some ⟨B,0,none⟩)] w (PR L ao cap B w (NmV w.heap.size) (nasP L i)):=by
 have hl:=h.hl
 have HP:=Lib.hid (pname_c h)
 cases hn:naP L i with
 | bad l c e=>
   have HB:Hid (nasP L i = .bad l c e):=by rw[Hid];unfold nasP;rw[hn];rfl
   rw[hn]at HP
   clear hn
   go_enter Tryz.func112,Tryz.ntmps112
   go_wp2_with (first
    | (go_at_call 109;(with_reducible refine HP.out.mono ?_);rintro x w1 ⟨hF,rfl⟩))
   exact⟨rfl,PR.no HB.out hF⟩
 | ok s j=>
   obtain⟨hj,hs,hi⟩:=naP_ok hn
   subst hj
   obtain⟨G,hG⟩:∃G,nasP L i=G:=⟨_,rfl⟩
   have HG:Hid (nasL L L.length [s] (i+1)=G):=by rw[Hid,←hG];unfold nasP;rw[hn];rfl
   have HQ:=Lib.hid hG
   have Hs:=Lib.hid hs
   rw[hn]at HP
   obtain⟨i0,hi0,hz0,hz1,hz2⟩:=info_parts infoStrZ
   have Hi:=Lib.hid hi0;have Hz0:=Lib.hid hz0;have Hz1:=Lib.hid hz1;have Hz2:=Lib.hid hz2
   clear hn hi hG hi0 hz0 hz1 hz2 hs
   have hBl:=h.hB
   go_enter Tryz.func112,Tryz.ntmps112
   go_wp2_with (first
    | (go_at_call 109;(with_reducible refine HP.out.mono ?_);rintro x w1 ⟨hF,v,rfl,rfl,hP1⟩))
   have hsz:=hF.size
   go_loopg [3] L.length (fun g v wx=>∃(P:List (List UInt8)) (k:Nat) (bo:Option Addr) (cv:Nat),v = .slice bo P.length cv∧P.length≤k∧L.length≤k+g∧Hid (Psr L ao cap B k wx)∧Hid (wx.ownsRow w1.heap.size 9 1 v P.length (sv P))∧Hid (Frm (fun k=>k=B) w wx)∧Hid (∀s∈P,nmQ s=true)∧Hid (nasL L g P k=G)∧B<w1.heap.size∧w1.heap.size≤wx.heap.size)
   case atStart=>exact⟨[s],i+1,some ⟨w1.heap.size,0,none⟩,1,rfl,by simp,by omega,hP1.ext ((Ext.refl _).alloc _),own_newZ w1 s,hF.trans (Frm.of_ext ((Ext.refl _).alloc _)),(fun x hx=>by rw[List.mem_singleton.1 hx];exact Hs.out),HG.out,by omega,by simp⟩
   case round=>
    obtain⟨P,k,bo,cv,rfl,hpk,hgk,hps,hown,hfr,hal,hrec,hB1,hz⟩:=hrel
    cases hc:isP L wCm k with
    | false=>
      have HA:=Lib.hid (acc_no hps.out wCm (by decide) hc)
      have HGk:Hid (G = .ok P k):=by rw[Hid,←hrec.out];exact nasL_no hc
      clear hc
      go_wp2_with (first
       | (go_at_call 113;(with_reducible refine HA.out.mono ?_);rintro x w2 ⟨rfl,n,rfl⟩))
      go_ret
      refine PR.fin (HQ.out.trans HGk.out) ⟨hps.out,hfr.out⟩ ((Ext.refl _).drewN n) ⟨bo,cv,rfl,?_⟩
      exact TxA.ext (NmV.of_own hown.out rfl hsz (fun x hx=>by have:=nmQ_len (hal.out x hx);unfold Bs;omega)) ((Ext.refl _).drewN n)
    | true=>
      have HA:=Lib.hid (acc_yes hps.out wCm (by decide) hc)
      have hlt:=is_lt hc
      obtain⟨g',rfl⟩:∃g',gk=g'+1:=⟨gk-1,by omega⟩
      have HY:Hid ((naP L (k+1)).bind (fun s j=>nasL L g' (P ++ [s]) j)=G):=by rw[Hid,←hrec.out,nasL_yes hc]
      have HN:=fun w' (hP:Psr L ao cap B (k+1) w')=>Lib.hid (pname_c hP)
      clear hc
      cases hn:naP L (k+1)with
      | bad l c e=>
        rw[hn]at HN HY
        have HB:Hid (nasP L i = .bad l c e):=by rw[Hid,HQ.out,←HY.out];rfl
        clear hn
        go_wp2_with (first
         | (go_at_call 113;(with_reducible refine HA.out.mono ?_);rintro x w2 ⟨rfl,hP2,hF2⟩)
         | (go_at_call 109;(with_reducible refine(HN _ hP2).out.mono ?_);rintro x w3 ⟨hF3,rfl⟩))
        exact⟨rfl,PR.no HB.out ((hfr.out.trans hF2).trans hF3)⟩
      | ok s2 j2=>
        rw[hn]at HN HY
        obtain⟨hj,hs,hi⟩:=naP_ok hn
        subst hj
        have HY2:Hid (nasL L g' (P ++ [s2]) (k+1+1)=G):=HY.out
        have Hs2:=Lib.hid hs
        clear hn hs
        go_wp2_with (first
         | (go_at_call 113;(with_reducible refine HA.out.mono ?_);rintro x w2 ⟨rfl,hP2,hF2⟩)
         | (go_at_call 109;(with_reducible refine(HN _ hP2).out.mono ?_);rintro x w3 ⟨hF3,v,rfl,rfl,hP3⟩;have hown3:=own_frmZ hown.out (hF2.trans hF3) (fun q h1 h2 e=>by omega);have hz3:=(hF2.trans hF3).size)
         | (at_builtin;refine wpList_append_own _ rfl _ _ 22 rfl w1.heap.size 9 i0 (.string ByteArray.empty) 1 16 Tryz.underlying22 Hi.out Hz0.out Hz1.out Hz2.out rfl (by decide) _ _ _ rfl (hown3.alloc _) ⟨w3.heap.size,0,none⟩ 1 1 [.string ⟨s2.toArray⟩] rfl rfl (cell_one_new _ _ _) (fun x hx=>by simp at hx;subst hx;rfl) (by unfold maxLen;omega) (by omega) (by simp;omega) ?_;intro v' w4 hown' hgrow hnil))
        obtain⟨bo2,cv2,rfl⟩:=own_slice hown'
        have hfr4:Frm (fun k=>k=B) w w4:=(((hfr.out.trans hF2).trans hF3).alloc _).grown hgrow (fun q hq=>.inr (by have:=(hown.out.lt q hq).1;omega))
        have hb4:w4.heap[B]? = w3.heap[B]? :=by
         have hB3:=hP3.hB
         rw[hgrow.block B (by simp;omega) (fun e=>by have:=(hown.out.lt B e.symm).1;omega)]
         exact(Ext.refl w3).alloc _ |>.block B hB3
        have hz4:=hgrow.size
        have hz5:w3.heap.size≤w4.heap.size:=by simp at hz4;omega
        go_roundg g'
        case measure=>omega
        case rel=>exact⟨P ++ [s2],k+1+1,bo2,cv2,by rw[List.length_append];rfl,by rw[List.length_append,List.length_singleton];omega,by omega,h.mv hfr4 hP3 hb4,by rw[Hid,sv_app,List.length_append];exact hown',hfr4,(fun x hx=>by
         rcases List.mem_append.1 hx with q|q
         ·exact hal.out x q
         ·rw[List.mem_singleton.1 q];exact Hs2.out),HY2.out,hB1,by omega⟩
end Go.Proofs.YtlmeinikknoeeaaGreatDoor
namespace Go.Proofs.YtlmeinikknoeeaaGreatDoor
set_option linter.unusedVariables false
set_option linter.unnecessarySimpa false
set_option linter.unusedSimpArgs false
open Go
def gdeps (md:Region.Mode) (ops:Array Oper) (i:Nat):List Nat:=((ops[i]?).map fun o=>(o.after.toList.filter (Region.binds md)).map (·.on)).getD []
def greach (md:Region.Mode) (ops:Array Oper):Nat→Nat→Nat→Bool
 | 0,i,j=>i==j
 | f+1,i,j=>i==j||(gdeps md ops i).any fun k=>greach md ops f k j
def growChk (md:Region.Mode) (ops:Array Oper) (n m:Nat) (d:Nat→Nat):Bool:=
 (List.range n).all (fun i=>(gdeps md ops i).all (fun j=>decide (j<i))&&((ops[i]?).map fun o=>decide (o.dst=some (d i))&&o.guard.isNone).getD false) &&
 (List.range m).all (fun t=>(List.range n).all fun j=>(gdeps md ops (n+t)).any fun k=>greach md ops n k j)&&decide (n+m=ops.size)
def Down (md:Region.Mode) (ops:Array Oper) (listed:Array Bool):Prop:=∀i,listed.getD i false=true→∀j∈gdeps md ops i,listed.getD j false=true
theorem greach_down {md:Region.Mode} {ops:Array Oper} {listed:Array Bool} (h:Down md ops listed):∀f i j,greach md ops f i j=true→listed.getD i false=true→listed.getD j false=true
 | 0,i,j,hr,hi=>by simp only[greach,beq_iff_eq]at hr;rw[←hr];exact hi
 | f+1,i,j,hr,hi=>by
   simp only[greach,Bool.or_eq_true,beq_iff_eq,List.any_eq_true]at hr
   rcases hr with rfl|⟨k,hk,hr⟩
   ·exact hi
   ·exact greach_down h f k j hr (h i hi k hk)
theorem mem_gdeps {md:Region.Mode} {ops:Array Oper} {i:Nat} {o:Oper} (ho:ops[i]? = some o) {j:Nat}:j∈gdeps md ops i↔∃e∈o.after,Region.binds md e=true∧e.on=j:=by
 unfold gdeps
 rw[ho]
 simp[and_assoc]
theorem least_of:∀(l:List Nat),l≠[]→∃i∈l,∀j∈l,i≤j
 | [x],_=>⟨x,by simp,by simp⟩
 | x::y::r,_=>by
   obtain⟨i,hi,h⟩:=least_of (y::r) (by simp)
   by_cases q:x≤i
   ·refine⟨x,by simp,fun j hj=>?_⟩
    rcases List.mem_cons.1 hj with rfl|hj
    ·exact Nat.le_refl _
    ·exact Nat.le_trans q (h j hj)
   ·refine⟨i,List.mem_cons_of_mem _ hi,fun j hj=>?_⟩
    rcases List.mem_cons.1 hj with rfl|hj
    ·omega
    ·exact h j hj
def putAll (d:Nat→Nat) (vals:Nat→Value) (n:Nat) (a:Act):Act:=(List.range n).foldl (fun b j=>b.put (some (d j)) (vals j)) a
theorem putAll_succ (d:Nat→Nat) (vals:Nat→Value) (n:Nat) (a:Act):putAll d vals (n+1) a=(putAll d vals n a).put (some (d n)) (vals n):=by
 unfold putAll;rw[List.range_succ,List.foldl_append];rfl
theorem putAll_spec (d:Nat→Nat) (a a0:Act) (hs:a.tmps.size=a0.tmps.size):∀n,(∀i,i<n→d i<a0.tmps.size)→
  (putAll d (fun i=>a.eval (.tmp (d i))) n a0).defers=a0.defers∧(putAll d (fun i=>a.eval (.tmp (d i))) n a0).tmps.size=a0.tmps.size∧
  ∀k,(putAll d (fun i=>a.eval (.tmp (d i))) n a0).tmps[k]? = if (∃j,j<n∧d j=k)then a.tmps[k]? else a0.tmps[k]?
 | 0,_=>⟨rfl,rfl,fun k=>by rw[if_neg (by rintro⟨j,hj,_⟩;omega)];rfl⟩
 | n+1,hd=>by
   obtain⟨h1,h2,h3⟩:=putAll_spec d a a0 hs n (fun i hi=>hd i (by omega))
   rw[putAll_succ]
   refine⟨h1,by simp[Act.put,h2],fun k=>?_⟩
   have hn:=hd n (by omega)
   simp only[Act.put,Array.getElem?_setIfInBounds]
   by_cases e:d n=k
   ·subst e
    rw[if_pos rfl,if_pos (by rw[h2];exact hn),if_pos ⟨n,by omega,rfl⟩,Array.getElem?_eq_getElem (by omega)]
    simp[Act.eval,hs,hn]
   ·rw[if_neg e,h3]
    by_cases q:∃j,j<n∧d j=k
    ·obtain⟨j,hj,q⟩:=q
     rw[if_pos ⟨j,hj,q⟩,if_pos ⟨j,by omega,q⟩]
    ·rw[if_neg q,if_neg]
     rintro⟨j,hj,hq⟩
     by_cases e2:j=n
     ·subst e2;exact e hq
     ·exact q ⟨j,by omega,hq⟩
def GStep (P:Program) (md:Region.Mode) (ops:Array Oper) (Q:Exit→Act→World→Prop) (n:Nat) (d:Nat→Nat) (R:Nat→Value→World→Prop) (a0:Act) (V:World) (i:Nat):Prop:=
 ∀(a:Act) (w:World),Ext V w→(∀k,(∀j,j<n→d j≠k)→a.eval (.tmp k)=a0.eval (.tmp k))→(∀j,(gdeps md ops i).contains j=true→R j (a.eval (.tmp (d j))) w)→
  ∀K:Act→World→Prop,(∀v w',R i v w'→Ext w w'→K (a.put (some (d i)) v) w')→((ops[i]?).getD default).wp P a w K Q
structure GInv (md:Region.Mode) (ops:Array Oper) (n m:Nat) (d:Nat→Nat) (R:Nat→Value→World→Prop) (a0:Act) (V:World) (todo:List Nat) (listed:Array Bool) (a:Act) (w:World):Prop where
 size:listed.size=n+m
 tail:∀i,n≤i→listed.getD i true=true→n+m≤i
 nd:todo.Nodup
 lt:∀i∈todo,i<n
 mem:∀i,i<n→(listed.getD i true=true↔i∉todo)
 down:Down md ops listed
 asz:a.tmps.size=a0.tmps.size
 dfr:a.defers=a0.defers
 frame:∀k,(∀j,j<n→d j≠k)→a.tmps[k]? = a0.tmps[k]?
 facts:∀i,i<n→i∉todo→R i (a.eval (.tmp (d i))) w
 ext:Ext V w
theorem getD_in {listed:Array Bool} {i:Nat} (h:i<listed.size) (b c:Bool):listed.getD i b=listed.getD i c:=by
 simp[Array.getD,h]
theorem eval_of_get {a a0:Act} {k:Nat} (h:a.tmps[k]? = a0.tmps[k]?):a.eval (.tmp k)=a0.eval (.tmp k):=by
 simp only[Act.eval,Array.getD_eq_getD_getElem?,h]
theorem grow_go {P:Program} {md:Region.Mode} {ops:Array Oper} {Q:Exit→Act→World→Prop} (n m:Nat) (d:Nat→Nat) (R:Nat→Value→World→Prop) (a0:Act) (V:World)
  (hc:growChk md ops n m d=true) (hst:∀i v w w',R i v w→Ext w w'→R i v w') (hinj:∀i j,i<n→j<n→d i=d j→i=j) (hds:∀i,i<n→d i<a0.tmps.size)
  (hstep:∀i,i<n→GStep P md ops Q n d R a0 V i)
  (hend:∀(vals:Nat→Value) (w:World),Ext V w→(∀i,i<n→R i (vals i) w)→wpAny P md ops Q m (Array.replicate n true++Array.replicate m false) (putAll d vals n a0) w) :
  ∀(c:Nat) (todo:List Nat) (listed:Array Bool) (a:Act) (w:World),todo.length=c→GInv md ops n m d R a0 V todo listed a w→wpAny P md ops Q (c+m) listed a w:=by
 simp only[growChk,Bool.and_eq_true,List.all_eq_true,List.mem_range,List.any_eq_true,decide_eq_true_eq]at hc
 obtain⟨⟨hc1,hc2⟩,hsz⟩:=hc
 intro c
 induction c with
 | zero=>
   intro todo listed a w ht hI
   obtain rfl:todo = []:=List.length_eq_zero_iff.1 ht
   have hl:listed=Array.replicate n true++Array.replicate m false:=by
    apply Array.ext
    ·simp[hI.size]
    ·intro i h1 h2
     have e:listed[i]=listed.getD i true:=by simp[Array.getD,h1]
     rw[e]
     by_cases q:i<n
     ·rw[(hI.mem i q).2 (by simp),Array.getElem_append_left (by simpa using q)]
      simp
     ·rw[Array.getElem_append_right (by simpa using q)]
      simp only[Array.getElem_replicate]
      cases e:listed.getD i true with
      | false=>rfl
      | true=>
        have:=hI.tail i (by omega) e
        rw[hI.size]at h1
        omega
   have ha:a=putAll d (fun i=>a.eval (.tmp (d i))) n a0:=by
    obtain⟨p1,p2,p3⟩:=putAll_spec d a a0 hI.asz n hds
    obtain⟨ts,df⟩:=a
    have e1:ts=(putAll d (fun i=>(⟨ts,df⟩:Act).eval (.tmp (d i))) n a0).tmps:=by
     apply Array.ext_getElem?
     intro k
     rw[p3 k]
     by_cases q:∃j,j<n∧d j=k
     ·rw[if_pos q]
     ·rw[if_neg q]
      exact hI.frame k (fun j hj e=>q ⟨j,hj,e⟩)
    have e2:df=(putAll d (fun i=>(⟨ts,df⟩:Act).eval (.tmp (d i))) n a0).defers:=by rw[p1];exact hI.dfr
    generalize putAll d (fun i=>(⟨ts,df⟩:Act).eval (.tmp (d i))) n a0=b at e1 e2
    obtain⟨bt,bd⟩:=b
    simp only at e1 e2
    rw[e1,e2]
   have hw:=hend (fun i=>a.eval (.tmp (d i))) w hI.ext (fun i hi=>hI.facts i hi (by simp))
   rw[Nat.zero_add,hl]
   rw[←ha]at hw
   exact hw
 | succ c ih=>
   intro todo listed a w ht hI
   rw[show c+1+m=(c+m)+1 by omega]
   have hLT:∀i,i<n→i<listed.size:=fun i hi=>by rw[hI.size];omega
   refine⟨fun h0=>?_,fun i hi=>?_⟩
   ·exfalso
    obtain⟨i,hi,hmin⟩:=least_of todo (by intro e;rw[e]at ht;cases ht)
    have hin:=hI.lt i hi
    have:i∈Region.ready md ops listed:=by
     rw[mem_ready]
     obtain⟨hdep,hop⟩:=hc1 i hin
     cases ho:ops[i]? with
     | none=>rw[ho]at hop;cases hop
     | some o=>
       refine⟨?_,o,rfl,fun e he hb=>?_⟩
       ·cases e:listed.getD i true with
        | false=>rfl
        | true=>exact absurd hi ((hI.mem i hin).1 e)
       ·have hj:e.on<i:=hdep e.on ((mem_gdeps ho).2 ⟨e,he,hb,rfl⟩)
        have hjn:e.on<n:=by omega
        rw[getD_in (hLT _ hjn) false true]
        exact(hI.mem _ hjn).2 (fun q=>by have:=hmin _ q;omega)
    rw[h0]at this
    cases this
   ·obtain⟨hun,o,ho,hall⟩:=mem_ready.1 hi
    have hio:i<ops.size:=(Array.getElem?_eq_some_iff.1 ho).1
    have hin:i<n:=by
     rcases Nat.lt_or_ge i n with q|q
     ·exact q
     ·exfalso
      obtain⟨x,hx⟩:∃x,x∈todo:=by
       cases todo with
       | nil=>cases ht
       | cons x r=>exact⟨x,by simp⟩
      have hxn:=hI.lt x hx
      obtain⟨k,hk,hr⟩:=hc2 (i-n) (by omega) x hxn
      rw[show n+(i-n)=i by omega]at hk
      obtain⟨e,he,hb,rfl⟩:=(mem_gdeps ho).1 hk
      have h1:=greach_down hI.down _ _ _ hr (hall e he hb)
      rw[getD_in (hLT x hxn) false true]at h1
      exact(hI.mem x hxn).1 h1 hx
    obtain⟨hdep,hop⟩:=hc1 i hin
    rw[ho]at hop
    simp only[Option.map_some,Option.getD_some,Bool.and_eq_true,decide_eq_true_eq,Option.isNone_iff_eq_none]at hop
    obtain⟨hdst,hgd⟩:=hop
    have hit:i∈todo:=Classical.byContradiction fun q=>by
     rw[(hI.mem i hin).2 q]at hun;cases hun
    unfold wpOp
    rw[ho]
    simp only[Region.wanted,hgd,if_true]
    left
    have hs:=hstep i hin a w hI.ext (fun k hk=>eval_of_get (hI.frame k hk)) (fun j hj=>by
     have hj:j∈gdeps md ops i:=by simpa using hj
     have hjn:j<n:=by have:=hdep j hj;omega
     refine hI.facts j hjn ?_
     obtain⟨e,he,hb,rfl⟩:=(mem_gdeps ho).1 hj
     have h1:=hall e he hb
     rw[getD_in (hLT _ hjn) false true]at h1
     exact(hI.mem _ hjn).1 h1) (wpAny P md ops Q (c+m) (listed.setIfInBounds i true)) (fun v w' hR hE=>?_)
    ·rw[ho]at hs
     exact hs
    ·refine ih (todo.filter (fun y=>y != i)) _ _ _ ?_ ?_
     ·have h1:todo.filter (fun y=>y != i)=todo.erase i:=by rw[hI.nd.erase_eq_filter]
      rw[h1,List.length_erase_of_mem hit,ht];rfl
     ·have hset:∀j,j≠i→∀b,(listed.setIfInBounds i true).getD j b=listed.getD j b:=fun j hj b=>getD_set_ne b (Ne.symm hj)
      have hsi:∀b,(listed.setIfInBounds i true).getD i b=true:=fun b=>by
       have:=hLT i hin
       simp[Array.getD,this]
      have hdi:=hds i hin
      have hget:∀k,(a.put (some (d i)) v).tmps[k]? = if d i=k then some v else a.tmps[k]? :=fun k=>by
       simp only[Act.put,Array.getElem?_setIfInBounds]
       by_cases e:d i=k
       ·rw[if_pos e,if_pos e,if_pos (by rw[hI.asz];exact hdi)]
       ·rw[if_neg e,if_neg e]
      refine⟨by simpa using hI.size,?_,hI.nd.filter _,?_,?_,?_,by simpa [Act.put] using hI.asz,hI.dfr,?_,?_,hI.ext.trans hE⟩
      ·intro j hj h1
       rw[hset j (by omega)]at h1
       exact hI.tail j hj h1
      ·intro j hj;exact hI.lt j (List.mem_filter.1 hj).1
      ·intro j hj
       by_cases e:j=i
       ·subst e
        rw[hsi];simp
       ·rw[hset j e,hI.mem j hj,List.mem_filter]
        simp[e]
      ·intro j hj k hk
       by_cases e:j=i
       ·subst e
        obtain⟨e,he,hb,rfl⟩:=(mem_gdeps ho).1 hk
        exact getD_set_true (hall e he hb)
       ·rw[hset j e]at hj
        exact getD_set_true (hI.down j hj k hk)
      ·intro k hk
       rw[hget,if_neg (hk i hin)]
       exact hI.frame k hk
      ·intro j hj hjt
       have ev:(a.put (some (d i)) v).eval (.tmp (d j))=if j=i then v else a.eval (.tmp (d j)):=by
        simp only[Act.eval,Array.getD_eq_getD_getElem?,hget]
        by_cases e:j=i
        ·rw[if_pos e,if_pos (by rw[e])];rfl
        ·rw[if_neg e,if_neg (fun q=>e (hinj i j hin hj q).symm)]
       rw[ev]
       by_cases e:j=i
       ·rw[if_pos e,e];exact hR
       ·rw[if_neg e]
        exact hst _ _ _ _ (hI.facts j hj (fun q=>hjt (List.mem_filter.2 ⟨q,by simpa using e⟩))) hE
def putF (d:Nat→Nat) (vals:Nat→Value):Nat→Nat→Act→Act
 | 0,_,a=>a
 | k+1,i,a=>putF d vals k (i+1) (a.put (some (d i)) (vals i))
theorem putF_eq (d:Nat→Nat) (vals:Nat→Value):∀(k i:Nat) (a:Act),(List.range' i k).foldl (fun b j=>b.put (some (d j)) (vals j)) a=putF d vals k i a
 | 0,_,_=>rfl
 | k+1,i,a=>by rw[List.range'_succ,List.foldl_cons,putF_eq d vals k (i+1)];rfl
theorem putAll_F (d:Nat→Nat) (vals:Nat→Value) (n:Nat) (a:Act):putAll d vals n a=putF d vals n 0 a:=by
 unfold putAll;rw[List.range_eq_range',putF_eq]
def AllIdx (p:Nat→Prop):Nat→Nat→Prop
 | _,0=>True
 | i,k+1=>p i∧AllIdx p (i+1) k
theorem AllIdx.out {p:Nat→Prop}:∀(k i:Nat),AllIdx p i k→∀j,i≤j→j<i+k→p j
 | 0,i,_,j,h1,h2=>by omega
 | k+1,i,h,j,h1,h2=>by
   by_cases e:j=i
   ·rw[e];exact h.1
   ·exact AllIdx.out k (i+1) h.2 j (by omega) (by omega)
def nodupB (l:List Nat):Bool:=match l with | []=>true|x::r=>!r.contains x&&nodupB r
theorem nodupB_inj:∀(l:List Nat),nodupB l=true→∀i j,i<l.length→j<l.length→l.getD i 0=l.getD j 0→i=j
 | [],_,i,j,h,_,_=>absurd h (Nat.not_lt_zero _)
 | x::r,hn,i,j,hi,hj,e=>by
   simp only[nodupB,Bool.and_eq_true,Bool.not_eq_true',List.contains_eq_mem,decide_eq_false_iff_not]at hn
   cases i with
   | zero=>
     cases j with
     | zero=>rfl
     | succ j=>
       have hj:j<r.length:=by simpa using hj
       exfalso
       apply hn.1
       have e:x=r[j]:=by simpa [List.getD,hj] using e
       rw[e];exact List.getElem_mem _
   | succ i=>
     have hi:i<r.length:=by simpa using hi
     cases j with
     | zero=>
       exfalso
       apply hn.1
       have e:r[i]=x:=by simpa [List.getD,hi] using e
       rw[←e];exact List.getElem_mem _
     | succ j=>
       have hj:j<r.length:=by simpa using hj
       exact congrArg (· + 1) (nodupB_inj r hn.2 i j hi hj (by simpa [List.getD] using e))
theorem wp_region_grow {P:Program} {id:Nat} {Q:Exit→Act→World→Prop} {a0:Act} {w:World} {l:List Oper} (ds:List Nat) (Rs:List (Value→World→Prop)) (m:Nat)
  (hm:P.follows .mixedOrders=true) (hc:growChk .any l.toArray ds.length m (fun i=>ds.getD i 0)=true) (hn:nodupB ds=true) (hz:ds.all (fun x=>decide (x<a0.tmps.size))=true)
  (hst:∀R∈Rs,∀v w w',R v w→Ext w w'→R v w')
  (hstep:AllIdx (GStep P .any l.toArray Q ds.length (fun i=>ds.getD i 0) (fun i=>Rs.getD i (fun _ _=>True)) a0 w) 0 ds.length)
  (hend:∀(vals:Nat→Value) (w':World),Ext w w'→AllIdx (fun i=>Rs.getD i (fun _ _=>True) (vals i) w') 0 ds.length→wpAny P .any l.toArray Q m (Array.replicate ds.length true++Array.replicate m false) (putF (fun i=>ds.getD i 0) vals ds.length 0 a0) w') :
  (Code.region id l.toArray true).wp P Q a0 w:=by
 refine wp_region_any hm ?_
 have hsz:ds.length+m=l.toArray.size:=by
  have:=hc
  simp only[growChk,Bool.and_eq_true,decide_eq_true_eq]at this
  exact this.2
 rw[←hsz]
 have hall:∀(p:Nat→Prop) (k i:Nat),(∀j,i≤j→j<i+k→p j)→AllIdx p i k:=by
  intro p k
  induction k with
  | zero=>intro i _;trivial
  | succ k ih=>intro i h;exact⟨h i (Nat.le_refl _) (by omega),ih (i+1) (fun j h1 h2=>h j (by omega) (by omega))⟩
 refine grow_go ds.length m (fun i=>ds.getD i 0) (fun i=>Rs.getD i (fun _ _=>True)) a0 w hc ?_ (fun i j hi hj e=>nodupB_inj ds hn i j hi hj e) ?_ (fun i hi=>hstep.out _ _ i (Nat.zero_le _) (by omega)) (fun vals w' hE hR=>by rw[putAll_F];exact hend vals w' hE (hall _ _ _ (fun j _ hj=>hR j (by omega)))) ds.length (List.range ds.length) _ _ _ (by simp) ?_
 ·intro i v w w' h hE
  simp only[List.getD]at h ⊢
  cases e:Rs[i]? with
  | none=>trivial
  | some R=>
    rw[e]at h
    exact hst R (List.mem_of_getElem? e) v w w' h hE
 ·intro i hi
  have:=List.all_eq_true.1 hz _ (List.getElem_mem hi)
  simpa [List.getD,hi] using this
 ·refine⟨by simp,?_,List.nodup_range,fun i hi=>by simpa using hi,?_,?_,rfl,rfl,fun _ _=>rfl,?_,(Ext.refl w).drew⟩
  ·intro i hi h
   rcases Nat.lt_or_ge i (ds.length+m)with q|q
   ·exfalso
    simp[Array.getD,q]at h
   ·exact q
  ·intro i hi
   have:i<ds.length+m:=by omega
   simp[Array.getD,this,hi]
  ·intro i hi
   exfalso
   by_cases q:i<ds.length+m<;>simp[Array.getD,q]at hi
  ·intro i hi hni
   exact absurd (List.mem_range.2 hi) hni
end Go.Proofs.YtlmeinikknoeeaaGreatDoor
namespace Go.Proofs.YtlmeinikknoeeaaGreatDoor
set_option linter.unusedVariables false
set_option linter.unnecessarySimpa false
set_option linter.unusedSimpArgs false
open Go
def growChkO (md:Region.Mode) (ops:Array Oper) (n m:Nat) (d:Nat→Option Nat):Bool:=
 (List.range n).all (fun i=>(gdeps md ops i).all (fun j=>decide (j<i))&&((ops[i]?).map fun o=>decide (o.dst=d i)&&o.guard.isNone).getD false) &&
 (List.range m).all (fun t=>(List.range n).all fun j=>(gdeps md ops (n+t)).any fun k=>greach md ops n k j)&&decide (n+m=ops.size)
def evD (o:Option Nat) (a:Act):Value:=match o with|some k=>a.eval (.tmp k)|none=>undef
def putD (o:Option Nat) (v:Value) (a:Act):Act:=match o with|some k=>a.put (some k) v|none=>a
theorem put_putD (o:Option Nat) (v:Value) (a:Act):a.put o v=putD o v a:=by cases o<;>rfl
def nrmD (o:Option Nat) (v:Value):Value:=match o with|some _=>v|none=>undef
def putAllO (d:Nat→Option Nat) (vals:Nat→Value) (n:Nat) (a:Act):Act:=(List.range n).foldl (fun b j=>putD (d j) (vals j) b) a
theorem putAllO_succ (d:Nat→Option Nat) (vals:Nat→Value) (n:Nat) (a:Act):putAllO d vals (n+1) a=putD (d n) (vals n) (putAllO d vals n a):=by
 unfold putAllO;rw[List.range_succ,List.foldl_append];rfl
theorem putAllO_spec (d:Nat→Option Nat) (a a0:Act) (hs:a.tmps.size=a0.tmps.size):∀n,(∀i k,i<n→d i=some k→k<a0.tmps.size)→
  (putAllO d (fun i=>evD (d i) a) n a0).defers=a0.defers∧(putAllO d (fun i=>evD (d i) a) n a0).tmps.size=a0.tmps.size∧
  ∀k,(putAllO d (fun i=>evD (d i) a) n a0).tmps[k]? = if (∃j,j<n∧d j=some k)then a.tmps[k]? else a0.tmps[k]?
 | 0,_=>⟨rfl,rfl,fun k=>by rw[if_neg (by rintro⟨j,hj,_⟩;omega)];rfl⟩
 | n+1,hd=>by
   obtain⟨h1,h2,h3⟩:=putAllO_spec d a a0 hs n (fun i k hi=>hd i k (by omega))
   rw[putAllO_succ]
   cases e0:d n with
   | none=>
     simp only[putD]
     refine⟨h1,h2,fun k=>?_⟩
     rw[h3]
     by_cases q:∃j,j<n∧d j=some k
     ·obtain⟨j,hj,q⟩:=q
      rw[if_pos ⟨j,hj,q⟩,if_pos ⟨j,by omega,q⟩]
     ·rw[if_neg q,if_neg]
      rintro⟨j,hj,hq⟩
      by_cases e2:j=n
      ·subst e2;rw[e0]at hq;cases hq
      ·exact q ⟨j,by omega,hq⟩
   | some kn=>
     generalize hb:putAllO d (fun i=>evD (d i) a) n a0=bb at h1 h2 h3 ⊢
     simp only[putD,evD]
     have hn:=hd n kn (by omega) e0
     refine⟨h1,by simp[Act.put,h2],fun k=>?_⟩
     simp only[Act.put,Array.getElem?_setIfInBounds]
     by_cases e:kn=k
     ·subst e
      rw[if_pos rfl,if_pos (by rw[h2];exact hn),if_pos ⟨n,by omega,e0⟩,Array.getElem?_eq_getElem (by omega)]
      simp[Act.eval,hs,hn]
     ·rw[if_neg e,h3]
      by_cases q:∃j,j<n∧d j=some k
      ·obtain⟨j,hj,q⟩:=q
       rw[if_pos ⟨j,hj,q⟩,if_pos ⟨j,by omega,q⟩]
      ·rw[if_neg q,if_neg]
       rintro⟨j,hj,hq⟩
       by_cases e2:j=n
       ·subst e2;rw[e0]at hq;injection hq with hq;exact e hq
       ·exact q ⟨j,by omega,hq⟩
def OthS (S:Nat→Nat→Prop) (i:Nat) (k:Nat):Prop:=∃j,j≠i∧S j k
def AllS (S:Nat→Nat→Prop) (k:Nat):Prop:=∃j,S j k
structure GInvO (S:Nat→Nat→Prop) (md:Region.Mode) (ops:Array Oper) (n m:Nat) (d:Nat→Option Nat) (R:Nat→Value→World→Prop) (a0:Act) (V:World) (todo:List Nat) (listed:Array Bool) (a:Act) (w:World):Prop where
 size:listed.size=n+m
 tail:∀i,n≤i→listed.getD i true=true→n+m≤i
 nd:todo.Nodup
 lt:∀i∈todo,i<n
 mem:∀i,i<n→(listed.getD i true=true↔i∉todo)
 down:Down md ops listed
 asz:a.tmps.size=a0.tmps.size
 dfr:a.defers=a0.defers
 frame:∀k,(∀j,j<n→d j≠some k)→a.tmps[k]? = a0.tmps[k]?
 facts:∀i,i<n→i∉todo→R i (evD (d i) a) w
 fr:Frm (fun k=>∃j,j<n∧j∉todo∧S j k) V w
def putG (d:Nat→Option Nat) (vals:Nat→Value):Nat→Nat→Act→Act
 | 0,_,a=>a
 | k+1,i,a=>putG d vals k (i+1) (putD (d i) (vals i) a)
theorem putG_eq (d:Nat→Option Nat) (vals:Nat→Value):∀(k i:Nat) (a:Act),(List.range' i k).foldl (fun b j=>putD (d j) (vals j) b) a=putG d vals k i a
 | 0,_,_=>rfl
 | k+1,i,a=>by rw[List.range'_succ,List.foldl_cons,putG_eq d vals k (i+1)];rfl
theorem putAllO_G (d:Nat→Option Nat) (vals:Nat→Value) (n:Nat) (a:Act):putAllO d vals n a=putG d vals n 0 a:=by
 unfold putAllO;rw[List.range_eq_range',putG_eq]
def injB (ds:List (Option Nat)):Bool:=(List.range ds.length).all fun i=>(List.range ds.length).all fun j=>decide (i=j)||(ds.getD i none).isNone||decide (ds.getD i none≠ds.getD j none)
end Go.Proofs.YtlmeinikknoeeaaGreatDoor
