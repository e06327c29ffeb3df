/- Queries: the maps of words, and the relations' names. -/
import Derived.Test.YtlmeinikknoeeaaGreatDoorQ26
import Derived.Test.YtlmeinikknoeeaaGreatDoorQ07
import Derived.Maps.OwnSet
import Derived.StringKeys
namespace Go.Proofs.YtlmeinikknoeeaaGreatDoor
set_option maxRecDepth 100000
set_option maxHeartbeats 2000000
set_option linter.unusedVariables false
set_option linter.unnecessarySimpa false
set_option linter.unusedSimpArgs false
open Go.RowKit Go.Maps
def MpD (f:List UInt8→Int) (D:DataW Unit):Prop:=∀nm:List UInt8,D.atKey (.string nm) (.lit (.int .i64 0)) = .lit (.int .i64 (f nm))
theorem skeyZ:Keyed Tryz.prog 9:=string_keyed Tryz.underlying9
theorem int_zeroZ:plainElem (H:=Unit) Tryz.prog 3 (.int .i64 0)=some (.lit (.int .i64 0),[]):=plainElem_int Tryz.underlying3 (by decide)
def MpM (M n:Nat) (f:List UInt8→Int) (w:World):Prop:=∃Dm:DataW Unit,w.ownsMap Tryz.prog 9 (plainElem Tryz.prog 3) M n Dm∧MpD f Dm
theorem MpM.made (w:World):MpM w.heap.size 0 (fun _=>0) (w.alloc (.map #[] 0)):=⟨.map [],World.ownsMap_made w _ _ _,fun nm=>rfl⟩
theorem MpM.lt {M n:Nat} {f:List UInt8→Int} {w:World} (h:MpM M n f w):M<w.heap.size:=by
 obtain⟨D,ho,-⟩:=h
 exact ho.lt
theorem MpM.frm {M n:Nat} {F:Nat→Prop} {f:List UInt8→Int} {w w':World} (h:MpM M n f w) (hF:Frm F w w') (hM:¬F M):MpM M n f w':=by
 obtain⟨D,ho,hs⟩:=h
 have hlt:=ho.lt
 obtain⟨es,clock,hb,G,hsz,hD⟩:=ho
 exact⟨D,⟨es,clock,(hF.block M hlt hM).trans hb,G,hsz,hD⟩,hs⟩
theorem MpM.ext {M n:Nat} {f:List UInt8→Int} {w w':World} (h:MpM M n f w) (hE:Ext w w'):MpM M n f w':=h.frm (F:=fun _=>False) (Frm.of_ext hE) id
theorem keyZ (nm:List UInt8) (hn:nm.length≤9223372036854775806):keyOf Tryz.prog 9 (.string ⟨nm.toArray⟩)=some (.string nm):=by
 have:=WideMaps.keyOf_string_mk (P:=Tryz.prog) (k:=9) Tryz.underlying9 (s:=⟨nm.toArray⟩) (by show nm.toArray.size≤_;unfold maxLen;simp;omega)
 simpa using this
theorem MpM.look {M n:Nat} {f:List UInt8→Int} {w:World} (h:MpM M n f w) (nm:List UInt8) (hn:nm.length≤9223372036854775806) (v:Int) (hv:f nm=v) :
  (Instr.lookup 142 (.map (some M)) (.string ⟨nm.toArray⟩) false).run Tryz.prog w = .ok (.int .i64 v) w:=by
 subst hv
 obtain⟨D,ho,hs⟩:=h
 obtain⟨u,ps,hrun,hu⟩:=ho.lookup (t:=142) (e:=3) skeyZ Tryz.underlying142 (z:=.int .i64 0) (by go_simp) int_zeroZ (keyZ nm hn)
 rw[hs nm]at hu
 have hvb:u = .int .i64 (f nm):=by
  unfold plainElem at hu
  rw[Tryz.underlying3]at hu
  cases u<;>simp at hu
  rename_i k n
  rw[hu.1.1,hu.2.1]
 rw[hrun,hvb]
theorem MpD.put {f:List UInt8→Int} {D:DataW Unit} {nm:List UInt8} {v:Int} (h:MpD f D) (hD:IsMap D) (hk:WideAt.IsKeyLit (.string nm)):MpD (fun x=>if x=nm then v else f x) (D.put (.string nm) (.lit (.int .i64 v))):=by
 intro x
 by_cases e:x=nm
 ·subst e
  rw[atKey_put_same hD hk];simp
 ·rw[atKey_put_other (by intro q;injection q with q;exact e q),h x];simp[e]
theorem wpl_ins {ops:Array Oper} {rest:List Oper} {o:Oper} {a:Act} {w:World} {Q:Exit→Act→World→Prop} (hg:o.guard=none) (m x v:Operand) (hop:o.op=Op.insert 142 m x v) (M n:Nat) (f:List UInt8→Int) (nm:List UInt8) (c:Int)
  (hm:a.eval m = .map (some M)) (hx:a.eval x = .string ⟨nm.toArray⟩) (hv:a.eval v = .int .i64 c) (hS:MpM M n f w) (hn:n≤100000) (hl:nm.length≤100000) (hc:(Lit.int .i64 c).wf=true)
  (hK:∀w',MpM M (n+1) (fun x=>if x=nm then c else f x) w'→Frm (fun b=>b=M) w w'→wpList Tryz.prog ops Q rest (a.put o.dst undef) w'):wpList Tryz.prog ops Q (o::rest) a w:=by
 obtain⟨D,ho,hs⟩:=hS
 have hk:=keyZ nm (by omega)
 have hkl:WideAt.IsKeyLit (.string nm):=by
  rw[keyOf_string (P:=Tryz.prog) (k:=9) Tryz.underlying9]at hk
  obtain⟨-,-,-,q⟩:=WideShapes.mapKey_isKey hk
  exact q
 refine wpList_insert_own w hg m x v 142 hop 9 3 skeyZ Tryz.underlying142 (plainElem Tryz.prog 3) M n D hm ho (by unfold maxLen;omega) _ _ (.string nm) hx hv hk (.lit (.int .i64 c)) [] (plainElem_int Tryz.underlying3 hc) ?_
 intro w' ho' hg'
 refine hK w' ⟨_,ho',hs.put ho.isMap hkl⟩ ⟨hg'.os,hg'.tape,hg'.output,hg'.size,fun i hi hn=>hg'.block i hi (by intro e;injection e with e;exact hn e)⟩
theorem MpM.eq {M n:Nat} {f g:List UInt8→Int} {w:World} (h:MpM M n f w) (e:∀x,f x=g x):MpM M n g w:=by rwa [show f=g from funext e]at h
theorem kinds_c (w:World):Calls Tryz.prog 108 #[] w fun e w'=>∃M,e = .returned (.map (some M))∧MpM M 10 kndP w'∧Ext w w':=by
 have hm0:=@run_makeMap Tryz.prog
 have s0:=MpM.made w
 have hBw:∀x,x=w.heap.size→w.heap.size≤x:=fun x e=>by omega
 refine(show Calls Tryz.prog 108 #[] w (fun e w'=>e = .returned (.map (some w.heap.size))∧MpM w.heap.size 10 kndP w'∧Ext w w')from ?_).mono (fun e w' h=>⟨_,h⟩)
 go_enter Tryz.func108,Tryz.ntmps108
 go_wp2_with (first
  | ((with_reducible show wpList _ _ _ (⟨none,.insert _ _ (.const (.string ⟨#[115,99,97,110]⟩)) _,_,_,_,_⟩::_) _ _);refine wpl_ins rfl _ _ _ rfl w.heap.size 0 _ [115,99,97,110] 1 rfl rfl rfl s0 (by decide) (by decide) (by decide) ?_;intro w1 s1 f1)
  | ((with_reducible show wpList _ _ _ (⟨none,.insert _ _ (.const (.string ⟨#[115,101,108,101,99,116]⟩)) _,_,_,_,_⟩::_) _ _);refine wpl_ins rfl _ _ _ rfl w.heap.size 1 _ [115,101,108,101,99,116] 2 rfl rfl rfl s1 (by decide) (by decide) (by decide) ?_;intro w2 s2 f2)
  | ((with_reducible show wpList _ _ _ (⟨none,.insert _ _ (.const (.string ⟨#[112,114,111,106,101,99,116]⟩)) _,_,_,_,_⟩::_) _ _);refine wpl_ins rfl _ _ _ rfl w.heap.size 2 _ [112,114,111,106,101,99,116] 3 rfl rfl rfl s2 (by decide) (by decide) (by decide) ?_;intro w3 s3 f3)
  | ((with_reducible show wpList _ _ _ (⟨none,.insert _ _ (.const (.string ⟨#[114,101,110,97,109,101]⟩)) _,_,_,_,_⟩::_) _ _);refine wpl_ins rfl _ _ _ rfl w.heap.size 3 _ [114,101,110,97,109,101] 4 rfl rfl rfl s3 (by decide) (by decide) (by decide) ?_;intro w4 s4 f4)
  | ((with_reducible show wpList _ _ _ (⟨none,.insert _ _ (.const (.string ⟨#[106,111,105,110]⟩)) _,_,_,_,_⟩::_) _ _);refine wpl_ins rfl _ _ _ rfl w.heap.size 4 _ [106,111,105,110] 5 rfl rfl rfl s4 (by decide) (by decide) (by decide) ?_;intro w5 s5 f5)
  | ((with_reducible show wpList _ _ _ (⟨none,.insert _ _ (.const (.string ⟨#[117,110,105,111,110]⟩)) _,_,_,_,_⟩::_) _ _);refine wpl_ins rfl _ _ _ rfl w.heap.size 5 _ [117,110,105,111,110] 6 rfl rfl rfl s5 (by decide) (by decide) (by decide) ?_;intro w6 s6 f6)
  | ((with_reducible show wpList _ _ _ (⟨none,.insert _ _ (.const (.string ⟨#[101,120,99,101,112,116]⟩)) _,_,_,_,_⟩::_) _ _);refine wpl_ins rfl _ _ _ rfl w.heap.size 6 _ [101,120,99,101,112,116] 7 rfl rfl rfl s6 (by decide) (by decide) (by decide) ?_;intro w7 s7 f7)
  | ((with_reducible show wpList _ _ _ (⟨none,.insert _ _ (.const (.string ⟨#[100,117,114,105,110,103]⟩)) _,_,_,_,_⟩::_) _ _);refine wpl_ins rfl _ _ _ rfl w.heap.size 7 _ [100,117,114,105,110,103] 8 rfl rfl rfl s7 (by decide) (by decide) (by decide) ?_;intro w8 s8 f8)
  | ((with_reducible show wpList _ _ _ (⟨none,.insert _ _ (.const (.string ⟨#[103,114,111,117,112]⟩)) _,_,_,_,_⟩::_) _ _);refine wpl_ins rfl _ _ _ rfl w.heap.size 8 _ [103,114,111,117,112] 9 rfl rfl rfl s8 (by decide) (by decide) (by decide) ?_;intro w9 s9 f9)
  | ((with_reducible show wpList _ _ _ (⟨none,.insert _ _ (.const (.string ⟨#[114,101,108,97,116,101]⟩)) _,_,_,_,_⟩::_) _ _);refine wpl_ins rfl _ _ _ rfl w.heap.size 9 _ [114,101,108,97,116,101] 10 rfl rfl rfl s9 (by decide) (by decide) (by decide) ?_;intro w10 s10 f10))
 go_ret
 have hE:Ext w w10:=Frm.ext (S:=fun x=>x=w.heap.size) (((((((((((Frm.of_ext ((Ext.refl w).alloc (.map #[] 0))).trans f1).trans f2).trans f3).trans f4).trans f5).trans f6).trans f7).trans f8).trans f9).trans f10) hBw
 refine⟨rfl,s10.eq (fun x=>?_),hE⟩
 by_cases h0:x = [115,99,97,110]
 ·subst h0;rfl
 by_cases h1:x = [115,101,108,101,99,116]
 ·subst h1;rfl
 by_cases h2:x = [112,114,111,106,101,99,116]
 ·subst h2;rfl
 by_cases h3:x = [114,101,110,97,109,101]
 ·subst h3;rfl
 by_cases h4:x = [106,111,105,110]
 ·subst h4;rfl
 by_cases h5:x = [117,110,105,111,110]
 ·subst h5;rfl
 by_cases h6:x = [101,120,99,101,112,116]
 ·subst h6;rfl
 by_cases h7:x = [100,117,114,105,110,103]
 ·subst h7;rfl
 by_cases h8:x = [103,114,111,117,112]
 ·subst h8;rfl
 by_cases h9:x = [114,101,108,97,116,101]
 ·subst h9;rfl
 simp[kndP,h0,h1,h2,h3,h4,h5,h6,h7,h8,h9]
theorem funs_c (w:World):Calls Tryz.prog 193 #[] w fun e w'=>∃M,e = .returned (.map (some M))∧MpM M 4 fnP w'∧Ext w w':=by
 have hm0:=@run_makeMap Tryz.prog
 have s0:=MpM.made w
 have hBw:∀x,x=w.heap.size→w.heap.size≤x:=fun x e=>by omega
 refine(show Calls Tryz.prog 193 #[] w (fun e w'=>e = .returned (.map (some w.heap.size))∧MpM w.heap.size 4 fnP w'∧Ext w w')from ?_).mono (fun e w' h=>⟨_,h⟩)
 go_enter Tryz.func193,Tryz.ntmps193
 go_wp2_with (first
  | ((with_reducible show wpList _ _ _ (⟨none,.insert _ _ (.const (.string ⟨#[99,111,117,110,116]⟩)) _,_,_,_,_⟩::_) _ _);refine wpl_ins rfl _ _ _ rfl w.heap.size 0 _ [99,111,117,110,116] 1 rfl rfl rfl s0 (by decide) (by decide) (by decide) ?_;intro w1 s1 f1)
  | ((with_reducible show wpList _ _ _ (⟨none,.insert _ _ (.const (.string ⟨#[115,117,109]⟩)) _,_,_,_,_⟩::_) _ _);refine wpl_ins rfl _ _ _ rfl w.heap.size 1 _ [115,117,109] 2 rfl rfl rfl s1 (by decide) (by decide) (by decide) ?_;intro w2 s2 f2)
  | ((with_reducible show wpList _ _ _ (⟨none,.insert _ _ (.const (.string ⟨#[109,105,110]⟩)) _,_,_,_,_⟩::_) _ _);refine wpl_ins rfl _ _ _ rfl w.heap.size 2 _ [109,105,110] 3 rfl rfl rfl s2 (by decide) (by decide) (by decide) ?_;intro w3 s3 f3)
  | ((with_reducible show wpList _ _ _ (⟨none,.insert _ _ (.const (.string ⟨#[109,97,120]⟩)) _,_,_,_,_⟩::_) _ _);refine wpl_ins rfl _ _ _ rfl w.heap.size 3 _ [109,97,120] 4 rfl rfl rfl s3 (by decide) (by decide) (by decide) ?_;intro w4 s4 f4))
 go_ret
 have hE:Ext w w4:=Frm.ext (S:=fun x=>x=w.heap.size) (((((Frm.of_ext ((Ext.refl w).alloc (.map #[] 0))).trans f1).trans f2).trans f3).trans f4) hBw
 refine⟨rfl,s4.eq (fun x=>?_),hE⟩
 by_cases h0:x = [99,111,117,110,116]
 ·subst h0;rfl
 by_cases h1:x = [115,117,109]
 ·subst h1;rfl
 by_cases h2:x = [109,105,110]
 ·subst h2;rfl
 by_cases h3:x = [109,97,120]
 ·subst h3;rfl
 simp[fnP,h0,h1,h2,h3]
end Go.Proofs.YtlmeinikknoeeaaGreatDoor
namespace Go.Proofs.YtlmeinikknoeeaaGreatDoor
set_option maxRecDepth 100000
set_option maxHeartbeats 1000000
set_option linter.unusedVariables false
set_option linter.unnecessarySimpa false
set_option linter.unusedSimpArgs false
open Go.RowKit
def relV (s:List UInt8):Int:=((relP s).getD 0:Nat)
def relE (s:List UInt8):Int:=match relP s with|some _=>0|none=>3
def relA:Value:=.agg ((relW.map fun l=>Value.string ⟨l.toArray⟩).toArray)
theorem idx13 (j:Nat) (h:j<13) (w:World):(Instr.index 225 relA (.int .i64 (j:Int))).run Tryz.prog w = .ok (.string ⟨(relW[j]'h).toArray⟩) w:=by
 rcases (show j=0∨j=1∨j=2∨j=3∨j=4∨j=5∨j=6∨j=7∨j=8∨j=9∨j=10∨j=11∨j=12 by omega)with rfl|rfl|rfl|rfl|rfl|rfl|rfl|rfl|rfl|rfl|rfl|rfl|rfl<;>kernel_rfl
theorem inames_c (w:World):Calls Tryz.prog 194 #[] w fun e w'=>e = .returned relA∧Ext w w':=by
 go_enter Tryz.func194,Tryz.ntmps194
 go_wp2_with fail
 refine bodyPost_ret (v:=relA) ?_ rfl ⟨rfl,?_⟩
 ·simp[results,Tryz.results194,go_sem,relA,relW]
 ·(repeat (with_reducible (first|assumption|exact Ext.refl _|refine Ext.alloc ?_ _|refine Ext.setCell ?_ (by simp) _|refine Ext.setCell ?_ (by simp;omega) _|refine Ext.drewN ?_ _|refine Ext.drew ?_)))
theorem relP_at {s:List UInt8} {j:Nat} (hj:j<13) (h:relW[j]'hj=s) (hn:∀i (hi:i<j),relW[i]'(Nat.lt_trans hi hj)≠s):relP s=some j:=by
 unfold relP
 rw[List.findIdx?_eq_some_iff_getElem]
 exact⟨hj,by rw[beq_iff_eq];exact h,fun i hi q=>by rw[beq_iff_eq]at q;exact hn i hi q⟩
theorem relP_none {s:List UInt8} (hn:∀i (hi:i<13),relW[i]'hi≠s):relP s=none:=by
 unfold relP
 rw[List.findIdx?_eq_none_iff]
 intro x hx
 obtain⟨i,hi,e⟩:=List.getElem_of_mem hx
 have:=hn i hi
 rw[e]at this
 simpa using this
theorem relP_lt {s:List UInt8} {j:Nat} (h:relP s=some j):j<13:=by
 unfold relP at h
 rw[List.findIdx?_eq_some_iff_getElem]at h
 exact h.1
theorem relW_all:∀x∈relW,x.length≤20:=by decide
theorem relW_bs (j:Nat) (h:j<13):(relW[j]'h).length≤20:=relW_all _ (List.getElem_mem _)
theorem iparse_c (s:List UInt8) (w:World) (hs:s.length≤9223372036854775806) :
  Calls Tryz.prog 116 #[.string ⟨s.toArray⟩] w fun e w'=>e = .returned (.tuple #[.int .i64 (relV s),.int .i64 (relE s)])∧Ext w w':=by
 obtain⟨A,hA⟩:∃A,relA=A:=⟨_,rfl⟩
 have HI:=Lib.hid (fun j h w=>idx13 j h w)
 have HN:=Lib.hid (inames_c w)
 rw[hA]at HI HN
 clear hA
 go_enter Tryz.func116,Tryz.ntmps116
 go_wp2_with (first
  | (go_at_call 194;(with_reducible refine HN.out.mono ?_);rintro x w1 ⟨rfl,hE1⟩))
 go_loop [7] (fun i=>∃j:Nat,j≤13∧i = .int .i64 (j:Int)∧Hid (∀i (hi:i<j) (h13:i<13),relW[i]'h13≠s)) (fun i=>13-(intOf i).toNat)
 case atStart=>exact⟨0,Nat.zero_le _,rfl,fun i h=>absurd h (Nat.not_lt_zero i)⟩
 case round=>
  obtain⟨j,hj,rfl,Hall⟩:=hrel
  by_cases hlt:j<13
  ·have hi:=fun w=>HI.out j hlt w
   have hb:=relW_bs j hlt
   by_cases hq:relW[j]'hlt=s
   ·have e1:=relP_at hlt hq (fun i h=>Hall.out i h (by omega))
    have HV:Hid (relV s=(j:Int)∧relE s=0):=by unfold relV relE;rw[Hid,e1];exact⟨rfl,rfl⟩
    rw[hq]at hi hb
    clear hq e1
    go_wp2_with fail
    go_ret2
    exact⟨ret_i2 HV.out.1.symm HV.out.2.symm,hE1⟩
   ·have Hn:Hid (∀i (hi:i<j+1) (h13:i<13),relW[i]'h13≠s):=fun i h h2=>by
     by_cases e:i=j
     ·subst e;exact hq
     ·exact Hall.out i (by omega) h2
    obtain⟨x,hx⟩:∃x,x=relW[j]'hlt:=⟨_,rfl⟩
    rw[←hx]at hi hq hb
    clear hx
    have hne:(s==x)=false:=by rw[beq_eq_false_iff_ne];exact fun q=>hq q.symm
    clear hq
    go_wp2_with fail
    go_round
    case rel=>exact⟨j+1,by omega,by go_num,Hn⟩
    case measure=>simp[intOf];omega
  ·obtain rfl:j=13:=by omega
   have e1:=relP_none (fun i hi=>Hall.out i hi hi)
   have HV:Hid (relV s=0∧relE s=3):=by unfold relV relE;rw[Hid,e1];exact⟨rfl,rfl⟩
   clear e1
   go_wp2_with fail
   go_ret2
   exact⟨ret_i2 HV.out.1.symm HV.out.2.symm,hE1⟩
end Go.Proofs.YtlmeinikknoeeaaGreatDoor
namespace Go.Proofs.YtlmeinikknoeeaaGreatDoor
set_option maxRecDepth 100000
set_option maxHeartbeats 2000000
set_option linter.unusedVariables false
set_option linter.unnecessarySimpa false
set_option linter.unusedSimpArgs false
open Go.RowKit
def QyV (b0:Nat) (q:Tr QnD) (v:Value) (w:World):Prop:=∃t:Qry,v = .agg (qnS.vals t).toArray∧InQ (fun k=>b0≤k) w t∧mapT QnA.d t=q
structure QlB (A:Nat→Prop) (l:List (Tr QnD)) (ts:List Qry) (ao:Option Addr) (cap:Nat) (w:World):Prop where
 rd:RdT qnS A w ao cap ts
 inn:∀t∈ts,InQ A w t
 eq:ts.map (mapT QnA.d)=l
def QlV (b0:Nat) (l:List (Tr QnD)) (v:Value) (w:World):Prop:=∃(ts:List Qry) (ao:Option Addr) (cap:Nat),v = .slice ao ts.length cap∧QlB (fun k=>b0≤k) l ts ao cap w
theorem QlB.kp {A:Nat→Prop} {l:List (Tr QnD)} {ts:List Qry} {ao:Option Addr} {cap:Nat} {w w':World} (h:QlB A l ts ao cap w) (hK:Kp A w w'):QlB A l ts ao cap w':=
 ⟨RdT.kp qnS hK h.rd,fun t ht=>InQ.kp hK (h.inn t ht),h.eq⟩
theorem RdT.mono {α:Type} {S:Shp α} {A A':Nat→Prop} {w:World} (hA:∀k,A k→k<w.heap.size→A' k) {ao:Option Addr} {cap:Nat} {l:List (Tr α)} (h:RdT S A w ao cap l):RdT S A' w ao cap l:=by
 refine⟨h.1,h.2.1,fun hl=>?_⟩
 obtain⟨R,off,e,hR,hlt,hc⟩:=h.2.2 hl
 exact⟨R,off,e,hA R hR hlt,hlt,hc⟩
theorem QlB.mono {A A':Nat→Prop} {l:List (Tr QnD)} {ts:List Qry} {ao:Option Addr} {cap:Nat} {w:World} (h:QlB A l ts ao cap w) (hA:∀k,A k→k<w.heap.size→A' k):QlB A' l ts ao cap w:=
 ⟨h.rd.mono hA,fun t ht=>InQ.mono hA (h.inn t ht),h.eq⟩
theorem bs1_q (a:Qry) (w:World):(Instr.buildSlice 30 1 #[(0,.agg (qnS.vals a).toArray)]).run Tryz.prog w = .ok (.slice (some ⟨w.heap.size,0,none⟩) 1 1) (w.alloc (.cells (qnS.vals a).toArray 32)):=by kernel_rfl
theorem bs2_q (a b:Qry) (w:World):(Instr.buildSlice 30 2 #[(0,.agg (qnS.vals a).toArray),(1,.agg (qnS.vals b).toArray)]).run Tryz.prog w = .ok (.slice (some ⟨w.heap.size,0,none⟩) 2 2) (w.alloc (.cells (qnS.vals a++qnS.vals b).toArray 32)):=by kernel_rfl
section
variable {L:List TkD} {ao:Option Addr} {cap B:Nat}
def QrK (L:List TkD) (ao:Option Addr) (cap B:Nat) (k:Nat) (d:Int):Prop:=∀(i:Nat) (w:World),Psr L ao cap B i w→Calls Tryz.prog 58 #[.pointer (some ⟨B,0,none⟩),.int .i64 d] w (PR L ao cap B w (QyV w.heap.size) (qrP L k i))
theorem of_c {k:Nat} {d:Int} (hQ:QrK L ao cap B k d) {i:Nat} {w:World} (h:Psr L ao cap B i w) :
  Calls Tryz.prog 111 #[.pointer (some ⟨B,0,none⟩),.int .i64 d] w (PR L ao cap B w (QlV w.heap.size) (ofP L (qrP L k) i)):=by
 have HX:=fun w' (hE:Ext w w')=>(exp_c (h.ext hE) wOf (by decide))
 have HQ:=Lib.hid hQ
 have hBl:=h.hB
 clear hQ
 cases hx:exP L wOf i with
 | bad l c e=>
   rw[hx]at HX
   have HX:=fun w' hE=>Lib.hid (HX w' hE)
   have HB:Hid (ofP L (qrP L k) i = .bad l c e):=by rw[Hid];unfold ofP;rw[hx];rfl
   clear hx
   go_enter Tryz.func111,Tryz.ntmps111
   go_wp2_with (first
    | (go_at_call 110;(with_reducible refine(HX _ (by(repeat (with_reducible (first|assumption|exact Ext.refl _|refine Ext.alloc ?_ _|refine Ext.setCell ?_ (by simp) _|refine Ext.setCell ?_ (by simp;omega) _|refine Ext.drewN ?_ _|refine Ext.drew ?_))))).out.mono ?_);rintro x w2 ⟨hF2,rfl⟩))
   exact⟨rfl,PR.no HB.out hF2⟩
 | ok u j=>
   rw[hx]at HX
   have HX:=fun w' hE=>Lib.hid (HX w' hE)
   cases hq:qrP L k j with
   | bad l c e=>
     have HB:Hid (ofP L (qrP L k) i = .bad l c e):=by rw[Hid];unfold ofP;rw[hx];show((qrP L k j).bind _:Rs _)=_;rw[hq];rfl
     have HR:=Lib.hid hq
     clear hx hq
     go_enter Tryz.func111,Tryz.ntmps111
     go_wp2_with (first
      | (go_at_call 110;(with_reducible refine(HX _ (by(repeat (with_reducible (first|assumption|exact Ext.refl _|refine Ext.alloc ?_ _|refine Ext.setCell ?_ (by simp) _|refine Ext.setCell ?_ (by simp;omega) _|refine Ext.drewN ?_ _|refine Ext.drew ?_))))).out.mono ?_);rintro x w2 ⟨hF2,v2,rfl,rfl,hP2⟩;have HD:=HQ.out j w2 hP2;rw[HR.out]at HD;have HD:=Lib.hid HD)
      | (go_at_call 58;(with_reducible refine HD.out.mono ?_);rintro x w3 ⟨hF3,rfl⟩))
     exact⟨rfl,PR.no HB.out (hF2.trans hF3)⟩
   | ok q j2=>
     have HB:Hid (ofP L (qrP L k) i = .ok [q] j2):=by rw[Hid];unfold ofP;rw[hx];show((qrP L k j).bind _:Rs _)=_;rw[hq];rfl
     have HR:=Lib.hid hq
     clear hx hq
     go_enter Tryz.func111,Tryz.ntmps111
     go_wp2_with (first
      | (go_at_call 110;(with_reducible refine(HX _ (by(repeat (with_reducible (first|assumption|exact Ext.refl _|refine Ext.alloc ?_ _|refine Ext.setCell ?_ (by simp) _|refine Ext.setCell ?_ (by simp;omega) _|refine Ext.drewN ?_ _|refine Ext.drew ?_))))).out.mono ?_);rintro x w2 ⟨hF2,v2,rfl,rfl,hP2⟩;have HD:=HQ.out j w2 hP2;rw[HR.out]at HD;have HD:=Lib.hid HD)
      | (go_at_call 58;(with_reducible refine HD.out.mono ?_);rintro x w3 ⟨hF3,v3,rfl,⟨t,rfl,hI,hm⟩,hP3⟩)
      | ((with_reducible show wpList _ _ _ (⟨some 10,.buildSlice _ _ _,_,_,_,_⟩::_) _ _);refine wpl_bs1 rfl 30 32 _ rfl (.agg (qnS.vals t).toArray) rfl (qnS.vals t) (bs1_q t _) ?_;intro W4 hE4 hR4 hz4))
     have hs2:=hF2.size
     have hs3:=hF3.size
     go_ret
     refine PR.fin HB.out ⟨hP3.ext hE4,(hF2.trans hF3).trans (Frm.of_ext hE4)⟩ (Ext.refl _) ⟨[t],some ⟨w3.heap.size,0,none⟩,1,rfl,⟨RdT.one t w3.heap.size (by omega) hR4.hD hR4.rd,?_,by rw[List.map_cons,hm,List.map_nil]⟩⟩
     intro t' ht'
     rw[List.mem_singleton.1 ht']
     exact(hI.mono (fun k h1 _=>by omega)).ext hE4
theorem pair_c {k:Nat} {d:Int} (hQ:QrK L ao cap B k d) {i:Nat} {w:World} (h:Psr L ao cap B i w) :
  Calls Tryz.prog 117 #[.pointer (some ⟨B,0,none⟩),.int .i64 d] w (PR L ao cap B w (QlV w.heap.size) (prP L (qrP L k) i)):=by
 have HQ:=Lib.hid hQ
 have hBl:=h.hB
 clear hQ
 obtain⟨G,hG⟩:∃G,prP L (qrP L k) i=G:=⟨_,rfl⟩
 have HG:Hid ((exP L wLp i).bind (fun _ i=>(qrP L k i).bind fun a i=>(exP L wCm i).bind fun _ i=>(qrP L k i).bind fun b i=>(exP L wRp i).bind fun _ i=>.ok [a,b] i)=G):=hG
 rw[hG]
 clear hG
 go_enter Tryz.func117,Tryz.ntmps117
 go_wp2_with fail
 (go_at_call 110;refine(exp_c h wLp (by decide)).mono ?_)
 rintro x w1 hp
 cases hx:exP L wLp i with
 | bad l c e=>
   rw[hx]at hp HG
   obtain⟨hF,rfl⟩:=hp
   exact⟨rfl,PR.no HG.out.symm hF⟩
 | ok u1 i1=>
   rw[hx]at hp HG
   have HG:Hid ((qrP L k i1).bind (fun a i=>(exP L wCm i).bind fun _ i=>(qrP L k i).bind fun b i=>(exP L wRp i).bind fun _ i=>.ok [a,b] i)=G):=HG.out
   obtain⟨hF1,v1,rfl,rfl,hP1⟩:=hp
   clear hx
   have HP1:=Lib.hid hP1
   have HF1:=Lib.hid hF1
   clear hP1 hF1
   go_wp2_with fail
   (go_at_call 58;refine(HQ.out i1 w1 HP1.out).mono ?_)
   rintro x w2 hp
   cases hx:qrP L k i1 with
   | bad l c e=>
     rw[hx]at hp HG
     obtain⟨hF,rfl⟩:=hp
     exact⟨rfl,PR.no HG.out.symm (HF1.out.trans hF)⟩
   | ok q1 i2=>
     rw[hx]at hp HG
     have HG:Hid ((exP L wCm i2).bind (fun _ i=>(qrP L k i).bind fun b i=>(exP L wRp i).bind fun _ i=>.ok [q1,b] i)=G):=HG.out
     obtain⟨hF2,v2,rfl,⟨t1,rfl,hI1,hm1⟩,hP2⟩:=hp
     clear hx
     have HP2:=Lib.hid hP2
     have HF2:=Lib.hid (HF1.out.trans hF2)
     have HI1:=Lib.hid hI1
     have Hm1:=Lib.hid hm1
     have Hs1:=Lib.hid HF1.out.size
     have Hs2:=Lib.hid hF2.size
     clear hP2 hF2 hI1 hm1
     go_wp2_with (first
      | ((with_reducible show wpList _ _ _ (⟨some 5,.alloc _,_,_,_,_⟩::_) _ _);refine wpl_new rfl 32 zeroQ rfl alloc_q ?_;intro W3 hE3 hR3 hz3)
      | ((with_reducible show wpList _ _ _ (⟨none,.store _ (.tmp 5) _,_,_,_,_⟩::_) _ _);refine wpl_st rfl 32 _ _ rfl w2.heap.size zeroQ (qnS.vals t1) rfl rfl hR3 rfl (info_q t1) (vals_one_q t1) ?_;intro W4 hF4 hR4))
     have hw2:w.heap.size≤w2.heap.size:=Nat.le_trans Hs1.out Hs2.out
     have HP4:Hid (Psr L ao cap B i2 W4):=(HP2.out.ext hE3).frm hF4 (fun x e=>by omega)
     have HF4:Hid (Frm (fun k=>k=B) w W4):=(HF2.out.trans (Frm.of_ext hE3)).step hF4 (fun x h1 e=>by omega)
     have HI4:Hid (InQ (fun k=>w.heap.size≤k∧k<w2.heap.size) W4 t1):=((HI1.out.mono (A':=fun k=>w.heap.size≤k∧k<w2.heap.size) (fun k h1 h2=>⟨by have:=Hs1.out;omega,h2⟩)).ext hE3).kp (Kp.frm hF4 (fun k h1 e=>by omega))
     have HR4:=Lib.hid hR4
     have hs4:=hF4.size
     clear hR3 hF4 hR4 hE3 HI1 HP2
     (go_at_call 110;refine(exp_c HP4.out wCm (by decide)).mono ?_)
     rintro x w5 hp
     cases hx:exP L wCm i2 with
     | bad l c e=>
       rw[hx]at hp HG
       obtain⟨hF,rfl⟩:=hp
       exact⟨rfl,PR.no HG.out.symm (HF4.out.trans hF)⟩
     | ok u3 i3=>
       rw[hx]at hp HG
       have HG:Hid ((qrP L k i3).bind (fun b i=>(exP L wRp i).bind fun _ i=>.ok [q1,b] i)=G):=HG.out
       obtain⟨hF5,v5,rfl,rfl,hP5⟩:=hp
       clear hx
       have HP5:=Lib.hid hP5
       have HF5:=Lib.hid (HF4.out.trans hF5)
       have HI5:Hid (InQ (fun k=>w.heap.size≤k∧k<w2.heap.size) w5 t1):=HI4.out.kp (Kp.frm hF5 (fun k h1 e=>by omega))
       have HR5:Hid (BxT w2.heap.size (qnS.vals t1) w5):=HR4.out.frm hF5 (fun e=>by omega)
       have hs5:=hF5.size
       clear hP5 hF5
       go_wp2_with fail
       (go_at_call 58;refine(HQ.out i3 w5 HP5.out).mono ?_)
       rintro x w6 hp
       cases hx:qrP L k i3 with
       | bad l c e=>
         rw[hx]at hp HG
         obtain⟨hF,rfl⟩:=hp
         exact⟨rfl,PR.no HG.out.symm (HF5.out.trans hF)⟩
       | ok q2 i4=>
         rw[hx]at hp HG
         have HG:Hid ((exP L wRp i4).bind (fun _ i=>.ok [q1,q2] i)=G):=HG.out
         obtain⟨hF6,v6,rfl,⟨t2,rfl,hI6,hm6⟩,hP6⟩:=hp
         clear hx
         have HP6:=Lib.hid hP6
         have HF6:=Lib.hid (HF5.out.trans hF6)
         have HI6:Hid (InQ (fun k=>w.heap.size≤k∧k<w2.heap.size) w6 t1):=HI5.out.kp (Kp.frm hF6 (fun k h1 e=>by omega))
         have HR6:Hid (BxT w2.heap.size (qnS.vals t1) w6):=HR5.out.frm hF6 (fun e=>by omega)
         have HJ6:=Lib.hid hI6
         have Hm6:=Lib.hid hm6
         have hs6:=hF6.size
         clear hP6 hF6 hI6 hm6
         go_wp2_with (first
          | ((with_reducible show wpList _ _ _ (⟨some 6,.alloc _,_,_,_,_⟩::_) _ _);refine wpl_new rfl 32 zeroQ rfl alloc_q ?_;intro W7 hE7 hR7 hz7)
          | ((with_reducible show wpList _ _ _ (⟨none,.store _ (.tmp 6) _,_,_,_,_⟩::_) _ _);refine wpl_st rfl 32 _ _ rfl w6.heap.size zeroQ (qnS.vals t2) rfl rfl hR7 rfl (info_q t2) (vals_one_q t2) ?_;intro W8 hF8 hR8))
         have HP8:Hid (Psr L ao cap B i4 W8):=(HP6.out.ext hE7).frm hF8 (fun x e=>by omega)
         have HF8:Hid (Frm (fun k=>k=B) w W8):=(HF6.out.trans (Frm.of_ext hE7)).step hF8 (fun x h1 e=>by omega)
         have HI8:Hid (InQ (fun k=>w.heap.size≤k∧k<w2.heap.size) W8 t1):=(HI6.out.ext hE7).kp (Kp.frm hF8 (fun k h1 e=>by omega))
         have HJ8:Hid (InQ (fun k=>w5.heap.size≤k∧k<w6.heap.size) W8 t2):=((HJ6.out.mono (A':=fun k=>w5.heap.size≤k∧k<w6.heap.size) (fun k h1 h2=>⟨h1,h2⟩)).ext hE7).kp (Kp.frm hF8 (fun k h1 e=>by omega))
         have HR8a:Hid (BxT w2.heap.size (qnS.vals t1) W8):=(HR6.out.ext hE7).frm hF8 (fun e=>by omega)
         have HR8:=Lib.hid hR8
         have hs8:=hF8.size
         clear hR7 hF8 hR8 hE7 HI6 HJ6 HP6
         (go_at_call 110;refine(exp_c HP8.out wRp (by decide)).mono ?_)
         rintro x w9 hp
         cases hx:exP L wRp i4 with
         | bad l c e=>
           rw[hx]at hp HG
           obtain⟨hF,rfl⟩:=hp
           exact⟨rfl,PR.no HG.out.symm (HF8.out.trans hF)⟩
         | ok u5 i5=>
           rw[hx]at hp HG
           obtain⟨hF9,v9,rfl,rfl,hP9⟩:=hp
           clear hx
           have HP9:=Lib.hid hP9
           have HF9:=Lib.hid (HF8.out.trans hF9)
           have HI9:Hid (InQ (fun k=>w.heap.size≤k) w9 t1):=(HI8.out.kp (Kp.frm hF9 (fun k h1 e=>by omega))).mono (fun k h1 _=>h1.1)
           have HJ9:Hid (InQ (fun k=>w.heap.size≤k) w9 t2):=(HJ8.out.kp (Kp.frm hF9 (fun k h1 e=>by omega))).mono (fun k h1 _=>by omega)
           have HA9:Hid (BxT w2.heap.size (qnS.vals t1) w9):=HR8a.out.frm hF9 (fun e=>by omega)
           have HB9:Hid (BxT w6.heap.size (qnS.vals t2) w9):=HR8.out.frm hF9 (fun e=>by omega)
           have hs9:=hF9.size
           clear hP9 hF9
           go_wp2_with (first
            | ((with_reducible show wpList _ _ _ (⟨some 19,.load _ _,_,_,_,_⟩::_) _ _);refine wpl_load rfl 32 _ rfl w2.heap.size 0 rfl (qnS.vals t1) _ HA9.out.rd Tryz.underlying32 rfl (info_q t1) ?_)
            | ((with_reducible show wpList _ _ _ (⟨some 20,.load _ _,_,_,_,_⟩::_) _ _);refine wpl_load rfl 32 _ rfl w6.heap.size 0 rfl (qnS.vals t2) _ HB9.out.rd Tryz.underlying32 rfl (info_q t2) ?_)
            | ((with_reducible show wpList _ _ _ (⟨some 21,.buildSlice _ _ _,_,_,_,_⟩::_) _ _);refine wpl_bs2 rfl 30 32 _ _ rfl (.agg (qnS.vals t1).toArray) (.agg (qnS.vals t2).toArray) rfl rfl (qnS.vals t1++qnS.vals t2) (bs2_q t1 t2 _) ?_;intro WA hEA hRA hzA))
           go_ret
           refine PR.fin HG.out.symm ⟨HP9.out.ext hEA,HF9.out.trans (Frm.of_ext hEA)⟩ (Ext.refl _) ⟨[t1,t2],some ⟨w9.heap.size,0,none⟩,2,rfl,⟨RdT.two t1 t2 w9.heap.size (by omega) hRA.hD hRA.rd,?_,by rw[List.map_cons,List.map_cons,List.map_nil,Hm1.out,Hm6.out]⟩⟩
           intro t' ht'
           rcases List.mem_cons.1 ht' with rfl|ht'
           ·exact HI9.out.ext hEA
           ·rw[List.mem_singleton.1 ht'];exact HJ9.out.ext hEA
end
end Go.Proofs.YtlmeinikknoeeaaGreatDoor
