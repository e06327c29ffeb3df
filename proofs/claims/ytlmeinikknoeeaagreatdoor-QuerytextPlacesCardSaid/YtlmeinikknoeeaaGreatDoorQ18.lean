/- Queries: the walk of value.formed: the operands of what is no comparison. -/
import Derived.Test.YtlmeinikknoeeaaGreatDoorQ17
import Derived.Test.YtlmeinikknoeeaaGreatDoorQ02
import Derived.Test.YtlmeinikknoeeaaGreatDoorQ00
import Derived.BigQuiet
import Derived.Deep.LoopGhost
import Derived.Lib.Builder
import Derived.Lib.AppendStr
import Derived.Lib.UnsafeStr
import Derived.Lib.MakeNoZero
import Derived.Lib.Strings
import Derived.Laws.Externs
namespace Go.Proofs.YtlmeinikknoeeaaGreatDoor
set_option maxRecDepth 100000
set_option maxHeartbeats 16000000
set_option linter.unusedVariables false
set_option linter.unnecessarySimpa false
set_option linter.unusedSimpArgs false
open Go.RowKit Go.Maps
theorem wpl_mkI {ops:Array Oper} {rest:List Oper} {op:Oper} {a:Act} {w:World} {Q:Exit→Act→World→Prop} (g:op.guard=none) (ho:op.op = .makeMap 250 none)
  (h:∀W,Ext w W→MiM w.heap.size 0 (fun _=>0) W→W.heap.size=w.heap.size+1→wpList Tryz.prog ops Q rest (a.put op.dst (.map (some w.heap.size))) W):wpList Tryz.prog ops Q (op::rest) a w:=by
 refine wpList_plain g fun K hK=>?_
 unfold Oper.wp execOp
 simp only[ho,Sem.run_bind,Sem.run_pure,Result.andThen_ok,run_makeMap]
 exact hK _ _ (h _ ((Ext.refl w).alloc _) (MiM.made w) (by simp))
theorem fmCs_at {l:List (Tr CdD)} {d m j:Nat} {c:Tr CdD} {R:Option Nat} (h:fmCs cdN (l.drop j) d m=R) (hj:j<l.length) (hc:l[j]=c):R=match fmK cdN c (d+1) m with|none=>none|some m'=>fmCs cdN (l.drop (j+1)) d m':=by
 rw[←h,List.drop_eq_getElem_cons hj,fmCs,hc]
 cases fmK cdN c (d+1) m<;>rfl
theorem fm_le {c:Tr CdD} {d n m:Nat} (h:fmK cdN c d n=some m):m≤60:=by
 rw[fmC_eq]at h
 split at h
 ·injection h with h;omega
 ·cases h
theorem mapTs_get {l:List Cnd} {j:Nat} (h:j<l.length):(mapTs CdA.d l)[j]'(by rw[mapTs_len];exact h)=mapT CdA.d l[j]:=by
 simp only[mapTs_map,List.getElem_map]
theorem vform_l {M:Int} {k:Int} {col oth:List UInt8} {vk vn:Int} {vs:List UInt8} {ao:Option Addr} {cap:Nat} {l:List Cnd} (d n N:Nat) (w:World) (hk:(k=3∧M=0)∨(k=4∧M=1)∨(k=5∧M=2)∨(k=6∧M=2)) (hn:n<60) (hd:d≤12) (hN:BxT N [.int .i64 (n:Int)] w)
  (hc:(col == [])=true) (ho:(oth == [])=true) (hnz:(!decide (vk=0∧vn=0∧vs = []))=false) (hl:((l.length:Int) != M)=true) :
  Calls Tryz.prog 164 #[.agg (cdS.vals (.mk ⟨⟨k,col,oth,vk,vn,vs⟩,ao,cap⟩ l)).toArray,.int .i64 (d:Int),.pointer (some ⟨N,0,none⟩)] w (FmV N w (none)):=by
 obtain⟨n0,nf,nl,n1,c0,e1,e2,d0,d1,d2,d3,d4,d5,d6,z0,z1,z2,HM⟩:=fo_f (k:=k) (col:=col) (oth:=oth) (vk:=vk) (vn:=vn) (vs:=vs) (ao:=ao) (cap:=cap) (l:=l) hn hd hN _ _ _ rfl rfl rfl
 clear hN
 have HL:=Lib.hid hl
 clear hl
 rcases hk with⟨rfl,rfl⟩|⟨rfl,rfl⟩|⟨rfl,rfl⟩|⟨rfl,rfl⟩
 all_goals
  go_enter Tryz.func164,Tryz.ntmps164
  go_wp2_with (first
   | ((with_reducible show wpList _ _ _ (⟨some 70,.binOp _ _ _ _ _,_,_,_,_⟩::_) _ _);refine wpl_valO rfl (yr_nevO rfl rfl rfl hnz) ?_)
   | ((with_reducible show wpList _ _ _ (⟨some 72,.makeMap _ _,_,_,_,_⟩::_) _ _);generalize ((w.alloc (.cells (cdS.vals (.mk ⟨⟨_,col,oth,vk,vn,vs⟩,ao,cap⟩ l)).toArray 27)).setCell ⟨N,0,none⟩ (.int .i64 ((n:Int)+1))).alloc (.cells #[.int .i64 0,.int .i64 0,.string ⟨#[]⟩] 24)=W2 at HM d0 d1 d2 d3 d4 d5 d6 z0 z1 z2 ⊢;have hB2:=HM.out.1.hD;have hN2:=HM.out.2.2.1.hD;refine wpl_mkI rfl rfl ?_;intro W3 hE3 s0 hs3)
   | ((with_reducible show wpList _ _ _ (⟨none,.insert _ _ (.const (.int _ 4)) _,_,_,_,_⟩::_) _ _);refine wpl_insI rfl _ _ _ rfl W2.heap.size 0 _ 4 1 rfl rfl rfl s0 (by decide) (by decide) (by decide) ?_;intro w1 s1 f1)
   | ((with_reducible show wpList _ _ _ (⟨none,.insert _ _ (.const (.int _ 5)) _,_,_,_,_⟩::_) _ _);refine wpl_insI rfl _ _ _ rfl W2.heap.size 1 _ 5 2 rfl rfl rfl s1 (by decide) (by decide) (by decide) ?_;intro w2 s2 f2)
   | ((with_reducible show wpList _ _ _ (⟨none,.insert _ _ (.const (.int _ 6)) _,_,_,_,_⟩::_) _ _);refine wpl_insI rfl _ _ _ rfl W2.heap.size 2 _ 6 2 rfl rfl rfl s2 (by decide) (by decide) (by decide) ?_;intro w3 s3 f3;have q1:=(((HM.out.1.ext hE3).frm f1 (by omega)).frm f2 (by omega)).frm f3 (by omega);have q0:=q1.at 0 _ rfl;have q6:w3.cell? ⟨w.heap.size,6,none⟩=some (.slice ao l.length cap):=q1.at 6 _ rfl;have HQ3:=Lib.hid (show Frm (fun b=>b=W2.heap.size) W2 w3 from(((Frm.of_ext hE3).trans f1).trans f2).trans f3);have HS3:=Lib.hid s3;clear q1 s0 s1 s2 s3 f1 f2 f3 hE3 d0 d1 d2 d3 d4 d5 d6 z0 z1 z2)
   | ((with_reducible show wpList _ _ _ (⟨some 76,.lookup _ _ _ _,_,_,_,_⟩::_) _ _);refine wpl_valO rfl (yr_lookZ rfl rfl rfl (by first|exact HS3.out.look 3 (by decide) 0 rfl|exact HS3.out.look 4 (by decide) 1 rfl|exact HS3.out.look 5 (by decide) 2 rfl|exact HS3.out.look 6 (by decide) 2 rfl)) ?_;have hl:=HL.out))
  go_ret
  exact⟨HM.out.2.2.2.1.step HQ3.out (fun x h1 h2=>by omega),rfl⟩
theorem vform_k {M:Int} {k:Int} {col oth:List UInt8} {vk vn:Int} {vs:List UInt8} {ao:Option Addr} {cap:Nat} {l:List Cnd} (d n N:Nat) (w:World) (hk:(k=3∧M=0)∨(k=4∧M=1)∨(k=5∧M=2)∨(k=6∧M=2)) (hn:n<60) (hd:d≤12) (hN:BxT N [.int .i64 (n:Int)] w)
  (hc:(col == [])=true) (ho:(oth == [])=true) (hnz:(!decide (vk=0∧vn=0∧vs = []))=false) (hl:((l.length:Int) != M)=false) (hrd:RdT cdS (fun k=>k<N) w ao cap l) (hK:∀x∈l,∀(m:Nat) (wx:World),m≤60→BxT N [.int .i64 (m:Int)] wx→Frm (fun k=>k=N) w wx→Calls Tryz.prog 164 #[.agg (cdS.vals x).toArray,.int .i64 ((d:Int)+1),.pointer (some ⟨N,0,none⟩)] wx (FmV N wx (fmK cdN (mapT CdA.d x) (d+1) m))) :
  Calls Tryz.prog 164 #[.agg (cdS.vals (.mk ⟨⟨k,col,oth,vk,vn,vs⟩,ao,cap⟩ l)).toArray,.int .i64 (d:Int),.pointer (some ⟨N,0,none⟩)] w (FmV N w (fmCs cdN (mapTs CdA.d l) d (n+1))):=by
 obtain⟨n0,nf,nl,n1,c0,e1,e2,d0,d1,d2,d3,d4,d5,d6,z0,z1,z2,HM⟩:=fo_f (k:=k) (col:=col) (oth:=oth) (vk:=vk) (vn:=vn) (vs:=vs) (ao:=ao) (cap:=cap) (l:=l) hn hd hN _ _ _ rfl rfl rfl
 clear hN
 have HL:=Lib.hid hl
 clear hl
 rcases hk with⟨rfl,rfl⟩|⟨rfl,rfl⟩|⟨rfl,rfl⟩|⟨rfl,rfl⟩
 all_goals
  go_enter Tryz.func164,Tryz.ntmps164
  go_wp2_with (first
   | ((with_reducible show wpList _ _ _ (⟨some 70,.binOp _ _ _ _ _,_,_,_,_⟩::_) _ _);refine wpl_valO rfl (yr_nevO rfl rfl rfl hnz) ?_)
   | ((with_reducible show wpList _ _ _ (⟨some 72,.makeMap _ _,_,_,_,_⟩::_) _ _);generalize ((w.alloc (.cells (cdS.vals (.mk ⟨⟨_,col,oth,vk,vn,vs⟩,ao,cap⟩ l)).toArray 27)).setCell ⟨N,0,none⟩ (.int .i64 ((n:Int)+1))).alloc (.cells #[.int .i64 0,.int .i64 0,.string ⟨#[]⟩] 24)=W2 at HM d0 d1 d2 d3 d4 d5 d6 z0 z1 z2 ⊢;have hB2:=HM.out.1.hD;have hN2:=HM.out.2.2.1.hD;refine wpl_mkI rfl rfl ?_;intro W3 hE3 s0 hs3)
   | ((with_reducible show wpList _ _ _ (⟨none,.insert _ _ (.const (.int _ 4)) _,_,_,_,_⟩::_) _ _);refine wpl_insI rfl _ _ _ rfl W2.heap.size 0 _ 4 1 rfl rfl rfl s0 (by decide) (by decide) (by decide) ?_;intro w1 s1 f1)
   | ((with_reducible show wpList _ _ _ (⟨none,.insert _ _ (.const (.int _ 5)) _,_,_,_,_⟩::_) _ _);refine wpl_insI rfl _ _ _ rfl W2.heap.size 1 _ 5 2 rfl rfl rfl s1 (by decide) (by decide) (by decide) ?_;intro w2 s2 f2)
   | ((with_reducible show wpList _ _ _ (⟨none,.insert _ _ (.const (.int _ 6)) _,_,_,_,_⟩::_) _ _);refine wpl_insI rfl _ _ _ rfl W2.heap.size 2 _ 6 2 rfl rfl rfl s2 (by decide) (by decide) (by decide) ?_;intro w3 s3 f3;have q1:=(((HM.out.1.ext hE3).frm f1 (by omega)).frm f2 (by omega)).frm f3 (by omega);have q0:=q1.at 0 _ rfl;have q6:w3.cell? ⟨w.heap.size,6,none⟩=some (.slice ao l.length cap):=q1.at 6 _ rfl;have HQ3:=Lib.hid (show Frm (fun b=>b=W2.heap.size) W2 w3 from(((Frm.of_ext hE3).trans f1).trans f2).trans f3);have HS3:=Lib.hid s3;clear q1 s0 s1 s2 s3 f1 f2 f3 hE3 d0 d1 d2 d3 d4 d5 d6 z0 z1 z2)
   | ((with_reducible show wpList _ _ _ (⟨some 76,.lookup _ _ _ _,_,_,_,_⟩::_) _ _);refine wpl_valO rfl (yr_lookZ rfl rfl rfl (by first|exact HS3.out.look 3 (by decide) 0 rfl|exact HS3.out.look 4 (by decide) 1 rfl|exact HS3.out.look 5 (by decide) 2 rfl|exact HS3.out.look 6 (by decide) 2 rfl)) ?_;have hl:=HL.out))
  have hF3:Hid (Frm (fun k=>k=N) w w3):=HM.out.2.2.2.1.step HQ3.out (fun x h1 h2=>by omega)
  have hN3:Hid (BxT N [.int .i64 ((n+1:Nat):Int)] w3):=HM.out.2.2.1.frm HQ3.out (by omega)
  obtain⟨hln,hcp,hrd⟩:=hrd
  have hcap:cap≤9223372036854775807:=hcp
  have HRd:=Lib.hid hrd
  have HK:=Lib.hid hK
  have hNlt:=HM.out.2.2.2.2
  obtain⟨R,hR⟩:∃R,fmCs cdN (mapTs CdA.d l) d (n+1)=R:=⟨_,rfl⟩
  rw[hR]
  have HR:=Lib.hid hR
  clear hR hK hrd hl HL HM HQ3 HS3 hc ho hnz q0 q6 hcp hB2 hN2 hs3
  go_loopw [85] (fun i wr=>∃j m:Nat,j≤l.length∧i = .int .i64 (j:Int)∧Hid (Frm (fun k=>k=N) w wr)∧Hid (BxT N [.int .i64 (m:Int)] wr)∧m≤60∧Hid (fmCs cdN ((mapTs CdA.d l).drop j) d m=R)) (fun i _=>l.length-(intOf i).toNat)
  case atStart=>exact⟨0,n+1,Nat.zero_le _,rfl,hF3,hN3,by omega,HR.out⟩
  case round=>
   obtain⟨j,m,hj,rfl,hF,hBN,hm,hRj⟩:=hrel
   by_cases hlt:j<l.length
   ·obtain⟨R2,of2,e2,hA2,hR0,hc⟩:=HRd.out (by rintro rfl;simp at hlt)
    subst e2
    have HV:Hid (wr.rangeAt R2 (of2+j*7) (cdS.vals l[j])):=fun o v hv=>(hF.out.cel hR0 (by omega) _).trans (hc j hlt o v hv)
    have hmem:l[j]∈l:=List.getElem_mem _
    have HRx:=Lib.hid (fmCs_at hRj.out (by rw[mapTs_len];exact hlt) (mapTs_get hlt))
    have HKx:=Lib.hid (HK.out _ hmem m)
    obtain⟨x,hx⟩:∃x,x=l[j]:=⟨_,rfl⟩
    rw[←hx]at HV HRx HKx
    clear hx hc hmem hRj
    cases hfx:fmK cdN (mapT CdA.d x) (d+1) m with
    | none=>
      rw[hfx]at HRx HKx
      have HRn:Hid (R=none):=HRx.out
      clear hfx HRx
      go_wp2_with (first
       | ((with_reducible show wpList _ _ _ (⟨some 88,.load _ _,_,_,_,_⟩::_) _ _);refine wpl_elem rfl rfl rfl 27 _ _ _ rfl rfl rfl R2 (of2+j*7) rfl (cdS.vals x) zeroC _ HV.out Tryz.underlying27 rfl (info_c x) (vals_one_c x) rfl alloc_c rfl rfl ?_;intro W hEW hBW)
       | ((with_reducible show wpList _ _ _ (⟨some 89,.load _ _,_,_,_,_⟩::_) _ _);refine wpl_load rfl 27 _ rfl wr.heap.size 0 rfl (cdS.vals x) _ hBW.2 Tryz.underlying27 rfl (info_c x) ?_)
       | (go_at_call 164;(with_reducible refine(HKx.out W hm (hBN.out.ext hEW) (hF.out.trans (Frm.of_ext hEW))).mono ?_);rintro e w4 ⟨hF4,rfl⟩))
      go_ret
      rw[HRn.out]
      exact⟨(hF.out.trans (Frm.of_ext hEW)).trans hF4,rfl⟩
    | some m'=>
      rw[hfx]at HRx HKx
      have hm':=fm_le hfx
      clear hfx
      go_wp2_with (first
       | ((with_reducible show wpList _ _ _ (⟨some 88,.load _ _,_,_,_,_⟩::_) _ _);refine wpl_elem rfl rfl rfl 27 _ _ _ rfl rfl rfl R2 (of2+j*7) rfl (cdS.vals x) zeroC _ HV.out Tryz.underlying27 rfl (info_c x) (vals_one_c x) rfl alloc_c rfl rfl ?_;intro W hEW hBW)
       | ((with_reducible show wpList _ _ _ (⟨some 89,.load _ _,_,_,_,_⟩::_) _ _);refine wpl_load rfl 27 _ rfl wr.heap.size 0 rfl (cdS.vals x) _ hBW.2 Tryz.underlying27 rfl (info_c x) ?_)
       | (go_at_call 164;(with_reducible refine(HKx.out W hm (hBN.out.ext hEW) (hF.out.trans (Frm.of_ext hEW))).mono ?_);rintro e w4 ⟨hF4,rfl,hB4⟩))
      go_roundw
      case rel=>exact⟨j+1,m',by omega,by go_num,(hF.out.trans (Frm.of_ext hEW)).trans hF4,hB4,hm',HRx.out.symm⟩
      case measure=>simp[intOf];omega
   ·obtain rfl:j=l.length:=by omega
    have HRs:Hid (R=some m):=by
     rw[Hid,←hRj.out,show l.length=(mapTs CdA.d l).length from(mapTs_len _ _).symm,List.drop_length,fmCs]
    go_wp2_with fail
    go_ret
    rw[show fmCs cdN (mapTs CdA.d l) d (n+1)=some m from HR.out.trans HRs.out]
    exact⟨hF.out,rfl,hBN.out⟩
end Go.Proofs.YtlmeinikknoeeaaGreatDoor
namespace Go.Proofs.YtlmeinikknoeeaaGreatDoor
set_option linter.unusedVariables false
set_option linter.unnecessarySimpa false
set_option linter.unusedSimpArgs false
open Go.RowKit
def ln1 (c:UInt8) (ln:Int):Int:=if c.toNat=10 then ln+1 else ln
def cl1 (c:UInt8) (cl:Int):Int:=if c.toNat=10 then 1 else cl+1
structure Lxr (s:List UInt8) (X i:Nat) (ln cl:Int) (v:Value) (w:World):Prop where
 hX:X<w.heap.size
 c0:w.cell? ⟨X,0,none⟩=some (.string ⟨s.toArray⟩)
 c1:w.cell? ⟨X,1,none⟩=some (.int .i64 (i:Int))
 c2:w.cell? ⟨X,2,none⟩=some (.int .i64 ln)
 c3:w.cell? ⟨X,3,none⟩=some (.int .i64 cl)
 c4:w.cell? ⟨X,4,none⟩=some v
 f1:w.frozen? ⟨X,1,none⟩=false
 f2:w.frozen? ⟨X,2,none⟩=false
 f3:w.frozen? ⟨X,3,none⟩=false
 f4:w.frozen? ⟨X,4,none⟩=false
 hi:i≤s.length
 hs:s.length≤65536
 hl:1≤ln∧ln≤i+1
 hc:1≤cl∧cl≤i+1
theorem Lxr.frm {s:List UInt8} {X i:Nat} {ln cl:Int} {v:Value} {S:Nat→Prop} {w w':World} (h:Lxr s X i ln cl v w) (hF:Frm S w w') (hS:¬S X):Lxr s X i ln cl v w':=
 ⟨hF.lt h.hX,(hF.cel h.hX hS _).trans h.c0,(hF.cel h.hX hS _).trans h.c1,(hF.cel h.hX hS _).trans h.c2,(hF.cel h.hX hS _).trans h.c3,(hF.cel h.hX hS _).trans h.c4,(hF.frz h.hX hS _).trans h.f1,(hF.frz h.hX hS _).trans h.f2,(hF.frz h.hX hS _).trans h.f3,(hF.frz h.hX hS _).trans h.f4,h.hi,h.hs,h.hl,h.hc⟩
theorem Lxr.ext {s:List UInt8} {X i:Nat} {ln cl:Int} {v:Value} {w w':World} (h:Lxr s X i ln cl v w) (hE:Ext w w'):Lxr s X i ln cl v w':=h.frm (S:=fun _=>False) (Frm.of_ext hE) (fun e=>e)
theorem Lxr.nl {s:List UInt8} {X i:Nat} {ln cl:Int} {v:Value} {w w':World} (h:Lxr s X i ln cl v w) (hE:Ext w w') (hi:i<s.length) {x y:Int} (hx:x=ln+1) (hy:y=i+1) :
  Lxr s X (i+1) (ln+1) 1 v (((w'.setCell ⟨X,2,none⟩ (.int .i64 x)).setCell ⟨X,3,none⟩ (.int .i64 1)).setCell ⟨X,1,none⟩ (.int .i64 y))∧Frm (fun k=>k=X) w (((w'.setCell ⟨X,2,none⟩ (.int .i64 x)).setCell ⟨X,3,none⟩ (.int .i64 1)).setCell ⟨X,1,none⟩ (.int .i64 y)):=by
 subst hx hy
 have q:=h.ext hE
 have hl:=h.hl
 have hs:=h.hs
 obtain⟨q0,q1,q2,q3,q4,q5,g1,g2,g3,g4,-,-,-,-⟩:=q
 have hF:Frm (fun k=>k=X) w' (((w'.setCell ⟨X,2,none⟩ (.int .i64 (ln+1))).setCell ⟨X,3,none⟩ (.int .i64 1)).setCell ⟨X,1,none⟩ (.int .i64 ((i:Int)+1))):=
  ((Frm.refl (fun k=>k=X) w').setCell (p:=⟨X,2,none⟩) (.inl rfl) _ |>.setCell (p:=⟨X,3,none⟩) (.inl rfl) _).setCell (p:=⟨X,1,none⟩) (.inl rfl) _
 refine⟨⟨hF.lt q0,?_,?_,?_,?_,?_,?_,?_,?_,?_,hi,hs,by omega,by omega⟩,(Frm.of_ext hE).trans hF⟩
 ·simp[World.cell?_setCell_other,q1]
 ·rw[World.cell?_setCell_same _ _ _ (by simp[World.cell?_setCell_other];exact q2)];rfl
 ·rw[World.cell?_setCell_other _ _ _ _ (by simp),World.cell?_setCell_other _ _ _ _ (by simp),World.cell?_setCell_same _ _ _ q3]
 ·rw[World.cell?_setCell_other _ _ _ _ (by simp),World.cell?_setCell_same _ _ _ (by simp[World.cell?_setCell_other];exact q4)]
 ·simp[World.cell?_setCell_other,q5]
 all_goals simpa [World.frozen?_setCell]
theorem Lxr.on {s:List UInt8} {X i:Nat} {ln cl:Int} {v:Value} {w w':World} (h:Lxr s X i ln cl v w) (hE:Ext w w') (hi:i<s.length) {x y:Int} (hx:x=cl+1) (hy:y=i+1) :
  Lxr s X (i+1) ln (cl+1) v ((w'.setCell ⟨X,3,none⟩ (.int .i64 x)).setCell ⟨X,1,none⟩ (.int .i64 y))∧Frm (fun k=>k=X) w ((w'.setCell ⟨X,3,none⟩ (.int .i64 x)).setCell ⟨X,1,none⟩ (.int .i64 y)):=by
 subst hx hy
 have q:=h.ext hE
 have hl:=h.hl
 have hc:=h.hc
 have hs:=h.hs
 obtain⟨q0,q1,q2,q3,q4,q5,g1,g2,g3,g4,-,-,-,-⟩:=q
 have hF:Frm (fun k=>k=X) w' ((w'.setCell ⟨X,3,none⟩ (.int .i64 (cl+1))).setCell ⟨X,1,none⟩ (.int .i64 ((i:Int)+1))):=
  ((Frm.refl (fun k=>k=X) w').setCell (p:=⟨X,3,none⟩) (.inl rfl) _).setCell (p:=⟨X,1,none⟩) (.inl rfl) _
 refine⟨⟨hF.lt q0,?_,?_,?_,?_,?_,?_,?_,?_,?_,hi,hs,by omega,by omega⟩,(Frm.of_ext hE).trans hF⟩
 ·simp[World.cell?_setCell_other,q1]
 ·rw[World.cell?_setCell_same _ _ _ (by simp[World.cell?_setCell_other];exact q2)];rfl
 ·simp[World.cell?_setCell_other,q3]
 ·rw[World.cell?_setCell_other _ _ _ _ (by simp),World.cell?_setCell_same _ _ _ q4]
 ·simp[World.cell?_setCell_other,q5]
 all_goals simpa [World.frozen?_setCell]
def StP (s:List UInt8) (X i:Nat) (c:UInt8) (ln cl:Int) (v:Value) (w:World) (e:Ending) (w':World):Prop:=
 e = .returned (.tuple #[])∧Lxr s X (i+1) (ln1 c ln) (cl1 c cl) v w'∧Frm (fun k=>k=X) w w'
set_option maxRecDepth 100000 in
set_option maxHeartbeats 1000000 in
theorem step_c {s:List UInt8} {X i:Nat} {ln cl:Int} {v:Value} {w:World} {c:UInt8} (h:Lxr s X i ln cl v w) (hc:s[i]? = some c) :
  Calls Tryz.prog 250 #[.pointer (some ⟨X,0,none⟩)] w (StP s X i c ln cl v w):=by
 obtain⟨hlt,he⟩:=List.getElem?_eq_some_iff.1 hc
 have hb:=bget s i hlt c he.symm
 have HL:=Lib.hid h
 obtain⟨hX,c0,c1,c2,c3,-,f1,f2,f3,-,-,hs,hl,hcc⟩:=h
 clear he hc
 by_cases hn:c.toNat=10
 ·have e1:((c.toNat:Int)==10)=true:=by rw[beq_iff_eq];omega
  have Hn:=Lib.hid hn
  clear hn
  go_enter Tryz.func250,Tryz.ntmps250
  go_wp2_with fail
  go_quiet (fail)
  go_wp2_with fail
  go_end0
  refine⟨rfl,?_⟩
  rw[ln1,cl1,if_pos Hn.out,if_pos Hn.out]
  exact HL.out.nl ((Ext.refl w).drewN nq) hlt rfl rfl
 ·have e1:((c.toNat:Int)==10)=false:=by rw[beq_eq_false_iff_ne];omega
  have Hn:=Lib.hid hn
  clear hn
  go_enter Tryz.func250,Tryz.ntmps250
  go_wp2_with fail
  go_quiet (fail)
  go_wp2_with fail
  go_end0
  refine⟨rfl,?_⟩
  rw[ln1,cl1,if_neg Hn.out,if_neg Hn.out]
  exact HL.out.on ((Ext.refl w).drewN nq) hlt rfl rfl
end Go.Proofs.YtlmeinikknoeeaaGreatDoor
namespace Go.Proofs.YtlmeinikknoeeaaGreatDoor
set_option linter.unusedVariables false
set_option linter.unnecessarySimpa false
set_option linter.unusedSimpArgs false
open Go.RowKit
def lnL (T:List UInt8) (ln:Int):Int:=T.foldl (fun l c=>ln1 c l) ln
def clL (T:List UInt8) (cl:Int):Int:=T.foldl (fun l c=>cl1 c l) cl
theorem lnL_app (T:List UInt8) (c:UInt8) (ln:Int):lnL (T ++ [c]) ln=ln1 c (lnL T ln):=by unfold lnL;rw[List.foldl_append];rfl
theorem clL_app (T:List UInt8) (c:UInt8) (cl:Int):clL (T ++ [c]) cl=cl1 c (clL T cl):=by unfold clL;rw[List.foldl_append];rfl
def ByT (fid:FuncId) (p:UInt8→Bool):Prop:=(∀(xs:Array Value) (w':World),(callFunc fid xs).run Tryz.prog w' = .ok (.enter fid xs) w')∧∀(c:UInt8) (b:Bool) (w:World),p c=b→Calls Tryz.prog fid #[.int .u8 (c.toNat:Int)] w fun e w'=>e = .returned (.bool b)∧w=w'
def WhP (p:UInt8→Bool) (s:List UInt8) (X i:Nat) (ln cl:Int) (v:Value) (w:World) (e:Ending) (w':World):Prop:=
 ∃T,T=(s.drop i).takeWhile p∧e = .returned (.string ⟨T.toArray⟩)∧Lxr s X (i+T.length) (lnL T ln) (clL T cl) v w'∧Frm (fun k=>k=X) w w'
theorem tw_end {p:UInt8→Bool} {T r:List UInt8} (hT:T.all p=true) (hr:∀c,r.head? = some c→p c=false):(T++r).takeWhile p=T:=by
 induction T with
 | nil=>
   cases r with
   | nil=>rfl
   | cons c r=>rw[List.nil_append,List.takeWhile_cons,hr c rfl];rfl
 | cons c T ih=>
   rw[List.all_cons,Bool.and_eq_true]at hT
   rw[List.cons_append,List.takeWhile_cons,if_pos hT.1,ih hT.2]
set_option maxRecDepth 100000 in
set_option maxHeartbeats 2000000 in
theorem while_c {p:UInt8→Bool} {fid:FuncId} (hP:ByT fid p) {s:List UInt8} {X i:Nat} {ln cl:Int} {v:Value} {w:World} (h:Lxr s X i ln cl v w) :
  Calls Tryz.prog 189 #[.pointer (some ⟨X,0,none⟩),.func (.func fid) #[] #[]] w (WhP p s X i ln cl v w):=by
 obtain⟨hcf,hby⟩:=hP
 have HY:=Lib.hid hby
 have HL:=Lib.hid h
 have hi:=h.hi
 have hs:=h.hs
 have c1:=h.c1
 have hX:=h.hX
 clear h hby
 go_enter Tryz.func189,Tryz.ntmps189
 go_wp2_with fail
 go_loopg [13] s.length (fun g _ wx=>∃T:List UInt8,i+T.length≤s.length∧s.length≤i+T.length+g∧Hid (T.all p=true)∧Hid (s.drop i=T++s.drop (i+T.length))∧Hid (Lxr s X (i+T.length) (lnL T ln) (clL T cl) v wx)∧Hid (Frm (fun k=>k=X) w wx))
 case atStart=>exact⟨[],by simpa using hi,by simp,rfl,rfl,HL.out,Frm.refl _ _⟩
 case round=>
  obtain⟨T,hj,hg,hal,hdr,hlx,hfr⟩:=hrel
  obtain⟨j,hjj⟩:∃j,j=i+T.length:=⟨_,rfl⟩
  rw[←hjj]at hj hg hdr hlx
  have Hj:=Lib.hid hjj
  clear hjj
  have hji:i≤j:=by rw[Hj.out];omega
  have hm:(⟨s.toArray⟩:ByteArray).extract i j=⟨T.toArray⟩:=by
   rw[bmid,hdr.out,show j-i=T.length by rw[Hj.out];omega,List.take_left]
  obtain⟨y0,y1,y2,-,-,-,-,-,-,-,-,-,-,-⟩:=hlx.out
  by_cases hlt:j<s.length
  ·obtain⟨c,hc⟩:∃c,c=s[j]:=⟨_,rfl⟩
   have hb:=bget s j hlt c hc
   have HC:Hid (s[j]? = some c):=by rw[Hid,hc];exact List.getElem?_eq_getElem hlt
   have HD:Hid (s.drop j=c::s.drop (j+1)):=by rw[Hid,hc];exact List.drop_eq_getElem_cons hlt
   have e1:decide ((j:Int)<(s.length:Int))=true:=by rw[decide_eq_true_eq];omega
   clear hc
   cases hp:p c with
   | true=>
     have HP:=Lib.hid (HY.out c true · hp)
     obtain⟨g',rfl⟩:∃g',gk=g'+1:=⟨gk-1,by omega⟩
     have HA:Hid ((T ++ [c]).all p=true):=by rw[Hid,List.all_append,hal.out,List.all_cons,hp];rfl
     clear hp
     go_wp2_with fail
     go_quiet (refine Calls.quiet_of_same ((HP.out _).mono fun _ _ q=>⟨q.1,q.2.symm⟩))
     go_wp2_with (go_at_call 250;(with_reducible refine(step_c (hlx.out.ext ((Ext.refl _).drewN nq)) HC.out).mono ?_);rintro x w2 ⟨rfl,hl2,hF2⟩)
     go_roundg g'
     case measure=>omega
     case rel=>
      have e:i+(T ++ [c]).length=j+1:=by rw[Hj.out,List.length_append];rfl
      refine⟨T ++ [c],by rw[e];omega,by rw[e];omega,HA.out,?_,?_,?_⟩
      ·rw[Hid,e,hdr.out,HD.out,List.append_assoc];rfl
      ·rw[Hid,e,lnL_app,clL_app];exact hl2
      ·exact(hfr.out.trans (Frm.of_ext ((Ext.refl _).drewN nq))).trans hF2
   | false=>
     have HP:=Lib.hid (HY.out c false · hp)
     have HT:Hid (T=(s.drop i).takeWhile p):=by
      rw[Hid,hdr.out,HD.out]
      exact(tw_end hal.out (fun d hd=>by injection hd with hd;rw[←hd];exact hp)).symm
     clear hp
     go_wp2_with fail
     go_quiet (refine Calls.quiet_of_same ((HP.out _).mono fun _ _ q=>⟨q.1,q.2.symm⟩))
     go_wp2_with fail
     go_quiet (fail)
     go_wp2_with fail
     go_ret
     exact⟨T,HT.out,rfl,Hj.out▸hlx.out.ext ((Ext.refl _).drewN _ |>.drewN _),hfr.out.trans (Frm.of_ext ((Ext.refl _).drewN _ |>.drewN _))⟩
  ·have e1:decide ((j:Int)<(s.length:Int))=false:=by rw[decide_eq_false_iff_not];omega
   have HT:Hid (T=(s.drop i).takeWhile p):=by
    rw[Hid,hdr.out,List.drop_eq_nil_of_le (by omega)]
    exact(tw_end hal.out (fun d hd=>by cases hd)).symm
   go_wp2_with fail
   go_quiet (fail)
   go_wp2_with fail
   go_quiet (fail)
   go_wp2_with fail
   go_ret
   exact⟨T,HT.out,rfl,Hj.out▸hlx.out.ext ((Ext.refl _).drewN _ |>.drewN _),hfr.out.trans (Frm.of_ext ((Ext.refl _).drewN _ |>.drewN _))⟩
end Go.Proofs.YtlmeinikknoeeaaGreatDoor
namespace Go.Proofs.YtlmeinikknoeeaaGreatDoor
set_option maxRecDepth 100000
set_option maxHeartbeats 1000000
set_option linter.unusedVariables false
set_option linter.unnecessarySimpa false
set_option linter.unusedSimpArgs false
open Go.RowKit
theorem dbe (c:UInt8) (n:Nat) (z:Int) (hz:z=n):((c.toNat:Int)==z)=decide (c.toNat=n):=by
 subst hz
 by_cases h:c.toNat=n
 ·rw[decide_eq_true h,beq_iff_eq];omega
 ·rw[decide_eq_false h,beq_eq_false_iff_ne];omega
theorem by_blank:ByT 190 blB:=by
 refine⟨fun _ _=>by kernel_rfl,fun c b w h=>?_⟩
 subst h
 have e1:=dbe c 32 32 rfl
 have e2:=dbe c 9 9 rfl
 have e3:=dbe c 10 10 rfl
 unfold blB
 cases d1:decide (c.toNat=32)<;>cases d2:decide (c.toNat=9)<;>cases d3:decide (c.toNat=10)
 all_goals
  rw[d1]at e1
  rw[d2]at e2
  rw[d3]at e3
  clear d1 d2 d3
  go_enter Tryz.func190,Tryz.ntmps190
  go_wp2_with fail
  go_ret
  exact⟨rfl,rfl⟩
theorem by_word:ByT 251 wdC:=by
 refine⟨fun _ _=>by kernel_rfl,fun c b w h=>?_⟩
 subst h
 have e3:=dbe c 95 95 rfl
 unfold wdC
 cases d1:ltQ c<;>cases d2:isDg c<;>cases d3:decide (c.toNat=95)
 all_goals
  have H1:=Lib.hid d1
  have H2:=Lib.hid d2
  rw[d3]at e3
  clear d1 d2 d3
  go_enter Tryz.func251,Tryz.ntmps251
  go_wp2_with (first
   | (go_at_call 241;(with_reducible refine(qlet_c c _ _ H1.out).mono ?_);rintro e w1 ⟨rfl,rfl⟩)
   | (go_at_call 242;(with_reducible refine(qdig_c c _ _ H2.out).mono ?_);rintro e w1 ⟨rfl,rfl⟩))
  go_ret
  exact⟨rfl,rfl⟩
theorem by_const:ByT 252 cnB:=by
 refine⟨fun _ _=>by kernel_rfl,fun c b w h=>?_⟩
 subst h
 have e3:=dbe c 58 58 rfl
 have e4:=dbe c 45 45 rfl
 unfold cnB
 cases d1:ltQ c<;>cases d2:isDg c<;>cases d3:decide (c.toNat=58)<;>cases d4:decide (c.toNat=45)
 all_goals
  have H1:=Lib.hid d1
  have H2:=Lib.hid d2
  rw[d3]at e3
  rw[d4]at e4
  clear d1 d2 d3 d4
  go_enter Tryz.func252,Tryz.ntmps252
  go_wp2_with (first
   | (go_at_call 241;(with_reducible refine(qlet_c c _ _ H1.out).mono ?_);rintro e w1 ⟨rfl,rfl⟩)
   | (go_at_call 242;(with_reducible refine(qdig_c c _ _ H2.out).mono ?_);rintro e w1 ⟨rfl,rfl⟩))
  go_ret
  exact⟨rfl,rfl⟩
end Go.Proofs.YtlmeinikknoeeaaGreatDoor
namespace Go.Proofs.YtlmeinikknoeeaaGreatDoor
set_option maxRecDepth 100000
set_option maxHeartbeats 2000000
open Go.RowKit
def Bld (b lo hi:Nat) (bs:List Value) (w:World):Prop:=
 b<lo∧lo≤w.heap.size∧∃p v,(p = .pointer none∨p = .pointer (some ⟨b,0,none⟩))∧w.heap[b]? = some (.cells #[p,v] 186 (0,0))∧
  w.ownsRow lo 5 1 v bs.length bs∧∀k,v.ownBlock=some k→k<hi
theorem Bld.lt {b lo hi:Nat} {bs:List Value} {w:World} (h:Bld b lo hi bs w):b<w.heap.size:=by
 obtain⟨h1,h2,_⟩:=h
 omega
theorem ownsRow_same {w w':World} {base:Nat} {e:TypeId} {size:Nat} {v:Value} {n:Nat} {xs:List Value} (h:w.ownsRow base e size v n xs) (hk:∀k,v.ownBlock=some k→w'.heap[k]? = w.heap[k]?):w'.ownsRow base e size v n xs:=by
 refine⟨h.1,?_⟩
 rcases h.2 with h2|⟨g,cap,cur,hv,hb,hg,r⟩
 ·exact .inl h2
 ·exact .inr ⟨g,cap,cur,hv,hb,(hk g (by rw[hv];rfl)).trans hg,r⟩
theorem Bld.keep {S:Nat→Prop} {b lo hi:Nat} {bs:List Value} {w w':World} (h:Bld b lo hi bs w) (hf:Frm S w w') (hb:¬S b) (hr:∀k,lo≤k→k<hi→¬S k):Bld b lo hi bs w':=by
 have hlt:=h.lt
 obtain⟨h1,h2,p,v,hp,hh,hown,hk⟩:=h
 refine⟨h1,Nat.le_trans h2 hf.size,p,v,hp,(hf.block b hlt hb).trans hh,ownsRow_same hown fun k e=>hf.block k (hown.lt k e).2 (hr k (hown.lt k e).1 (hk k e)),hk⟩
theorem Bld.ext {b lo hi:Nat} {bs:List Value} {w w':World} (h:Bld b lo hi bs w) (hf:Ext w w'):Bld b lo hi bs w':=
 h.keep (Frm.of_ext (S:=fun _=>False) hf) (fun q=>q) (fun _ _ _ q=>q)
theorem Bld.new (w:World) (b lo hi:Nat) (hb:b<lo) (hl:lo≤w.heap.size) (h:w.heap[b]? = some (.cells #[.pointer none,.slice none 0 0] 186 (0,0))):Bld b lo hi [] w:=
 ⟨hb,hl,_,_,.inl rfl,h,World.ownsRow_nil _ _ _ _,fun k e=>by cases e⟩
theorem heap_set (w:World) (b i:Nat) (cs:Array Value) (t:TypeId) (u:Value) (h:w.heap[b]? = some (.cells cs t (0,0))):(w.setCell ⟨b,i,none⟩ u).heap[b]? = some (.cells (cs.setIfInBounds i u) t (0,0)):=by
 simp[World.setCell,Array.getElem?_modify,h]
theorem sizeBuilder:(Tryz.prog.info? 186).map (·.size)=some 2:=by kernel_rfl
theorem liesBuilder:liesAt Tryz.prog Tryz.prog.depth 186 (2/Tryz.prog.cellsOf 186) 0 186 1=true:=by kernel_rfl
theorem infoByte:(Tryz.prog.info? 5).map (fun i=>(i.zero,i.size,i.bytes))=some (some (.int .u8 0),1,1):=by kernel_rfl
theorem cellsByte:Tryz.prog.cellsOf 5=1:=by kernel_rfl
theorem cc_used (b:Nat) (w:World) (h0:w.cell? ⟨b,0,none⟩=some (.pointer (some ⟨b,0,none⟩))) :
  Calls Tryz.prog 236 #[.pointer (some ⟨b,0,none⟩)] w fun e w'=>e = .returned (.tuple #[])∧w=w':=by
 obtain⟨j,hj,_⟩:=Option.map_eq_some_iff.1 sizeBuilder
 go_enter Tryz.func236,Tryz.ntmps236
 go_wp2
 rw[Lib.run_neq_ptr_same w _ Tryz.underlying183 hj]
 go_wp2
 go_end0
 exact⟨rfl,rfl⟩
theorem cc_fresh (b:Nat) (w:World) (h0:w.cell? ⟨b,0,none⟩=some (.pointer none)) (hsh:w.shape? b=some (186,2)) (hfz:w.frozen? ⟨b,0,none⟩=false) :
  Calls Tryz.prog 236 #[.pointer (some ⟨b,0,none⟩)] w fun e w'=>e = .returned (.tuple #[])∧w.setCell ⟨b,0,none⟩ (.pointer (some ⟨b,0,none⟩))=w':=by
 obtain⟨j,hj,hjs⟩:=Option.map_eq_some_iff.1 sizeBuilder
 go_enter Tryz.func236,Tryz.ntmps236
 go_wp2
 rw[Lib.run_to_unsafe w ⟨b,0,none⟩ Tryz.underlying183 Tryz.underlying278 hj (by rw[hjs];decide) hsh (Nat.zero_lt_succ 1)]
 simp only[Result.andThen]
 rw[Oper.upon_value]
 go_wp2
 rw[run_callFunc_extern Tryz.func278 (by kernel_rfl) (by kernel_rfl) (by kernel_rfl) (e:=Extern.AbiNoEscape.same) (by kernel_rfl)]
 rw[Lib.run_noEscape]
 simp only[Result.andThen]
 rw[Oper.upon_value]
 go_wp2
 rw[Lib.run_from_unsafe w ⟨b,0,none⟩ Tryz.underlying278 Tryz.underlying183 hj hsh liesBuilder]
 simp only[Result.andThen]
 rw[Oper.upon_value]
 go_wp2
 go_end0
 exact⟨rfl,rfl⟩
def BS (b lo hi:Nat):Nat→Prop:=fun k=>k=b∨(lo≤k∧k<hi)
theorem cc_c (b lo hi:Nat) (bs:List Value) (w:World) (h:Bld b lo hi bs w) :
  Calls Tryz.prog 236 #[.pointer (some ⟨b,0,none⟩)] w fun e w'=>e = .returned (.tuple #[])∧
   ∃v,w'.heap[b]? = some (.cells #[.pointer (some ⟨b,0,none⟩),v] 186 (0,0))∧w'.ownsRow lo 5 1 v bs.length bs∧(∀k,v.ownBlock=some k→k<hi)∧Frm (BS b lo hi) w w':=by
 have hlt:=h.lt
 obtain⟨h1,h2,p,v,hp,hh,hown,hk⟩:=h
 rcases hp with rfl|rfl
 ·refine(cc_fresh b w (by simp[World.cell?,hh]) (by simp[World.shape?,hh]) (by simp[World.frozen?,hh])).mono ?_
  rintro e w' ⟨rfl,rfl⟩
  exact⟨rfl,v,heap_set w b 0 _ _ _ hh,ownsRow_setCell_below hown (a:=⟨b,0,none⟩) h1 _,hk,(Frm.refl _ w).setCell (p:=⟨b,0,none⟩) (.inl (.inl rfl)) _⟩
 ·refine(cc_used b w (by simp[World.cell?,hh])).mono ?_
  rintro e w' ⟨rfl,rfl⟩
  exact⟨rfl,v,hh,hown,hk,Frm.refl _ _⟩
theorem wbyte_c (b lo hi:Nat) (bs:List Value) (c:Int) (w:World) (h:Bld b lo hi bs w) (hlen:bs.length+1≤140737488355328) :
  Calls Tryz.prog 288 #[.pointer (some ⟨b,0,none⟩),.int .u8 c] w fun e w'=>e = .returned .nilIface∧Bld b lo w'.heap.size (bs ++ [.int .u8 c]) w'∧Frm (BS b lo hi) w w':=by
 obtain⟨i0,hi0,hz0,hz1,hz2⟩:=info_parts infoByte
 have hb0:=h.1
 have hl0:=h.2.1
 go_enter Tryz.func288,Tryz.ntmps288
 go_wp2_with (go_at_call 236;refine(cc_c b lo hi bs _ h).mono ?_)
 rintro e w1 ⟨rfl,v,hbk,hown,hkv,hf1⟩
 have hs1:=hf1.size
 have c0:w1.cell? ⟨b,0,none⟩=some (.pointer (some ⟨b,0,none⟩)):=by rw[Lib.cell_of_heap hbk];rfl
 have c1:w1.cell? ⟨b,1,none⟩=some v:=by rw[Lib.cell_of_heap hbk];rfl
 have hne:v.ownBlock≠some b:=fun q=>by have:=(hown.lt b q).1;omega
 go_wp2_with (at_builtin;refine wpList_append_own _ rfl _ _ 184 rfl lo 5 i0 (.int .u8 0) 1 1 Tryz.underlying184 hi0 hz0 hz1 hz2 rfl (by decide) _ _ _ rfl (hown.alloc _) ⟨w1.heap.size,0,none⟩ 1 1 [.int .u8 c] rfl rfl ?c1 ?c2 ?c3 ?c4 ?c5 ?_)
 case c1=>
  intro j u hj
  match j,hj with
  | 0,hj=>simp at hj;subst hj;simp[Addr.add]
 case c2=>intro u hu;simp at hu;subst hu;rfl
 case c3=>unfold maxLen;omega
 case c4=>omega
 case c5=>simp;omega
 intro v' w2 hown' hgrow _
 have hlt:b<w1.heap.size:=by omega
 have hb2:w2.heap[b]? = some (.cells #[.pointer (some ⟨b,0,none⟩),v] 186 (0,0)):=by
  rw[hgrow.block b (by simp;omega) (fun e=>hne e.symm),Lib.alloc_old w1 _ b hlt]
  exact hbk
 have d0:w2.cell? ⟨b,0,none⟩=some (.pointer (some ⟨b,0,none⟩)):=by rw[Lib.cell_of_heap hb2];rfl
 have d1:w2.cell? ⟨b,1,none⟩=some v:=by rw[Lib.cell_of_heap hb2];rfl
 have f1:w2.frozen? ⟨b,1,none⟩=false:=Lib.frozen_of_heap hb2 1
 obtain⟨g,cap,rfl⟩:∃g cap,v' = .slice (some ⟨g,0,none⟩) (bs.length+1) cap:=by
  rcases hown'.2 with⟨_,h0⟩|⟨g,cap,cur,hv,_⟩
  ·omega
  ·exact⟨g,cap,hv⟩
 have hsz:=hgrow.size
 simp at hsz
 have hgl:=(hown'.lt g rfl)
 go_wp2
 go_ret
 refine⟨rfl,⟨hb0,by simp[World.setCell];omega,_,_,.inr rfl,heap_set w2 b 1 _ _ _ hb2,ownsRow_setCell_below (by simpa using hown') (a:=⟨b,1,none⟩) hb0 _,fun k e=>?_⟩,?_⟩
 ·simp[Value.ownBlock]at e;subst e;simp[World.setCell];exact hgl.2
 ·refine Frm.setCell ?_ (p:=⟨b,1,none⟩) (.inl (.inl rfl)) _
  refine(hf1.alloc _).grown hgrow (fun k e=>.inl (.inr ⟨(hown.lt k e).1,hkv k e⟩))
theorem frm_freeze {S:Nat→Prop} {a w:World} (h:Frm S a w) {p:Addr} (hp:S p.block) (n:Nat):Frm S a (w.freeze p n):=by
 refine h.trans ?_
 unfold World.freeze
 split
 ·exact Frm.refl _ _
 ·refine⟨rfl,rfl,rfl,by simp,fun i hi hs=>?_⟩
  show(w.heap.modify p.block _)[i]? = _
  rw[Array.getElem?_modify,if_neg]
  rintro rfl
  exact hs hp
end Go.Proofs.YtlmeinikknoeeaaGreatDoor
