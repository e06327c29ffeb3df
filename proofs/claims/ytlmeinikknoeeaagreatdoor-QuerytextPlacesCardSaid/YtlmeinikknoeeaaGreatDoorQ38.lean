/- Queries: the walk of empty. -/
import Derived.Test.YtlmeinikknoeeaaGreatDoorQ37
namespace Go.Proofs.YtlmeinikknoeeaaGreatDoor
set_option linter.unusedVariables false
set_option linter.unnecessarySimpa false
set_option linter.unusedSimpArgs false
open Go.RowKit
theorem yr_eqvO {o:Oper} {a:Act} {w:World} {x y:Operand} {t2:TypeId} {k n:Int} {s:List UInt8} {b:Bool} (hop:o.op = .binOp .eql 24 x y t2) (hx:a.eval x = .agg #[.int .i64 k,.int .i64 n,.string ⟨s.toArray⟩]) (hy:a.eval y = .agg #[.int .i64 0,.int .i64 0,.string ⟨#[]⟩]) (hb:decide (k=0∧n=0∧s = [])=b):(execOp a.eval o).run Tryz.prog w = .ok (.value (.bool b)) w:=by
 unfold execOp
 simp only[hop,hx,hy]
 simp[Result.andThen,go_sem,eqGuard]
 rw[←hb]
 by_cases h1:k=0
 ·by_cases h2:n=0
  ·by_cases h3:s = []
   ·simp[h1,h2,h3]
   ·simp[h1,h2,h3]
  ·simp[h1,h2]
 ·simp[h1]
theorem yr_eqpO {o:Oper} {a:Act} {w:World} {x y:Operand} {t2:TypeId} {k n:Int} {b:Bool} (hop:o.op = .binOp .eql 29 x y t2) (hx:a.eval x = .agg #[.int .i64 k,.int .i64 n]) (hy:a.eval y = .agg #[.int .i64 0,.int .i64 0]) (hb:decide (k=0∧n=0)=b):(execOp a.eval o).run Tryz.prog w = .ok (.value (.bool b)) w:=by
 unfold execOp
 simp only[hop,hx,hy]
 simp[Result.andThen,go_sem,eqGuard]
 rw[←hb]
 by_cases h1:k=0
 ·by_cases h2:n=0
  ·simp[h1,h2]
  ·simp[h1,h2]
 ·simp[h1]
def ccel (ck:Int) (col oth:List UInt8) (vk vn:Int) (vs:List UInt8) (ca:Option Addr) (cn cc:Nat):List Value:=[.int .i64 ck,.string ⟨col.toArray⟩,.string ⟨oth.toArray⟩,.int .i64 vk,.int .i64 vn,.string ⟨vs.toArray⟩,.slice ca cn cc]
def qcel (k:Int) (tb:List UInt8) (a1:Option Addr) (n1 c1:Nat) (a2:Option Addr) (n2 c2:Nat) (ck:Int) (col oth:List UInt8) (vk vn:Int) (vs:List UInt8) (ca:Option Addr) (cn cc:Nat) (rel fn f t:Int) (la:Option Addr) (ln lc:Nat):List Value:=
 [.int .i64 k,.string ⟨tb.toArray⟩,.slice a1 n1 c1,.slice a2 n2 c2,.int .i64 ck,.string ⟨col.toArray⟩,.string ⟨oth.toArray⟩,.int .i64 vk,.int .i64 vn,.string ⟨vs.toArray⟩,.slice ca cn cc,.int .i64 rel,.int .i64 fn,.int .i64 f,.int .i64 t,.slice la ln lc]
def emB (tb:List UInt8) (n1 n2:Nat) (ck:Int) (col oth:List UInt8) (vk vn:Int) (vs:List UInt8) (cn:Nat) (rel fn f t:Int):Bool:=
 (tb == [])&&decide (n1=0)&&decide (n2=0)&&(ck==0)&&(col == [])&&(oth == [])&&decide (vk=0∧vn=0∧vs = [])&&decide (cn=0)&&(rel==0)&&(fn==0)&&decide (f=0∧t=0)
theorem dz0 (n:Nat):decide (n=0)=((n:Int)==0):=by
 cases n with
 | zero=>rfl
 | succ n=>exact((beq_eq_false_iff_ne).2 (by omega:¬((n+1:Nat):Int)=0)).symm
def Chn:List Bool→Prop
 | []=>True
 | b::l=>b=false∨(b=true∧Chn l)
theorem chn:∀l,Chn l
 | []=>trivial
 | false::_=>.inl rfl
 | true::l=>.inr ⟨rfl,chn l⟩
section
variable (k:Int) (tb:List UInt8) (a1:Option Addr) (n1 c1:Nat) (a2:Option Addr) (n2 c2:Nat) (ck:Int) (col oth:List UInt8) (vk vn:Int) (vs:List UInt8) (ca:Option Addr) (cn cc:Nat) (rel fn f t:Int) (la:Option Addr) (ln lc:Nat) (w:World)
theorem empt_h:∀W0,W0=w.alloc (.cells (qcel k tb a1 n1 c1 a2 n2 c2 ck col oth vk vn vs ca cn cc rel fn f t la ln lc).toArray 32)→Ext w W0∧Hid (BxT w.heap.size (qcel k tb a1 n1 c1 a2 n2 c2 ck col oth vk vn vs ca cn cc rel fn f t la ln lc) W0)∧Hid (W0.rangeAt w.heap.size 4 (ccel ck col oth vk vn vs ca cn cc)):=by
 rintro _ rfl
 have hB:=BxT.new w (qcel k tb a1 n1 c1 a2 n2 c2 ck col oth vk vn vs ca cn cc rel fn f t la ln lc) 32
 refine⟨(Ext.refl w).alloc _,hB,fun j v hv=>?_⟩
 have hj:=(List.getElem?_eq_some_iff.1 hv).1
 have:=hB.rd (4+j) v (by rw[←hv];match j,hj with
  | 0,_=>rfl
  | 1,_=>rfl
  | 2,_=>rfl
  | 3,_=>rfl
  | 4,_=>rfl
  | 5,_=>rfl
  | 6,_=>rfl)
 rwa [Nat.zero_add]at this
theorem empt_g {W0 W:World} (hB:Hid (BxT w.heap.size (qcel k tb a1 n1 c1 a2 n2 c2 ck col oth vk vn vs ca cn cc rel fn f t la ln lc) W0)) (hE:Ext W0 W) (hW:BxR (w.heap.size+1) (ccel ck col oth vk vn vs ca cn cc) W):W.cell? ⟨w.heap.size,1,none⟩=some (.string ⟨tb.toArray⟩)∧W.cell? ⟨w.heap.size,2,none⟩=some (.slice a1 n1 c1)∧W.cell? ⟨w.heap.size,3,none⟩=some (.slice a2 n2 c2)∧W.cell? ⟨w.heap.size,11,none⟩=some (.int .i64 rel)∧W.cell? ⟨w.heap.size,12,none⟩=some (.int .i64 fn)∧W.cell? ⟨w.heap.size,13,none⟩=some (.int .i64 f)∧W.cell? ⟨w.heap.size,14,none⟩=some (.int .i64 t)∧W.cell? ⟨w.heap.size+1,0,none⟩=some (.int .i64 ck)∧W.cell? ⟨w.heap.size+1,1,none⟩=some (.string ⟨col.toArray⟩)∧W.cell? ⟨w.heap.size+1,2,none⟩=some (.string ⟨oth.toArray⟩)∧W.cell? ⟨w.heap.size+1,3,none⟩=some (.int .i64 vk)∧W.cell? ⟨w.heap.size+1,4,none⟩=some (.int .i64 vn)∧W.cell? ⟨w.heap.size+1,5,none⟩=some (.string ⟨vs.toArray⟩)∧W.cell? ⟨w.heap.size+1,6,none⟩=some (.slice ca cn cc):=by
 have hB2:=hB.out.ext hE
 exact⟨hB2.at 1 _ rfl,hB2.at 2 _ rfl,hB2.at 3 _ rfl,hB2.at 11 _ rfl,hB2.at 12 _ rfl,hB2.at 13 _ rfl,hB2.at 14 _ rfl,hW.at 0 _ rfl,hW.at 1 _ rfl,hW.at 2 _ rfl,hW.at 3 _ rfl,hW.at 4 _ rfl,hW.at 5 _ rfl,hW.at 6 _ rfl⟩
set_option maxRecDepth 100000 in
set_option maxHeartbeats 12000000 in
theorem empty_c:Calls Tryz.prog 174 #[.agg (qcel k tb a1 n1 c1 a2 n2 c2 ck col oth vk vn vs ca cn cc rel fn f t la ln lc).toArray] w fun e w'=>e = .returned (.bool (emB tb n1 n2 ck col oth vk vn vs cn rel fn f t))∧Ext w w':=by
 unfold emB
 rw[dz0,dz0,dz0]
 obtain⟨hE0,HB,HC⟩:=empt_h k tb a1 n1 c1 a2 n2 c2 ck col oth vk vn vs ca cn cc rel fn f t la ln lc w _ rfl
 rcases chn [(tb == []),((n1:Int)==0),((n2:Int)==0),(ck==0),(col == []),(oth == []),decide (vk=0∧vn=0∧vs = []),((cn:Int)==0),(rel==0),(fn==0),decide (f=0∧t=0)]with e0|⟨e0,e1|⟨e1,e2|⟨e2,e3|⟨e3,e4|⟨e4,e5|⟨e5,e6|⟨e6,e7|⟨e7,e8|⟨e8,e9|⟨e9,e10|⟨e10,-⟩⟩⟩⟩⟩⟩⟩⟩⟩⟩⟩
 all_goals
  simp only[*,Bool.false_and,Bool.and_false,Bool.and_true]
  go_enter Tryz.func174,Tryz.ntmps174
  go_wp2_with (first
   | ((with_reducible show wpList _ _ _ (⟨some 5,.load _ _,_,_,_,_⟩::_) _ _);refine wpl_elem rfl rfl rfl 27 _ _ _ rfl rfl rfl w.heap.size 4 rfl (ccel ck col oth vk vn vs ca cn cc) zeroC _ HC.out Tryz.underlying27 rfl (by kernel_rfl) rfl rfl alloc_c rfl rfl ?_;intro W hEW hBW;rw[World.size_alloc]at hBW;obtain⟨b1,b2,b3,b11,b12,b13,b14,d0,d1,d2,d3,d4,d5,d6⟩:=empt_g k tb a1 n1 c1 a2 n2 c2 ck col oth vk vn vs ca cn cc rel fn f t la ln lc w HB hEW hBW;clear hBW)
   | ((with_reducible show wpList _ _ _ (⟨some 40,.binOp _ _ _ _ _,_,_,_,_⟩::_) _ _);refine wpl_valO rfl (yr_eqvO rfl rfl rfl e6) ?_)
   | ((with_reducible show wpList _ _ _ (⟨some 62,.binOp _ _ _ _ _,_,_,_,_⟩::_) _ _);refine wpl_valO rfl (yr_eqpO rfl rfl rfl e10) ?_))
  go_ret
  exact⟨rfl,hE0.trans hEW⟩
end
end Go.Proofs.YtlmeinikknoeeaaGreatDoor
namespace Go.Proofs.YtlmeinikknoeeaaGreatDoor
set_option maxRecDepth 100000
set_option linter.unusedVariables false
set_option linter.unnecessarySimpa false
set_option linter.unusedSimpArgs false
open Go.RowKit
theorem npl1_c (s:List UInt8) (b:Bool) (w:World) (hs:s.length≤9223372036854775806) (hw:Rsv w) (hb:nmQ s=b):Calls Tryz.prog 172 #[.string ⟨s.toArray⟩] w fun e w'=>e = .returned (.bool (!b))∧w=w':=by
 have Hs:=Lib.hid hs
 have Hw:=Lib.hid hw
 have Hb:=Lib.hid hb
 clear hb hw
 go_enter Tryz.func172,Tryz.ntmps172
 go_wp2_with (first
  | (go_at_call 169;(with_reducible refine(qname_c s b _ Hs.out Hw.out Hb.out).mono ?_);rintro e w1 ⟨rfl,rfl⟩))
 go_ret
 exact⟨by simp,rfl⟩
theorem npl2_c (s:List UInt8) (b:Bool) (w:World) (hs:s.length≤9223372036854775806) (hw:Rsv w) (hb:nmQ s=b):Calls Tryz.prog 173 #[.string ⟨s.toArray⟩] w fun e w'=>e = .returned (.bool (!b))∧w=w':=by
 have Hs:=Lib.hid hs
 have Hw:=Lib.hid hw
 have Hb:=Lib.hid hb
 clear hb hw
 go_enter Tryz.func173,Tryz.ntmps173
 go_wp2_with (first
  | (go_at_call 169;(with_reducible refine(qname_c s b _ Hs.out Hw.out Hb.out).mono ?_);rintro e w1 ⟨rfl,rfl⟩))
 go_ret
 exact⟨by simp,rfl⟩
set_option maxHeartbeats 1000000 in
theorem idxN_c (fid:FuncId) (hf:∀xs w',(callFunc fid xs).run Tryz.prog w' = .ok (.enter fid xs) w') (p:List UInt8→Bool) (l:List (List UInt8)) (A:Nat→Prop) (ao:Option Addr) (cap:Nat) (w:World) (hT:TxA A w ao cap l)
  (h:∀s∈l,Calls Tryz.prog fid #[.string ⟨s.toArray⟩] w fun e w'=>e = .returned (.bool (p s))∧w=w') :
  Calls Tryz.prog 243 #[.slice ao l.length cap,.func (.func fid) #[] #[]] w fun e w'=>(∃z:Int,e = .returned (.int .i64 z)∧decide (0≤z)=l.any p)∧w=w':=by
 obtain⟨hlen,hcap,-,hrd⟩:=hT
 unfold maxLen at hcap
 have HL:=Lib.hid hrd
 have HC:=Lib.hid h
 obtain⟨G,hG⟩:∃G,G=l.any p:=⟨_,rfl⟩
 have HP:=Lib.hid hG
 rw[←hG]
 clear hG hrd h
 go_enter Tryz.func243,Tryz.ntmps243
 go_wp2_with fail
 go_loop [8] (fun i=>∃j:Nat,j≤l.length∧i = .int .i64 (j:Int)∧Hid ((l.take j).any p=false)) (fun i=>l.length-(intOf i).toNat)
 case atStart=>exact⟨0,Nat.zero_le _,rfl,rfl⟩
 case round=>
  obtain⟨j,hj,rfl,Hall⟩:=hrel
  by_cases hlt:j<l.length
  ·obtain⟨R2,of2,rfl,-,hR0,hc⟩:=HL.out (by rintro rfl;simp at hlt)
   have c0:=hc j hlt
   have Hs:Hid ((l.take (j+1)).any p=((l.take j).any p||p l[j])):=by rw[Hid,List.take_succ_eq_append_getElem hlt,List.any_append];simp
   have hmem:l[j]∈l:=List.getElem_mem _
   have HK:=Lib.hid (HC.out _ hmem)
   obtain⟨x,hx⟩:∃x,x=l[j]:=⟨_,rfl⟩
   rw[←hx]at c0 Hs hmem HK
   clear hx hc
   rcases Bool.eq_false_or_eq_true (p x)with hq|hq
   ·have HT:Hid (G=true):=by rw[Hid,HP.out,List.any_eq_true];exact⟨_,hmem,hq⟩
    rw[hq]at HK
    clear hq hmem
    go_wp2_with (first
     | ((with_reducible refine HK.out.mono ?_);rintro e w1 ⟨rfl,rfl⟩))
    go_ret
    exact⟨⟨(j:Int),rfl,by rw[HT.out];simp⟩,rfl⟩
   ·have Hn:Hid ((l.take (j+1)).any p=false):=by rw[Hid,Hs.out,Hall.out,hq];rfl
    rw[hq]at HK
    clear hq hmem
    go_wp2_with (first
     | ((with_reducible refine HK.out.mono ?_);rintro e w1 ⟨rfl,rfl⟩))
    go_round
    case rel=>exact⟨j+1,by omega,by go_num,Hn⟩
    case measure=>simp[intOf];omega
  ·obtain rfl:j=l.length:=by omega
   have HV:Hid (G=false):=by rw[Hid,HP.out];have:=Hall.out;rwa [List.take_length]at this
   go_wp2_with fail
   go_ret
   exact⟨⟨-1,rfl,by rw[HV.out];rfl⟩,rfl⟩
theorem conN_c (fid:FuncId) (hf:∀xs w',(callFunc fid xs).run Tryz.prog w' = .ok (.enter fid xs) w') (p:List UInt8→Bool) (l:List (List UInt8)) (A:Nat→Prop) (ao:Option Addr) (cap:Nat) (b:Bool) (w:World) (hT:TxA A w ao cap l)
  (h:∀s∈l,Calls Tryz.prog fid #[.string ⟨s.toArray⟩] w fun e w'=>e = .returned (.bool (p s))∧w=w') (hb:l.any p=b) :
  Calls Tryz.prog 171 #[.slice ao l.length cap,.func (.func fid) #[] #[]] w fun e w'=>e = .returned (.bool b)∧w=w':=by
 have HC:=Lib.hid (idxN_c fid hf p l A ao cap w hT h)
 rw[hb]at HC
 clear hT hb h
 go_enter Tryz.func171,Tryz.ntmps171
 go_wp2_with (first
  | (go_at_call 243;(with_reducible refine HC.out.mono ?_);rintro e w1 ⟨⟨z,rfl,hz⟩,rfl⟩))
 all_goals
  go_ret
  exact⟨by rw[←hz];rfl,rfl⟩
theorem alQ_any (l:List (List UInt8)):l.any (fun s=>!nmQ s) = !alQ l:=by
 unfold alQ
 induction l with
 | nil=>rfl
 | cons x r ih=>rw[List.any_cons,List.all_cons,ih];cases nmQ x<;>simp
theorem con1_c (l:List (List UInt8)) (A:Nat→Prop) (ao:Option Addr) (cap:Nat) (b:Bool) (w:World) (hT:TxA A w ao cap l) (hw:Rsv w) (hb:alQ l=b) :
  Calls Tryz.prog 171 #[.slice ao l.length cap,.func (.func 172) #[] #[]] w fun e w'=>e = .returned (.bool (!b))∧w=w':=
 conN_c _ (fun _ _=>by kernel_rfl) (fun s=>!nmQ s) l A ao cap (!b) w hT (fun s hs=>npl1_c s _ w (hT.2.2.1 s hs) hw rfl) (by rw[alQ_any,hb])
theorem con2_c (l:List (List UInt8)) (A:Nat→Prop) (ao:Option Addr) (cap:Nat) (b:Bool) (w:World) (hT:TxA A w ao cap l) (hw:Rsv w) (hb:alQ l=b) :
  Calls Tryz.prog 171 #[.slice ao l.length cap,.func (.func 173) #[] #[]] w fun e w'=>e = .returned (.bool (!b))∧w=w':=
 conN_c _ (fun _ _=>by kernel_rfl) (fun s=>!nmQ s) l A ao cap (!b) w hT (fun s hs=>npl2_c s _ w (hT.2.2.1 s hs) hw rfl) (by rw[alQ_any,hb])
end Go.Proofs.YtlmeinikknoeeaaGreatDoor
namespace Go.Proofs.YtlmeinikknoeeaaGreatDoor
set_option linter.unusedVariables false
set_option linter.unnecessarySimpa false
set_option linter.unusedSimpArgs false
open Go.RowKit
theorem wpl_elemT {P:Program} {ops:Array Oper} {rest:List Oper} {o1 o2 o3:Oper} {a:Act} {w:World} {Q:Exit→Act→World→Prop} (g1:o1.guard=none) (g2:o2.guard=none) (g3:o3.guard=none)
  (ty:TypeId) (x y z:Operand) (h1:o1.op = .load ty x) (h2:o2.op = .alloc ty) (h3:o3.op = .store ty y z) (b o:Nat) (hx:a.eval x = .pointer (some ⟨b,o,none⟩)) (cs zs:List Value) (d:TypeDesc) (hc:w.rangeAt b o cs)
  (hu:P.underlying ty=some d) (hd:d.isRow=true) (hi:(P.info? ty).map (·.size)=some cs.length) (hone:cs.all (·.oneCell')=true) (hz:zs.length=cs.length)
  (hal:∀(w:World),(Instr.alloc ty true (.tuple #[])).run P w = .ok (.pointer (some ⟨w.heap.size,0,none⟩)) (w.alloc (.cells zs.toArray ty)))
  (hy:((a.put o1.dst (.agg cs.toArray)).put o2.dst (.pointer (some ⟨w.heap.size,0,none⟩))).eval y = .pointer (some ⟨w.heap.size,0,none⟩))
  (hzv:((a.put o1.dst (.agg cs.toArray)).put o2.dst (.pointer (some ⟨w.heap.size,0,none⟩))).eval z = .agg cs.toArray)
  (h:∀W,Ext w W→BxT w.heap.size cs W→wpList P ops Q rest (((a.put o1.dst (.agg cs.toArray)).put o2.dst (.pointer (some ⟨w.heap.size,0,none⟩))).put o3.dst undef) W):wpList P ops Q (o1::o2::o3::rest) a w:=by
 refine wpList_load_mid g1 ty x h1 b o hx cs d hc hu hd hi ?_
 refine wpList_plain g2 fun K hK=>?_
 unfold Oper.wp execOp
 simp only[h2,Sem.run_bind,Sem.run_pure,Result.andThen_ok,hal]
 refine hK _ _ ?_
 have hsz:(w.alloc (.cells zs.toArray ty)).heap.size=w.heap.size+1:=by simp
 have hth:(w.alloc (.cells zs.toArray ty)).there w.heap.size 0 cs.length:=zthr_new w _ _ _ (by simp[hz])
 refine wpList_store_mid g3 ty y z h3 w.heap.size 0 cs.toArray hy hzv (by simpa using hth) (by simpa using hi) (by rw[List.all_toArray];exact hone) ?_
 have hfz:=zfrm_sets (S:=fun k=>k=w.heap.size) (w.alloc (.cells zs.toArray ty)) w.heap.size cs 0 rfl
 refine h _ ?_ ⟨?_,?_,World.there_setCells hth w.heap.size 0 cs⟩
 ·exact hfz.far ((Ext.refl w).alloc _) (fun k hk e=>by omega)
 ·exact hfz.lt (by omega)
 ·exact World.rangeAt_setCells_same _ _ _ _ hth
theorem st_slS (D o:Nat) (w:World) (h1:(w.cell? ⟨D,o,none⟩).isSome=true) (h2:w.frozen? ⟨D,o,none⟩=false):(Instr.storeAt 22 (.pointer (some ⟨D,o,none⟩)) (.slice none 0 0)).run Tryz.prog w = .ok () (w.setCell ⟨D,o,none⟩ (.slice none 0 0)):=by
 obtain⟨u,hu⟩:=Option.isSome_iff_exists.1 h1
 simp[go_sem,hu,h2]
theorem st_slQ (D o:Nat) (w:World) (h1:(w.cell? ⟨D,o,none⟩).isSome=true) (h2:w.frozen? ⟨D,o,none⟩=false):(Instr.storeAt 30 (.pointer (some ⟨D,o,none⟩)) (.slice none 0 0)).run Tryz.prog w = .ok () (w.setCell ⟨D,o,none⟩ (.slice none 0 0)):=by
 obtain⟨u,hu⟩:=Option.isSome_iff_exists.1 h1
 simp[go_sem,hu,h2]
theorem bxt_sub {b:Nat} {us vs es:List Value} {w:World} (h:BxT b (us++vs++es) w) (o:Nat) (ho:us.length=o):w.rangeAt b o vs:=fun j v hv=>by
 subst ho
 have hj:=(List.getElem?_eq_some_iff.1 hv).1
 have:=h.rd (us.length+j) v (by rw[List.append_assoc,List.getElem?_append_right (by omega),List.getElem?_append_left (by omega),Nat.add_sub_cancel_left];exact hv)
 rwa [Nat.zero_add]at this
section
variable {k:Int} {tb:List UInt8} {cols:List (List UInt8)} {ca:Option Addr} {cc:Nat} {nms:List (List UInt8)} {na:Option Addr} {nc:Nat} {ck:Int} {ccol coth:List UInt8} {cvk cvn:Int} {cvs:List UInt8} {cca:Option Addr} {ccap:Nat} {cl:List Cnd} {rel fn f t:Int} {ao:Option Addr} {cap:Nat} {l:List Qry} {w:World} {A:Nat→Prop}
theorem pl_h0 (hI:InQ A w (.mk ⟨k,tb,cols,ca,cc,nms,na,nc,(.mk ⟨⟨ck,ccol,coth,cvk,cvn,cvs⟩,cca,ccap⟩ cl),rel,fn,f,t,ao,cap⟩ l:Qry)) (hw:Rsv w):Hid (TxA A w ca cc cols)∧Hid (TxA A w na nc nms)∧Hid (InC A w (.mk ⟨⟨ck,ccol,coth,cvk,cvn,cvs⟩,cca,ccap⟩ cl))∧Hid (tb.length≤9223372036854775806)∧Hid (Rsv w)∧Hid (BxT w.heap.size (qnS.vals (.mk ⟨k,tb,cols,ca,cc,nms,na,nc,(.mk ⟨⟨ck,ccol,coth,cvk,cvn,cvs⟩,cca,ccap⟩ cl),rel,fn,f,t,ao,cap⟩ l:Qry)) (w.alloc (.cells (qnS.vals (.mk ⟨k,tb,cols,ca,cc,nms,na,nc,(.mk ⟨⟨ck,ccol,coth,cvk,cvn,cvs⟩,cca,ccap⟩ cl),rel,fn,f,t,ao,cap⟩ l:Qry)).toArray 32))):=by
 obtain⟨hT1,hT2,hIC,hTB,-⟩:=hI.parts.1
 exact⟨hT1,hT2,hIC,hTB,hw,BxT.new w _ _⟩
theorem pl_h3 {W1 W2 W3:World} (hB:Hid (BxT w.heap.size (qnS.vals (.mk ⟨k,tb,cols,ca,cc,nms,na,nc,(.mk ⟨⟨ck,ccol,coth,cvk,cvn,cvs⟩,cca,ccap⟩ cl),rel,fn,f,t,ao,cap⟩ l:Qry)) (w.alloc (.cells (qnS.vals (.mk ⟨k,tb,cols,ca,cc,nms,na,nc,(.mk ⟨⟨ck,ccol,coth,cvk,cvn,cvs⟩,cca,ccap⟩ cl),rel,fn,f,t,ao,cap⟩ l:Qry)).toArray 32)))) (hE1:Ext (w.alloc (.cells (qnS.vals (.mk ⟨k,tb,cols,ca,cc,nms,na,nc,(.mk ⟨⟨ck,ccol,coth,cvk,cvn,cvs⟩,cca,ccap⟩ cl),rel,fn,f,t,ao,cap⟩ l:Qry)).toArray 32)) W1) (hF2:Frm (fun k=>k=w.heap.size+1) W1 W2) (hF3:Frm (fun k=>k=w.heap.size+1) W2 W3)
  (hR3:BxT (w.heap.size+1) (((qnS.vals (.mk ⟨k,tb,cols,ca,cc,nms,na,nc,(.mk ⟨⟨ck,ccol,coth,cvk,cvn,cvs⟩,cca,ccap⟩ cl),rel,fn,f,t,ao,cap⟩ l:Qry)).set 0 (.int .i64 0)).set 15 (.slice none 0 0)) W3):w.heap.size<W3.heap.size∧w.heap.size+1<W3.heap.size∧Hid (BxT w.heap.size (qnS.vals (.mk ⟨k,tb,cols,ca,cc,nms,na,nc,(.mk ⟨⟨ck,ccol,coth,cvk,cvn,cvs⟩,cca,ccap⟩ cl),rel,fn,f,t,ao,cap⟩ l:Qry)) W3)∧Hid (BxT (w.heap.size+1) (qcel 0 tb ca cols.length cc na nms.length nc ck ccol coth cvk cvn cvs cca cl.length ccap rel fn f t none 0 0) W3)∧Hid (Ext w W3)∧W3.cell? ⟨w.heap.size,0,none⟩=some (.int .i64 k)∧W3.cell? ⟨w.heap.size,1,none⟩=some (.string ⟨tb.toArray⟩)∧W3.cell? ⟨w.heap.size,2,none⟩=some (.slice ca cols.length cc)∧W3.cell? ⟨w.heap.size,3,none⟩=some (.slice na nms.length nc)∧W3.cell? ⟨w.heap.size,11,none⟩=some (.int .i64 rel)∧W3.cell? ⟨w.heap.size,12,none⟩=some (.int .i64 fn)∧W3.cell? ⟨w.heap.size,13,none⟩=some (.int .i64 f)∧W3.cell? ⟨w.heap.size,14,none⟩=some (.int .i64 t)∧W3.cell? ⟨w.heap.size,15,none⟩=some (.slice ao l.length cap):=by
 have hE0:Ext w (w.alloc (.cells (qnS.vals (.mk ⟨k,tb,cols,ca,cc,nms,na,nc,(.mk ⟨⟨ck,ccol,coth,cvk,cvn,cvs⟩,cca,ccap⟩ cl),rel,fn,f,t,ao,cap⟩ l:Qry)).toArray 32)):=(Ext.refl w).alloc _
 have hB3:=((hB.out.ext hE1).frm hF2 (by omega)).frm hF3 (by omega)
 exact⟨hB3.hD,hR3.hD,hB3,hR3,ext_frm (((Frm.of_ext (hE0.trans hE1)).step hF2 (fun k h1 h2=>by omega)).step hF3 (fun k h1 h2=>by omega)),hB3.at 0 _ rfl,hB3.at 1 _ rfl,hB3.at 2 _ rfl,hB3.at 3 _ rfl,hB3.at 11 _ rfl,hB3.at 12 _ rfl,hB3.at 13 _ rfl,hB3.at 14 _ rfl,hB3.at 15 _ rfl⟩
theorem pl_hs {Wa Wb:World} {vs us:List Value} {n:Nat} (hB:Hid (BxT w.heap.size vs Wa)) (hE:Ext w Wa) (hF:Frm (fun k=>k=w.heap.size+1) Wa Wb) (hR:BxT (w.heap.size+1) us Wb) (h15:vs[15]? = some (.slice ao n cap)) :
  Hid (BxT w.heap.size vs Wb)∧Hid (BxT (w.heap.size+1) us Wb)∧Hid (Ext w Wb)∧Wb.cell? ⟨w.heap.size,15,none⟩=some (.slice ao n cap):=by
 have hB1:=hB.out.frm hF (by omega)
 exact⟨hB1,hR,ext_frm ((Frm.of_ext hE).step hF (fun k h1 h2=>by omega)),hB1.at 15 _ h15⟩
end
section
variable {k:Int} {tb:List UInt8} {a1:Option Addr} {n1 c1:Nat} {a2:Option Addr} {n2 c2:Nat} {k4:Int} {s5 s6:List UInt8} {i7 i8:Int} {s9:List UInt8} {a10:Option Addr} {n10 c10:Nat} {rel fn f t:Int} {a15:Option Addr} {n15 c15:Nat} {D:Nat} {W:World}
theorem bq1 (h:BxT D ((qcel k tb a1 n1 c1 a2 n2 c2 k4 s5 s6 i7 i8 s9 a10 n10 c10 rel fn f t a15 n15 c15).set 1 (.string ⟨#[]⟩)) W):BxT D (qcel k [] a1 n1 c1 a2 n2 c2 k4 s5 s6 i7 i8 s9 a10 n10 c10 rel fn f t a15 n15 c15) W:=h
theorem bq2 (h:BxT D ((qcel k tb a1 n1 c1 a2 n2 c2 k4 s5 s6 i7 i8 s9 a10 n10 c10 rel fn f t a15 n15 c15).set 2 (.slice none 0 0)) W):BxT D (qcel k tb none 0 0 a2 n2 c2 k4 s5 s6 i7 i8 s9 a10 n10 c10 rel fn f t a15 n15 c15) W:=h
theorem bq3 (h:BxT D ((qcel k tb a1 n1 c1 a2 n2 c2 k4 s5 s6 i7 i8 s9 a10 n10 c10 rel fn f t a15 n15 c15).set 3 (.slice none 0 0)) W):BxT D (qcel k tb a1 n1 c1 none 0 0 k4 s5 s6 i7 i8 s9 a10 n10 c10 rel fn f t a15 n15 c15) W:=h
theorem bq11 (h:BxT D ((qcel k tb a1 n1 c1 a2 n2 c2 k4 s5 s6 i7 i8 s9 a10 n10 c10 rel fn f t a15 n15 c15).set 11 (.int .i64 0)) W):BxT D (qcel k tb a1 n1 c1 a2 n2 c2 k4 s5 s6 i7 i8 s9 a10 n10 c10 0 fn f t a15 n15 c15) W:=h
theorem bq12 (h:BxT D ((qcel k tb a1 n1 c1 a2 n2 c2 k4 s5 s6 i7 i8 s9 a10 n10 c10 rel fn f t a15 n15 c15).set 12 (.int .i64 0)) W):BxT D (qcel k tb a1 n1 c1 a2 n2 c2 k4 s5 s6 i7 i8 s9 a10 n10 c10 rel 0 f t a15 n15 c15) W:=h
theorem bq4 (h:BxT D ([.int .i64 k,.string ⟨tb.toArray⟩,.slice a1 n1 c1,.slice a2 n2 c2]++zeroC ++ [.int .i64 rel,.int .i64 fn,.int .i64 f,.int .i64 t,.slice a15 n15 c15]) W):BxT D (qcel k tb a1 n1 c1 a2 n2 c2 0 [] [] 0 0 [] none 0 0 rel fn f t a15 n15 c15) W:=h
theorem bq13 (h:BxT D ([.int .i64 k,.string ⟨tb.toArray⟩,.slice a1 n1 c1,.slice a2 n2 c2,.int .i64 k4,.string ⟨s5.toArray⟩,.string ⟨s6.toArray⟩,.int .i64 i7,.int .i64 i8,.string ⟨s9.toArray⟩,.slice a10 n10 c10,.int .i64 rel,.int .i64 fn] ++ [.int .i64 0,.int .i64 0] ++ [.slice a15 n15 c15]) W):BxT D (qcel k tb a1 n1 c1 a2 n2 c2 k4 s5 s6 i7 i8 s9 a10 n10 c10 rel fn 0 0 a15 n15 c15) W:=h
end
theorem k0_f {k:Int} (hk:¬(1≤k∧k≤10)):(k==1)=false∧(k==2)=false∧(k==3)=false∧(k==4)=false∧(k==5)=false∧(k==6)=false∧(k==7)=false∧(k==8)=false∧(k==9)=false∧(k==10)=false:=by
 refine⟨?_,?_,?_,?_,?_,?_,?_,?_,?_,?_⟩<;>rw[beq_eq_false_iff_ne]<;>omega
section
variable {k:Int} {tb:List UInt8} {cols:List (List UInt8)} {ca:Option Addr} {cc:Nat} {nms:List (List UInt8)} {na:Option Addr} {nc:Nat} {ck:Int} {ccol coth:List UInt8} {cvk cvn:Int} {cvs:List UInt8} {cca:Option Addr} {ccap:Nat} {cl:List Cnd} {rel fn f t:Int} {ao:Option Addr} {cap:Nat} {l:List Qry} {w:World} {A:Nat→Prop}
set_option maxRecDepth 100000 in
set_option maxHeartbeats 40000000 in
theorem pl_A {r:Bool} (hI:InQ A w (.mk ⟨k,tb,cols,ca,cc,nms,na,nc,(.mk ⟨⟨ck,ccol,coth,cvk,cvn,cvs⟩,cca,ccap⟩ cl),rel,fn,f,t,ao,cap⟩ l:Qry)) (hw:Rsv w) (hc:(k=1∧nmQ tb=false∧r=false)∨(k=1∧nmQ tb=true∧((l.length:Int)==0)=false∧r=false)∨(k=1∧nmQ tb=true∧((l.length:Int)==0)=true∧r=emB [] cols.length nms.length ck ccol coth cvk cvn cvs cl.length rel fn f t)∨(k=2∧cdQ (mapT CdA.d (.mk ⟨⟨ck,ccol,coth,cvk,cvn,cvs⟩,cca,ccap⟩ cl))=false∧r=false)∨(k=2∧cdQ (mapT CdA.d (.mk ⟨⟨ck,ccol,coth,cvk,cvn,cvs⟩,cca,ccap⟩ cl))=true∧((l.length:Int)==1)=false∧r=false)∨(k=2∧cdQ (mapT CdA.d (.mk ⟨⟨ck,ccol,coth,cvk,cvn,cvs⟩,cca,ccap⟩ cl))=true∧((l.length:Int)==1)=true∧r=emB tb cols.length nms.length 0 [] [] 0 0 [] 0 rel fn f t)∨(k=3∧cols = []∧r=false)∨(k=3∧(0:Int)<(cols.length:Int)∧nmsQ cols=false∧r=false)∨(k=3∧(0:Int)<(cols.length:Int)∧nmsQ cols=true∧((l.length:Int)==1)=false∧r=false)∨(k=3∧(0:Int)<(cols.length:Int)∧nmsQ cols=true∧((l.length:Int)==1)=true∧r=emB tb 0 nms.length ck ccol coth cvk cvn cvs cl.length rel fn f t)∨(k=5∧((l.length:Int)==2)=false∧r=false)∨(k=5∧((l.length:Int)==2)=true∧r=emB tb cols.length nms.length ck ccol coth cvk cvn cvs cl.length rel fn f t)∨(k=6∧((l.length:Int)==2)=false∧r=false)∨(k=6∧((l.length:Int)==2)=true∧r=emB tb cols.length nms.length ck ccol coth cvk cvn cvs cl.length rel fn f t)∨(k=7∧((l.length:Int)==2)=false∧r=false)∨(k=7∧((l.length:Int)==2)=true∧r=emB tb cols.length nms.length ck ccol coth cvk cvn cvs cl.length rel fn f t)∨(k=10∧decide ((1:Int)≤rel)=false∧r=false)∨(k=10∧decide ((1:Int)≤rel)=true∧decide (rel≤(8191:Int))=false∧r=false)∨(k=10∧decide ((1:Int)≤rel)=true∧decide (rel≤(8191:Int))=true∧((l.length:Int)==2)=false∧r=false)∨(k=10∧decide ((1:Int)≤rel)=true∧decide (rel≤(8191:Int))=true∧((l.length:Int)==2)=true∧r=emB tb cols.length nms.length ck ccol coth cvk cvn cvs cl.length 0 fn f t)∨(¬(1≤k∧k≤10)∧r=false)) :
  Calls Tryz.prog 97 #[.agg (qnS.vals (.mk ⟨k,tb,cols,ca,cc,nms,na,nc,(.mk ⟨⟨ck,ccol,coth,cvk,cvn,cvs⟩,cca,ccap⟩ cl),rel,fn,f,t,ao,cap⟩ l:Qry)).toArray] w fun e w'=>e = .returned (.bool r)∧Ext w w':=by
 rcases hc with⟨rfl,hv,rfl⟩|⟨rfl,hv,hl,rfl⟩|⟨rfl,hv,hl,rfl⟩|⟨rfl,hv,rfl⟩|⟨rfl,hv,hl,rfl⟩|⟨rfl,hv,hl,rfl⟩|⟨rfl,rfl,rfl⟩|⟨rfl,hc,hv,rfl⟩|⟨rfl,hc,hv,hl,rfl⟩|⟨rfl,hc,hv,hl,rfl⟩|⟨rfl,hl,rfl⟩|⟨rfl,hl,rfl⟩|⟨rfl,hl,rfl⟩|⟨rfl,hl,rfl⟩|⟨rfl,hl,rfl⟩|⟨rfl,hl,rfl⟩|⟨rfl,h1,rfl⟩|⟨rfl,h1,h2,rfl⟩|⟨rfl,h1,h2,hl,rfl⟩|⟨rfl,h1,h2,hl,rfl⟩|⟨hk,rfl⟩
 all_goals
  obtain⟨HT1,HT2,HIC,HTB,HW,HB⟩:=pl_h0 hI hw
  clear hw hI
  try (have HV:=Lib.hid hv;clear hv)
  try (have HU:=Lib.hid hu;clear hu)
  try (obtain⟨k1,k2,k3,k4,k5,k6,k7,k8,k9,k10⟩:=k0_f hk;clear hk)
  go_enter Tryz.func97,Tryz.ntmps97
  go_wp2_with (first
   | ((with_reducible show wpList _ _ _ (⟨some 7,.load _ _,_,_,_,_⟩::_) _ _);refine wpl_elemT rfl rfl rfl 32 _ _ _ rfl rfl rfl w.heap.size 0 rfl _ zeroQ _ HB.out.rd Tryz.underlying32 rfl (info_q _) (vals_one_q _) rfl alloc_q rfl rfl ?_;intro W1 hE1 hR1;rw[World.size_alloc]at hR1)
   | ((with_reducible show wpList _ _ _ (⟨none,.store _ (.tmp 8) _,_,_,_,_⟩::_) _ _);refine wpl_st1 rfl 3 _ _ rfl (w.heap.size+1) 0 _ (.int .i64 0) rfl rfl hR1 (by show 0<16;decide) (fun w a b=>st_int _ _ _ w a b) ?_;intro W2 hF2 hR2)
   | ((with_reducible show wpList _ _ _ (⟨none,.store _ (.tmp 9) _,_,_,_,_⟩::_) _ _);refine wpl_st1 rfl 30 _ _ rfl (w.heap.size+1) 15 _ (.slice none 0 0) rfl rfl hR2 (by show 15<16;decide) (fun w a b=>st_slQ _ _ w a b) ?_;intro W3 hF3 hR3;obtain⟨hbx,hz3,HB,HR,HE,b0,b1,b2,b3,b11,b12,b13,b14,b15⟩:=pl_h3 HB hE1 hF2 hF3 hR3;clear hR1 hR2 hR3 hF2 hF3)
   | (go_at_call 169;(with_reducible refine(qname_c tb _ _ HTB.out (HW.out.ext HE.out) HV.out).mono ?_);rintro e w1 ⟨rfl,rfl⟩)
   | ((with_reducible show wpList _ _ _ (⟨none,.store _ (.tmp 17) _,_,_,_,_⟩::_) _ _);refine wpl_st1 rfl 9 _ _ rfl (w.heap.size+1) 1 _ (.string ⟨#[]⟩) rfl rfl HR.out (by show 1<16;decide) (fun w a b=>st_str _ _ _ w a b) ?_;intro W hF hR;obtain⟨HB,HR,HE,g⟩:=pl_hs (ao:=ao) (cap:=cap) (n:=l.length) HB HE.out hF (bq1 hR) rfl;clear hF hR)
   | ((with_reducible show wpList _ _ _ (⟨some 21,.load _ _,_,_,_,_⟩::_) _ _);refine wpl_load rfl 27 _ rfl w.heap.size 4 rfl (cdS.vals (.mk ⟨⟨ck,ccol,coth,cvk,cvn,cvs⟩,cca,ccap⟩ cl)) _ (bxt_sub (us:=[.int .i64 2,.string ⟨tb.toArray⟩,.slice ca cols.length cc,.slice na nms.length nc]) (es:=[.int .i64 rel,.int .i64 fn,.int .i64 f,.int .i64 t,.slice ao l.length cap]) HB.out 4 rfl) Tryz.underlying27 rfl (info_c _) ?_)
   | (go_at_call 62;(with_reducible refine(cond_t A (.mk ⟨⟨ck,ccol,coth,cvk,cvn,cvs⟩,cca,ccap⟩ cl) _ (InC.ext HIC.out HE.out) (HW.out.ext HE.out)).mono ?_);rw[HV.out];rintro e w1 ⟨rfl,hEc⟩;have HB:=Lib.hid (HB.out.ext hEc);have HR:=Lib.hid (HR.out.ext hEc);have HE:=Lib.hid (HE.out.trans hEc))
   | ((with_reducible show wpList _ _ _ (⟨none,.store _ (.tmp 24) _,_,_,_,_⟩::_) _ _);refine wpl_stn rfl 27 _ _ rfl (w.heap.size+1) 4 [.int .i64 0,.string ⟨tb.toArray⟩,.slice ca cols.length cc,.slice na nms.length nc] (ccel ck ccol coth cvk cvn cvs cca cl.length ccap) [.int .i64 rel,.int .i64 fn,.int .i64 f,.int .i64 t,.slice none 0 0] zeroC rfl rfl HR.out rfl rfl (by kernel_rfl) rfl ?_;intro W hF hR;obtain⟨HB,HR,HE,g⟩:=pl_hs (ao:=ao) (cap:=cap) (n:=l.length) HB HE.out hF (bq4 hR) rfl;clear hF hR)
   | (go_at_call 170;(with_reducible refine(qnames_c A cols ca cc _ _ (HT1.out.ext HE.out) (HW.out.ext HE.out) HV.out).mono ?_);rintro e w1 ⟨rfl,rfl⟩)
   | ((with_reducible show wpList _ _ _ (⟨none,.store _ (.tmp 36) _,_,_,_,_⟩::_) _ _);refine wpl_st1 rfl 22 _ _ rfl (w.heap.size+1) 2 _ (.slice none 0 0) rfl rfl HR.out (by show 2<16;decide) (fun w a b=>st_slS _ _ w a b) ?_;intro W hF hR;obtain⟨HB,HR,HE,g⟩:=pl_hs (ao:=ao) (cap:=cap) (n:=l.length) HB HE.out hF (bq2 hR) rfl;clear hF hR)
   | ((with_reducible show wpList _ _ _ (⟨none,.store _ (.tmp 136) _,_,_,_,_⟩::_) _ _);refine wpl_st1 rfl 3 _ _ rfl (w.heap.size+1) 11 _ (.int .i64 0) rfl rfl HR.out (by show 11<16;decide) (fun w a b=>st_int _ _ _ w a b) ?_;intro W hF hR;obtain⟨HB,HR,HE,g⟩:=pl_hs (ao:=ao) (cap:=cap) (n:=l.length) HB HE.out hF (bq11 hR) rfl;clear hF hR)
   | ((with_reducible show wpList _ _ _ (⟨some 146,.load _ _,_,_,_,_⟩::_) _ _);refine wpl_load rfl 32 _ rfl (w.heap.size+1) 0 rfl _ _ HR.out.rd Tryz.underlying32 rfl (by kernel_rfl) ?_)
   | (go_at_call 174;(with_reducible refine(empty_c ..).mono ?_);rintro e w9 ⟨rfl,hE9⟩))
  go_ret
  first|exact⟨rfl,HE.out.trans hE9⟩|exact⟨rfl,HE.out⟩
end
end Go.Proofs.YtlmeinikknoeeaaGreatDoor
namespace Go.Proofs.YtlmeinikknoeeaaGreatDoor
set_option linter.unusedVariables false
set_option linter.unnecessarySimpa false
set_option linter.unusedSimpArgs false
open Go.RowKit
section
variable {k:Int} {tb:List UInt8} {cols:List (List UInt8)} {ca:Option Addr} {cc:Nat} {nms:List (List UInt8)} {na:Option Addr} {nc:Nat} {ck:Int} {ccol coth:List UInt8} {cvk cvn:Int} {cvs:List UInt8} {cca:Option Addr} {ccap:Nat} {cl:List Cnd} {rel fn f t:Int} {ao:Option Addr} {cap:Nat} {l:List Qry} {w:World} {A:Nat→Prop}
set_option maxRecDepth 100000 in
set_option maxHeartbeats 40000000 in
theorem pl_B {r:Bool} (hI:InQ A w (.mk ⟨k,tb,cols,ca,cc,nms,na,nc,(.mk ⟨⟨ck,ccol,coth,cvk,cvn,cvs⟩,cca,ccap⟩ cl),rel,fn,f,t,ao,cap⟩ l:Qry)) (hw:Rsv w) (hc:(k=4∧cols = []∧r=false)∨(k=4∧(0:Int)<(cols.length:Int)∧nmsQ cols=false∧r=false)∨(k=4∧(0:Int)<(cols.length:Int)∧nmsQ cols=true∧((nms.length:Int)==(cols.length:Int))=false∧r=false)∨(k=4∧(0:Int)<(cols.length:Int)∧nmsQ cols=true∧((nms.length:Int)==(cols.length:Int))=true∧alQ nms=false∧r=false)∨(k=4∧(0:Int)<(cols.length:Int)∧nmsQ cols=true∧((nms.length:Int)==(cols.length:Int))=true∧alQ nms=true∧((l.length:Int)==1)=false∧r=false)∨(k=4∧(0:Int)<(cols.length:Int)∧nmsQ cols=true∧((nms.length:Int)==(cols.length:Int))=true∧alQ nms=true∧((l.length:Int)==1)=true∧r=emB tb 0 0 ck ccol coth cvk cvn cvs cl.length rel fn f t)∨(k=8∧decide ((-62135596800:Int)≤f)=false∧r=false)∨(k=8∧decide ((-62135596800:Int)≤f)=true∧decide (f<t)=false∧r=false)∨(k=8∧decide ((-62135596800:Int)≤f)=true∧decide (f<t)=true∧decide (t≤(253402300800:Int))=false∧r=false)∨(k=8∧decide ((-62135596800:Int)≤f)=true∧decide (f<t)=true∧decide (t≤(253402300800:Int))=true∧((l.length:Int)==1)=false∧r=false)∨(k=8∧decide ((-62135596800:Int)≤f)=true∧decide (f<t)=true∧decide (t≤(253402300800:Int))=true∧((l.length:Int)==1)=true∧r=emB tb cols.length nms.length ck ccol coth cvk cvn cvs cl.length rel fn 0 0)) :
  Calls Tryz.prog 97 #[.agg (qnS.vals (.mk ⟨k,tb,cols,ca,cc,nms,na,nc,(.mk ⟨⟨ck,ccol,coth,cvk,cvn,cvs⟩,cca,ccap⟩ cl),rel,fn,f,t,ao,cap⟩ l:Qry)).toArray] w fun e w'=>e = .returned (.bool r)∧Ext w w':=by
 rcases hc with⟨rfl,rfl,rfl⟩|⟨rfl,hc,hv,rfl⟩|⟨rfl,hc,hv,hn,rfl⟩|⟨rfl,hc,hv,hn,hu,rfl⟩|⟨rfl,hc,hv,hn,hu,hl,rfl⟩|⟨rfl,hc,hv,hn,hu,hl,rfl⟩|⟨rfl,h1,rfl⟩|⟨rfl,h1,h2,rfl⟩|⟨rfl,h1,h2,h3,rfl⟩|⟨rfl,h1,h2,h3,hl,rfl⟩|⟨rfl,h1,h2,h3,hl,rfl⟩
 all_goals
  obtain⟨HT1,HT2,HIC,HTB,HW,HB⟩:=pl_h0 hI hw
  clear hw hI
  try (have HV:=Lib.hid hv;clear hv)
  try (have HU:=Lib.hid hu;clear hu)
  go_enter Tryz.func97,Tryz.ntmps97
  go_wp2_with (first
   | ((with_reducible show wpList _ _ _ (⟨some 7,.load _ _,_,_,_,_⟩::_) _ _);refine wpl_elemT rfl rfl rfl 32 _ _ _ rfl rfl rfl w.heap.size 0 rfl _ zeroQ _ HB.out.rd Tryz.underlying32 rfl (info_q _) (vals_one_q _) rfl alloc_q rfl rfl ?_;intro W1 hE1 hR1;rw[World.size_alloc]at hR1)
   | ((with_reducible show wpList _ _ _ (⟨none,.store _ (.tmp 8) _,_,_,_,_⟩::_) _ _);refine wpl_st1 rfl 3 _ _ rfl (w.heap.size+1) 0 _ (.int .i64 0) rfl rfl hR1 (by show 0<16;decide) (fun w a b=>st_int _ _ _ w a b) ?_;intro W2 hF2 hR2)
   | ((with_reducible show wpList _ _ _ (⟨none,.store _ (.tmp 9) _,_,_,_,_⟩::_) _ _);refine wpl_st1 rfl 30 _ _ rfl (w.heap.size+1) 15 _ (.slice none 0 0) rfl rfl hR2 (by show 15<16;decide) (fun w a b=>st_slQ _ _ w a b) ?_;intro W3 hF3 hR3;obtain⟨hbx,hz3,HB,HR,HE,b0,b1,b2,b3,b11,b12,b13,b14,b15⟩:=pl_h3 HB hE1 hF2 hF3 hR3;clear hR1 hR2 hR3 hF2 hF3)
   | (go_at_call 170;(with_reducible refine(qnames_c A cols ca cc _ _ (HT1.out.ext HE.out) (HW.out.ext HE.out) HV.out).mono ?_);rintro e w1 ⟨rfl,rfl⟩)
   | (go_at_call 171;(with_reducible refine(con1_c nms A na nc _ _ (HT2.out.ext HE.out) (HW.out.ext HE.out) HU.out).mono ?_);rintro e w1 ⟨rfl,rfl⟩)
   | ((with_reducible show wpList _ _ _ (⟨none,.store _ (.tmp 63) _,_,_,_,_⟩::_) _ _);refine wpl_st1 rfl 22 _ _ rfl (w.heap.size+1) 2 _ (.slice none 0 0) rfl rfl HR.out (by show 2<16;decide) (fun w a b=>st_slS _ _ w a b) ?_;intro W hF hR;obtain⟨HB,HR,HE,g⟩:=pl_hs (ao:=ao) (cap:=cap) (n:=l.length) HB HE.out hF (bq2 hR) rfl;clear hF hR)
   | ((with_reducible show wpList _ _ _ (⟨none,.store _ (.tmp 64) _,_,_,_,_⟩::_) _ _);refine wpl_st1 rfl 22 _ _ rfl (w.heap.size+1) 3 _ (.slice none 0 0) rfl rfl HR.out (by show 3<16;decide) (fun w a b=>st_slS _ _ w a b) ?_;intro W hF hR;obtain⟨HB,HR,HE,g⟩:=pl_hs (ao:=ao) (cap:=cap) (n:=l.length) HB HE.out hF (bq3 hR) rfl;clear hF hR)
   | ((with_reducible show wpList _ _ _ (⟨none,.store _ (.tmp 91) _,_,_,_,_⟩::_) _ _);refine wpl_stn rfl 29 _ _ rfl (w.heap.size+1) 13 [.int .i64 0,.string ⟨tb.toArray⟩,.slice ca cols.length cc,.slice na nms.length nc,.int .i64 ck,.string ⟨ccol.toArray⟩,.string ⟨coth.toArray⟩,.int .i64 cvk,.int .i64 cvn,.string ⟨cvs.toArray⟩,.slice cca cl.length ccap,.int .i64 rel,.int .i64 fn] [.int .i64 f,.int .i64 t] [.slice none 0 0] [.int .i64 0,.int .i64 0] rfl rfl HR.out rfl rfl (by kernel_rfl) rfl ?_;intro W hF hR;obtain⟨HB,HR,HE,g⟩:=pl_hs (ao:=ao) (cap:=cap) (n:=l.length) HB HE.out hF (bq13 hR) rfl;clear hF hR)
   | ((with_reducible show wpList _ _ _ (⟨some 146,.load _ _,_,_,_,_⟩::_) _ _);refine wpl_load rfl 32 _ rfl (w.heap.size+1) 0 rfl _ _ HR.out.rd Tryz.underlying32 rfl (by kernel_rfl) ?_)
   | (go_at_call 174;(with_reducible refine(empty_c ..).mono ?_);rintro e w9 ⟨rfl,hE9⟩))
  go_ret
  first|exact⟨rfl,HE.out.trans hE9⟩|exact⟨rfl,HE.out⟩
end
end Go.Proofs.YtlmeinikknoeeaaGreatDoor
