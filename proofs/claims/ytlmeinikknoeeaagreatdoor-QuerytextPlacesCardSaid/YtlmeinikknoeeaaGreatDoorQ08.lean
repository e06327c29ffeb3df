/- Queries: a map from ints to ints of the call's own; the test of a condition's nodes, the parts. -/
import Derived.Test.YtlmeinikknoeeaaGreatDoorQ07
import Derived.Test.YtlmeinikknoeeaaGreatDoorQ00
import Derived.Test.YtlmeinikknoeeaaGreatDoorQ02
import Derived.Maps.OwnSet
import Derived.Lib.Join
import Derived.Lib.Split
namespace Go.Proofs.YtlmeinikknoeeaaGreatDoor
set_option linter.unusedVariables false
set_option linter.unnecessarySimpa false
set_option linter.unusedSimpArgs false
open Go.RowKit Go.Maps
def MiD (f:Int→Int) (D:DataW Unit):Prop:=∀n:Int,D.atKey (.int .i64 n) (.lit (.int .i64 0)) = .lit (.int .i64 (f n))
theorem ikeyO:Keyed Tryz.prog 3:=int_keyed Tryz.underlying3
theorem int_zeroO:plainElem (H:=Unit) Tryz.prog 3 (.int .i64 0)=some (.lit (.int .i64 0),[]):=plainElem_int Tryz.underlying3 (by decide)
def MiM (M n:Nat) (f:Int→Int) (w:World):Prop:=∃Dm:DataW Unit,w.ownsMap Tryz.prog 3 (plainElem Tryz.prog 3) M n Dm∧MiD f Dm
theorem MiM.made (w:World):MiM w.heap.size 0 (fun _=>0) (w.alloc (.map #[] 0)):=⟨.map [],World.ownsMap_made w _ _ _,fun nm=>rfl⟩
theorem ikey (k:Int) (hk:(Lit.int .i64 k).wf=true):keyOf Tryz.prog 3 (.int .i64 k)=some (.int .i64 k):=keyOf_int_mk Tryz.underlying3 hk
set_option maxRecDepth 100000 in
theorem MiM.look {M n:Nat} {f:Int→Int} {w:World} (h:MiM M n f w) (k:Int) (hk:(Lit.int .i64 k).wf=true) (v:Int) (hv:f k=v) :
  (Instr.lookup 250 (.map (some M)) (.int .i64 k) false).run Tryz.prog w = .ok (.int .i64 v) w:=by
 subst hv
 obtain⟨D,ho,hs⟩:=h
 obtain⟨u,ps,hrun,hu⟩:=ho.lookup (t:=250) (e:=3) ikeyO Tryz.underlying250 (z:=.int .i64 0) (by go_simp) int_zeroO (ikey k hk)
 rw[hs k]at hu
 have hvb:u = .int .i64 (f k):=by
  unfold plainElem at hu
  rw[Tryz.underlying3]at hu
  cases u<;>simp at hu
  rename_i k n
  rw[hu.1.1,hu.2.1]
 rw[hrun,hvb]
theorem MiD.put {f:Int→Int} {D:DataW Unit} {nm:Int} {v:Int} (h:MiD f D) (hD:IsMap D):MiD (fun x=>if x=nm then v else f x) (D.put (.int .i64 nm) (.lit (.int .i64 v))):=by
 intro x
 by_cases e:x=nm
 ·subst e
  rw[atKey_put_same hD (show WideAt.IsKeyLit (.int .i64 x)from trivial)];simp
 ·rw[atKey_put_other (by intro q;injection q with _ q;exact e q),h x];simp[e]
theorem wpl_insI {ops:Array Oper} {rest:List Oper} {o:Oper} {a:Act} {w:World} {Q:Exit→Act→World→Prop} (hg:o.guard=none) (m x v:Operand) (hop:o.op=Op.insert 250 m x v) (M n:Nat) (f:Int→Int) (nm:Int) (c:Int)
  (hm:a.eval m = .map (some M)) (hx:a.eval x = .int .i64 nm) (hv:a.eval v = .int .i64 c) (hS:MiM M n f w) (hn:n≤100000) (hl:(Lit.int .i64 nm).wf=true) (hc:(Lit.int .i64 c).wf=true)
  (hK:∀w',MiM M (n+1) (fun x=>if x=nm then c else f x) w'→Frm (fun b=>b=M) w w'→wpList Tryz.prog ops Q rest (a.put o.dst undef) w'):wpList Tryz.prog ops Q (o::rest) a w:=by
 obtain⟨D,ho,hs⟩:=hS
 have hk:=ikey nm hl
 refine wpList_insert_own w hg m x v 250 hop 3 3 ikeyO Tryz.underlying250 (plainElem Tryz.prog 3) M n D hm ho (by unfold maxLen;omega) _ _ (.int .i64 nm) hx hv hk (.lit (.int .i64 c)) [] (plainElem_int Tryz.underlying3 hc) ?_
 intro w' ho' hg'
 refine hK w' ⟨_,ho',hs.put ho.isMap⟩ ⟨hg'.os,hg'.tape,hg'.output,hg'.size,fun i hi hn=>hg'.block i hi (by intro e;injection e with e;exact hn e)⟩
def FmV (N:Nat) (w:World) (r:Option Nat) (e:Ending) (w':World):Prop:=
 Frm (fun k=>k=N) w w'∧match r with
  | none=>e = .returned (.bool false)
  | some m=>e = .returned (.bool true)∧BxT N [.int .i64 (m:Int)] w'
end Go.Proofs.YtlmeinikknoeeaaGreatDoor
namespace Go.Proofs.YtlmeinikknoeeaaGreatDoor
set_option linter.unusedVariables false
set_option linter.unnecessarySimpa false
set_option linter.unusedSimpArgs false
open Go.RowKit
theorem fo_start (a:CdA) (l:List Cnd) (N n:Nat) (w:World) (hN:BxT N [.int .i64 (n:Int)] w) :
  BxT N [.int .i64 (n:Int)] (w.alloc (.cells (cdS.vals (.mk a l)).toArray 27))∧BxT w.heap.size (cdS.vals (.mk a l)) (w.alloc (.cells (cdS.vals (.mk a l)).toArray 27))∧
  BxT N [.int .i64 ((n+1:Nat):Int)] ((w.alloc (.cells (cdS.vals (.mk a l)).toArray 27)).setCell ⟨N,0,none⟩ (.int .i64 ((n:Int)+1)))∧BxT w.heap.size (cdS.vals (.mk a l)) ((w.alloc (.cells (cdS.vals (.mk a l)).toArray 27)).setCell ⟨N,0,none⟩ (.int .i64 ((n:Int)+1)))∧
  Frm (fun k=>k=N) w ((w.alloc (.cells (cdS.vals (.mk a l)).toArray 27)).setCell ⟨N,0,none⟩ (.int .i64 ((n:Int)+1))):=by
 have hE0:Ext w (w.alloc (.cells (cdS.vals (.mk a l)).toArray 27)):=(Ext.refl w).alloc _
 have h1:=hN.ext hE0
 have h2:=BxT.new w (cdS.vals (.mk a l)) 27
 have hF:Frm (fun k=>k=N) (w.alloc (.cells (cdS.vals (.mk a l)).toArray 27)) ((w.alloc (.cells (cdS.vals (.mk a l)).toArray 27)).setCell ⟨N,0,none⟩ (.int .i64 ((n:Int)+1))):=(Frm.refl (fun k=>k=N) _).setCell (p:=⟨N,0,none⟩) (.inl rfl) _
 refine⟨h1,h2,?_,h2.frm hF (by have:=hN.hD;omega),(Frm.of_ext hE0).trans hF⟩
 have e:(((n+1:Nat):Nat):Int)=(n:Int)+1:=by omega
 rw[e]
 exact h1.set 0 _ (by simp)
abbrev foW (a:CdA) (l:List Cnd) (N:Nat) (n:Int) (w:World):World:=((w.alloc (.cells (cdS.vals (.mk a l)).toArray 27)).setCell ⟨N,0,none⟩ (.int .i64 (n+1))).alloc (.cells #[.int .i64 0,.int .i64 0,.string ⟨#[]⟩] 24)
theorem fo_mid (a:CdA) (l:List Cnd) (N n:Nat) (w:World) (hN:BxT N [.int .i64 (n:Int)] w) :
  BxT w.heap.size (cdS.vals (.mk a l)) (foW a l N n w)∧BxT (w.heap.size+1) [.int .i64 0,.int .i64 0,.string ⟨#[]⟩] (foW a l N n w)∧BxT N [.int .i64 ((n+1:Nat):Int)] (foW a l N n w)∧Frm (fun k=>k=N) w (foW a l N n w)∧N<w.heap.size:=by
 obtain⟨h1,h2,h3,h4,hF⟩:=fo_start a l N n w hN
 have hE:=fun X:World=>(Ext.refl X).alloc (.cells #[.int .i64 0,.int .i64 0,.string ⟨#[]⟩] 24)
 refine⟨h4.ext (hE _),?_,h3.ext (hE _),hF.trans (Frm.of_ext (hE _)),hN.hD⟩
 have h:=BxT.new ((w.alloc (.cells (cdS.vals (.mk a l)).toArray 27)).setCell ⟨N,0,none⟩ (.int .i64 ((n:Int)+1))) [.int .i64 0,.int .i64 0,.string ⟨#[]⟩] 24
 rwa [World.size_setCell,World.size_alloc]at h
set_option maxRecDepth 100000 in
set_option maxHeartbeats 1000000 in
theorem vform_big {a:CdA} {l:List Cnd} (d n N:Nat) (w:World) (hn:n≤1000) (hd:d≤1000) (hN:BxT N [.int .i64 (n:Int)] w) (h:60<n+1∨12<d) :
  Calls Tryz.prog 164 #[.agg (cdS.vals (.mk a l)).toArray,.int .i64 (d:Int),.pointer (some ⟨N,0,none⟩)] w (FmV N w none):=by
 obtain⟨h1,h2,h3,h4,hF⟩:=fo_start a l N n w hN
 have n0:=h1.at 0 _ rfl
 have nf:=h1.fz 0 (by simp)
 have nl:=h1.hD
 have n1:=h3.at 0 _ rfl
 have HF:=Lib.hid hF
 clear h1 h2 h3 h4 hN hF
 by_cases q:60<n+1
 ·have e1:decide ((60:Int)<(n:Int)+1)=true:=by rw[decide_eq_true_eq];omega
  clear q h
  go_enter Tryz.func164,Tryz.ntmps164
  go_wp2_with fail
  go_ret
  exact⟨HF.out,rfl⟩
 ·have e1:decide ((60:Int)<(n:Int)+1)=false:=by rw[decide_eq_false_iff_not];omega
  have e2:decide ((12:Int)<(d:Int))=true:=by rw[decide_eq_true_eq];omega
  clear q h
  go_enter Tryz.func164,Tryz.ntmps164
  go_wp2_with fail
  go_ret
  exact⟨HF.out,rfl⟩
end Go.Proofs.YtlmeinikknoeeaaGreatDoor
namespace Go.Proofs.YtlmeinikknoeeaaGreatDoor
set_option linter.unusedVariables false
set_option linter.unnecessarySimpa false
set_option linter.unusedSimpArgs false
open Go.RowKit
structure RecD where
 fr:Int
 iv:Int
 ct:Int
 un:Int
 mo:List Int
 md:List Int
 yd:List Int
 wk:List Int
 da:List (Int×Int)
 ho:List Int
 mi:List Int
 se:List Int
 po:List Int
 ws:Int
def RecD.zero:RecD:=⟨0,0,0,0,[],[],[],[],[],[],[],[],[],0⟩
inductive RPr where
 | er (e:Nat)
 | ok (R:RecD)
end Go.Proofs.YtlmeinikknoeeaaGreatDoor
namespace Go.Proofs.YtlmeinikknoeeaaGreatDoor
set_option linter.unusedVariables false
set_option linter.unnecessarySimpa false
set_option linter.unusedSimpArgs false
open Go.RowKit
def decZ (n:Int):List UInt8:=if n<0 then 45::itx n.natAbs 1 else itx n.natAbs 1
def Cl (c:UInt8) (l:List UInt8):Prop:=∀x∈l,x≠c
def dayOk (o:Int×Int):Prop:=1≤o.2∧o.2≤7∧-999999999≤o.1∧o.1≤999999999
end Go.Proofs.YtlmeinikknoeeaaGreatDoor
namespace Go.Proofs.YtlmeinikknoeeaaGreatDoor
set_option linter.unusedVariables false
set_option linter.unnecessarySimpa false
set_option linter.unusedSimpArgs false
open Go.RowKit
def RecD.start:RecD:={RecD.zero with iv:=1,ws:=1}
structure RdOk (untZ:List UInt8→Option Int) (momT:Int→List UInt8) (R:RecD):Prop where
 fr:1≤R.fr∧R.fr≤5
 iv : -999999999≤R.iv∧R.iv≤999999999
 ct : -999999999≤R.ct∧R.ct≤999999999
 un:R.un≠0→untZ (momT R.un)=some R.un∧Cl 59 (momT R.un)
 ls:∀l,(l=R.mo∨l=R.md∨l=R.yd∨l=R.wk∨l=R.ho∨l=R.mi∨l=R.se∨l=R.po)→∀n∈l,-999999999≤n∧n≤999999999
 da:∀o∈R.da,dayOk o
 ws:1≤R.ws∧R.ws≤7
end Go.Proofs.YtlmeinikknoeeaaGreatDoor
namespace Go.Proofs.YtlmeinikknoeeaaGreatDoor
set_option linter.unusedVariables false
set_option linter.unnecessarySimpa false
set_option linter.unusedSimpArgs false
open Go.RowKit
section
variable {untZ:List UInt8→Option Int} {momT:Int→List UInt8} {R:RecD} (h:RdOk untZ momT R)
include h
end
end Go.Proofs.YtlmeinikknoeeaaGreatDoor
namespace Go.Proofs.YtlmeinikknoeeaaGreatDoor
set_option linter.unusedVariables false
set_option linter.unnecessarySimpa false
set_option linter.unusedSimpArgs false
open Go.RowKit
end Go.Proofs.YtlmeinikknoeeaaGreatDoor
namespace Go.Proofs.YtlmeinikknoeeaaGreatDoor
set_option linter.unusedVariables false
set_option linter.unnecessarySimpa false
set_option linter.unusedSimpArgs false
open Go.RowKit
section
variable {untZ:List UInt8→Option Int} {momT:Int→List UInt8} {R:RecD} (h:RdOk untZ momT R)
include h
end
end Go.Proofs.YtlmeinikknoeeaaGreatDoor
namespace Go.Proofs.YtlmeinikknoeeaaGreatDoor
set_option linter.unusedVariables false
set_option linter.unnecessarySimpa false
set_option linter.unusedSimpArgs false
open Go.RowKit
def locZ (l:Int):Bool:=decide (-62135596800≤l∧l<253402300800)
structure MomOk (untZ:List UInt8→Option Int) (momT:Int→List UInt8):Prop where
 rd:∀t,locZ t=true→untZ (momT t)=some t
 cl:∀t,locZ t=true→Cl 59 (momT t)
 len:∀t,locZ t=true→(momT t).length=19
end Go.Proofs.YtlmeinikknoeeaaGreatDoor
namespace Go.Proofs.YtlmeinikknoeeaaGreatDoor
def yrB (y:Int):Bool:=decide (1≤y∧y≤9999)
def lpB (y:Int):Bool:=decide (y%4=0∧(y%100≠0∨y%400=0))
def lp (y:Int):Int:=if lpB y then 1 else 0
def mlen (y m:Int):Int:=
 if 1≤y∧y≤9999∧1≤m∧m≤12 then(if m=2 then 28+lp y else if m=4∨m=6∨m=9∨m=11 then 30 else 31)else 0
def vldB (y m d:Int):Bool:=decide (1≤d∧d≤mlen y m)
def cum (y m:Int):Int:=
 if m≤1 then 0 else if m=2 then 31 else if m=3 then 59+lp y else if m=4 then 90+lp y else if m=5 then 120+lp y else if m=6 then 151+lp y
 else if m=7 then 181+lp y else if m=8 then 212+lp y else if m=9 then 243+lp y else if m=10 then 273+lp y else if m=11 then 304+lp y
 else if m=12 then 334+lp y else 365+lp y
def yd (y:Int):Int:= -719162+365*(y-1)+(y-1)/4-(y-1)/100+(y-1)/400
def dn (y m d:Int):Int:=yd y+cum y m+d-1
def cnt (y m d:Int):Int:=
 if m≤2 then 365*(y-1)+(y-1)/4-(y-1)/100+(y-1)/400+(153*(m+12-3)+2)/5+d-307 + -719162
 else 365*y+y/4-y/100+y/400+(153*(m-3)+2)/5+d-307 + -719162
theorem lp_01 (y:Int):0≤lp y∧lp y≤1:=by unfold lp;split<;>omega
theorem lp_eq (y:Int):lp y=y/4-(y-1)/4-(y/100-(y-1)/100)+(y/400-(y-1)/400):=by
 unfold lp lpB
 split<;>rename_i h<;>simp at h<;>omega
theorem m12 {m:Int} (h1:1≤m) (h2:m≤12):m=1∨m=2∨m=3∨m=4∨m=5∨m=6∨m=7∨m=8∨m=9∨m=10∨m=11∨m=12:=by omega
theorem cnt_eq (y m d:Int) (h1:1≤m) (h2:m≤12):cnt y m d=dn y m d:=by
 have h:=lp_eq y
 rcases m12 h1 h2 with rfl|rfl|rfl|rfl|rfl|rfl|rfl|rfl|rfl|rfl|rfl|rfl <;>
  simp[cnt,dn,yd,cum]<;>omega
theorem cum_succ (y m:Int) (hy:1≤y) (hy2:y≤9999) (h1:1≤m) (h2:m≤12):cum y (m+1)=cum y m+mlen y m:=by
 rcases m12 h1 h2 with rfl|rfl|rfl|rfl|rfl|rfl|rfl|rfl|rfl|rfl|rfl|rfl <;>
  simp[cum,mlen,hy,hy2]<;>omega
theorem cum13 (y:Int):cum y 13=365+lp y:=by simp[cum]
theorem cum1 (y:Int):cum y 1=0:=by simp[cum]
theorem yd_succ (y:Int):yd (y+1)=yd y+365+lp y:=by
 have h:=lp_eq y
 unfold yd
 rw[show y+1-1=y from by omega]
 omega
theorem yd_bd (y:Int) (h1:1≤y) (h2:y≤10000) : -719162≤yd y∧yd y≤2932897:=by unfold yd;omega
theorem mlen_bd (y m:Int):0≤mlen y m∧mlen y m≤31:=by
 have h:=lp_01 y
 unfold mlen
 split
 ·split
  ·omega
  ·split<;>omega
 ·omega
theorem mlen_zero (y m:Int) (h:¬(1≤y∧y≤9999∧1≤m∧m≤12)):mlen y m=0:=by unfold mlen;rw[if_neg h]
theorem cum_bd (y m:Int) (h1:1≤m) (h2:m≤13):0≤cum y m∧cum y m≤365+lp y:=by
 have h:=lp_01 y
 have:m=1∨m=2∨m=3∨m=4∨m=5∨m=6∨m=7∨m=8∨m=9∨m=10∨m=11∨m=12∨m=13:=by omega
 rcases this with rfl|rfl|rfl|rfl|rfl|rfl|rfl|rfl|rfl|rfl|rfl|rfl|rfl<;>simp[cum]<;>omega
theorem vld_iff {y m d:Int}:vldB y m d=true↔1≤d∧d≤mlen y m:=by unfold vldB;simp
theorem vld_parts {y m d:Int} (h:vldB y m d=true):1≤y∧y≤9999∧1≤m∧m≤12∧1≤d∧d≤31∧d≤mlen y m:=by
 have h:=vld_iff.1 h
 have h2:=mlen_bd y m
 by_cases c:1≤y∧y≤9999∧1≤m∧m≤12
 ·exact⟨c.1,c.2.1,c.2.2.1,c.2.2.2,h.1,by omega,h.2⟩
 ·rw[mlen_zero y m c]at h;omega
theorem cum_mono (y a b:Int) (h1:1≤a) (h2:a≤b) (h3:b≤13) (hy:1≤y) (hy2:y≤9999):cum y a≤cum y b:=by
 obtain⟨n,hn⟩:∃n:Nat,b=a+n:=⟨(b-a).toNat,by omega⟩
 subst hn
 induction n with
 | zero=>simp
 | succ n ih=>
   have:=ih (by omega) (by omega)
   have h:=cum_succ y (a+n) hy hy2 (by omega) (by omega)
   have:=mlen_bd y (a+n)
   rw[show a+((n+1:Nat):Int)=a+(n:Int)+1 from by omega,h]
   omega
theorem yd_mono (a b:Int) (h:a≤b):yd a≤yd b:=by
 obtain⟨n,hn⟩:∃n:Nat,b=a+n:=⟨(b-a).toNat,by omega⟩
 subst hn
 induction n with
 | zero=>simp
 | succ n ih=>
   have:=ih (by omega)
   have h:=yd_succ (a+n)
   have:=lp_01 (a+n)
   rw[show a+((n+1:Nat):Int)=a+(n:Int)+1 from by omega,h]
   omega
theorem dn_in {y m d:Int} (h:vldB y m d=true):yd y+cum y m≤dn y m d∧dn y m d<yd y+cum y (m+1)∧dn y m d<yd (y+1)∧yd y≤dn y m d:=by
 obtain⟨a,b,c,e,f,_,g⟩:=vld_parts h
 have h1:=cum_succ y m a b c e
 have h2:=cum_mono y (m+1) 13 (by omega) (by omega) (by omega) a b
 have h3:=cum_bd y m c (by omega)
 rw[cum13]at h2
 have h4:=yd_succ y
 unfold dn
 omega
theorem dn_bd {y m d:Int} (h:vldB y m d=true) : -719162≤dn y m d∧dn y m d<2932897:=by
 obtain⟨a,b,c,e,f,_,g⟩:=vld_parts h
 have h1:=dn_in h
 have h2:=yd_bd y a (by omega)
 have h3:=yd_bd (y+1) (by omega) (by omega)
 omega
theorem dn_inj {y m d y' m' d':Int} (h:vldB y m d=true) (h':vldB y' m' d'=true) (e:dn y m d=dn y' m' d'):y=y'∧m=m'∧d=d':=by
 obtain⟨a,b,c,f,g,_,i⟩:=vld_parts h
 obtain⟨a',b',c',f',g',_,i'⟩:=vld_parts h'
 have p:=dn_in h
 have p':=dn_in h'
 have ey:y=y':=by
  rcases Int.lt_trichotomy y y' with q|q|q
  ·have:=yd_mono (y+1) y' (by omega);omega
  ·exact q
  ·have:=yd_mono (y'+1) y (by omega);omega
 subst ey
 have em:m=m':=by
  rcases Int.lt_trichotomy m m' with q|q|q
  ·have:=cum_mono y (m+1) m' (by omega) (by omega) (by omega) a b;omega
  ·exact q
  ·have:=cum_mono y (m'+1) m (by omega) (by omega) (by omega) a b;omega
 subst em
 refine⟨rfl,rfl,?_⟩
 unfold dn at e
 omega
def IsDate (n y m d:Int):Prop:=vldB y m d=true∧dn y m d=n
theorem IsDate.inj {n y m d y' m' d':Int} (h:IsDate n y m d) (h':IsDate n y' m' d'):y=y'∧m=m'∧d=d':=
 dn_inj h.1 h'.1 (h.2.trans h'.2.symm)
theorem IsDate.of {n y m:Int} (hy:1≤y) (hy2:y≤9999) (hm:1≤m) (hm2:m≤12) (h1:yd y+cum y m≤n) (h2:n<yd y+cum y (m+1)) :
  IsDate n y m (n-(yd y+cum y m)+1):=by
 have:=cum_succ y m hy hy2 hm hm2
 refine⟨vld_iff.2 ⟨by omega,by omega⟩,by unfold dn;omega⟩
end Go.Proofs.YtlmeinikknoeeaaGreatDoor
namespace Go.Proofs.YtlmeinikknoeeaaGreatDoor
set_option maxHeartbeats 400000
open Go.RowKit
theorem Div_nn (a b:Int) (w:World) (hb:0<b) (hb2:b≤9223372036854775807) (ha:0≤a) (ha2:a≤9223372036854775807) :
  Calls Tryz.prog 295 #[.int .i64 a,.int .i64 b] w fun e w'=>e = .returned (.tuple #[.int .i64 (a/b),.int .i64 (a%b),.int .i64 0])∧∃n,w.drewN n=w':=by
 have h0:(b==0)=false:=by simp;omega
 have h1:(a == -9223372036854775808)=false:=by simp;omega
 have q1:=Int.emod_nonneg a (show b≠0 by omega)
 have h3:decide (b<0)=false:=by simp;omega
 have h4:decide (a%b<0)=false:=by simp;omega
 go_enter Tryz.func295,Tryz.ntmps295
 go_wp2
 go_quiet (fail)
 go_wp2
 all_goals
  go_ret3
  exact⟨ret_i3 (by rfl) (by first|rfl|omega) (by rfl),_,rfl⟩
theorem Div_neg (a b:Int) (w:World) (hb:0<b) (hb2:b≤9223372036854775807) (ha:0<a) (ha2:a≤9223372036854775808) :
  Calls Tryz.prog 295 #[.int .i64 (-a),.int .i64 b] w fun e w'=>e = .returned (.tuple #[.int .i64 (-a/b),.int .i64 (-a%b),.int .i64 0])∧∃n,w.drewN n=w':=by
 have h0:(b==0)=false:=by simp;omega
 have h1:(b == -1)=false:=by simp;omega
 have h3:decide (b<0)=false:=by simp;omega
 have q1:=Int.emod_nonneg a (show b≠0 by omega)
 have q2:=Int.emod_lt_of_pos a hb
 have q3:=Int.ediv_nonneg (a:=a) (b:=b) (by omega) (by omega)
 have q4:a/b≤9223372036854775808:=by have:=Int.ediv_le_self b (show 0≤a by omega);omega
 have hq:a.tdiv b=a/b:=Int.tdiv_eq_ediv_of_nonneg (by omega)
 have H1:=Lib.hid (neg_div a b hb)
 have H2:=Lib.hid (neg_mod a b hb)
 by_cases hm:a%b=0
 ·have h5:(-(a%b) != 0)=false:=by simp[hm]
  have Hm:=Lib.hid hm
  clear hm
  by_cases h1:(-a == -9223372036854775808)=true
  all_goals
   go_enter Tryz.func295,Tryz.ntmps295
   go_wp2
   go_quiet (fail)
   go_wp2
   go_ret3
   exact⟨ret_i3 (by rw[H1.out,if_pos Hm.out]) (by rw[H2.out,if_pos Hm.out,Hm.out];rfl) (by rfl),_,rfl⟩
 ·have h5:(-(a%b) != 0)=true:=by simp[hm]
  have h6:decide (0<a%b)=true:=by simp;omega
  have q5:2*(a/b)≤a:=div_half a b (by omega) (by omega)
  have Hm:=Lib.hid hm
  clear hm
  by_cases h1:(-a == -9223372036854775808)=true
  all_goals
   go_enter Tryz.func295,Tryz.ntmps295
   go_wp2
   go_quiet (fail)
   go_wp2
   go_ret3
   exact⟨ret_i3 (by rw[H1.out,if_neg Hm.out]) (by rw[H2.out,if_neg Hm.out];omega) (by rfl),_,rfl⟩
theorem Div_c (a b:Int) (w:World) (hb:0<b) (hb2:b≤9223372036854775807) (ha : -9223372036854775808≤a) (ha2:a≤9223372036854775807) :
  Calls Tryz.prog 295 #[.int .i64 a,.int .i64 b] w fun e w'=>e = .returned (.tuple #[.int .i64 (a/b),.int .i64 (a%b),.int .i64 0])∧∃n,w.drewN n=w':=by
 by_cases h:0≤a
 ·exact Div_nn a b w hb hb2 h ha2
 ·have e:a = -(-a):=by omega
  rw[e]
  exact Div_neg (-a) b w hb hb2 (by omega) (by omega)
theorem RDiv_nn (a b:Int) (w:World) (hb:0<b) (hb2:b≤9223372036854775807) (ha:0≤a) (ha2:a≤9223372036854775807) :
  Calls Tryz.prog 209 #[.int .i64 a,.int .i64 b] w fun e w'=>e = .returned (.tuple #[.int .i64 (a/b),.int .i64 (a%b),.int .i64 0])∧∃n,w.drewN n=w':=by
 have h0:(b==0)=false:=by simp;omega
 have h1:(a == -9223372036854775808)=false:=by simp;omega
 have q1:=Int.emod_nonneg a (show b≠0 by omega)
 have h3:decide (b<0)=false:=by simp;omega
 have h4:decide (a%b<0)=false:=by simp;omega
 go_enter Tryz.func209,Tryz.ntmps209
 go_wp2
 go_quiet (fail)
 go_wp2
 all_goals
  go_ret3
  exact⟨ret_i3 (by rfl) (by first|rfl|omega) (by rfl),_,rfl⟩
theorem RDiv_neg (a b:Int) (w:World) (hb:0<b) (hb2:b≤9223372036854775807) (ha:0<a) (ha2:a≤9223372036854775808) :
  Calls Tryz.prog 209 #[.int .i64 (-a),.int .i64 b] w fun e w'=>e = .returned (.tuple #[.int .i64 (-a/b),.int .i64 (-a%b),.int .i64 0])∧∃n,w.drewN n=w':=by
 have h0:(b==0)=false:=by simp;omega
 have h1:(b == -1)=false:=by simp;omega
 have h3:decide (b<0)=false:=by simp;omega
 have q1:=Int.emod_nonneg a (show b≠0 by omega)
 have q2:=Int.emod_lt_of_pos a hb
 have q3:=Int.ediv_nonneg (a:=a) (b:=b) (by omega) (by omega)
 have q4:a/b≤9223372036854775808:=by have:=Int.ediv_le_self b (show 0≤a by omega);omega
 have hq:a.tdiv b=a/b:=Int.tdiv_eq_ediv_of_nonneg (by omega)
 have H1:=Lib.hid (neg_div a b hb)
 have H2:=Lib.hid (neg_mod a b hb)
 by_cases hm:a%b=0
 ·have h5:(-(a%b) != 0)=false:=by simp[hm]
  have Hm:=Lib.hid hm
  clear hm
  by_cases h1:(-a == -9223372036854775808)=true
  all_goals
   go_enter Tryz.func209,Tryz.ntmps209
   go_wp2
   go_quiet (fail)
   go_wp2
   go_ret3
   exact⟨ret_i3 (by rw[H1.out,if_pos Hm.out]) (by rw[H2.out,if_pos Hm.out,Hm.out];rfl) (by rfl),_,rfl⟩
 ·have h5:(-(a%b) != 0)=true:=by simp[hm]
  have h6:decide (0<a%b)=true:=by simp;omega
  have q5:2*(a/b)≤a:=div_half a b (by omega) (by omega)
  have Hm:=Lib.hid hm
  clear hm
  by_cases h1:(-a == -9223372036854775808)=true
  all_goals
   go_enter Tryz.func209,Tryz.ntmps209
   go_wp2
   go_quiet (fail)
   go_wp2
   go_ret3
   exact⟨ret_i3 (by rw[H1.out,if_neg Hm.out]) (by rw[H2.out,if_neg Hm.out];omega) (by rfl),_,rfl⟩
theorem RDiv_c (a b:Int) (w:World) (hb:0<b) (hb2:b≤9223372036854775807) (ha : -9223372036854775808≤a) (ha2:a≤9223372036854775807) :
  Calls Tryz.prog 209 #[.int .i64 a,.int .i64 b] w fun e w'=>e = .returned (.tuple #[.int .i64 (a/b),.int .i64 (a%b),.int .i64 0])∧∃n,w.drewN n=w':=by
 by_cases h:0≤a
 ·exact RDiv_nn a b w hb hb2 h ha2
 ·have e:a = -(-a):=by omega
  rw[e]
  exact RDiv_neg (-a) b w hb hb2 (by omega) (by omega)
theorem RFloor_c (a b:Int) (w:World) (hb:0<b) (hb2:b≤9223372036854775807) (ha : -9223372036854775808≤a) (ha2:a≤9223372036854775807) :
  Calls Tryz.prog 273 #[.int .i64 a,.int .i64 b] w fun e w'=>e = .returned (.int .i64 (a/b))∧∃n,w.drewN n=w':=by
 go_enter Tryz.func273,Tryz.ntmps273
 go_wp2_with (go_at_call 209;refine(RDiv_c _ _ _ hb hb2 ha ha2).mono ?_;rintro e w' ⟨rfl,nq,rfl⟩)
 go_ret
 exact⟨rfl,_,rfl⟩
end Go.Proofs.YtlmeinikknoeeaaGreatDoor
namespace Go.Proofs.YtlmeinikknoeeaaGreatDoor
set_option maxHeartbeats 1000000
open Go.RowKit
theorem yr_yes {y:Int} (h1:1≤y) (h2:y≤9999):yrB y=true:=by unfold yrB;simp;omega
theorem yr_no {y:Int} (h:¬(1≤y∧y≤9999)):yrB y=false:=by unfold yrB;simp;omega
theorem year_c (y:Int) (w:World):Calls Tryz.prog 325 #[.int .i64 y] w fun e w'=>e = .returned (.bool (yrB y))∧w=w':=by
 unfold yrB
 by_cases h1:1≤y
 ·have d1:decide (1≤y)=true:=by simp;omega
  by_cases h2:y≤9999
  all_goals
   go_enter Tryz.func325,Tryz.ntmps325
   go_wp2
   go_ret
   exact⟨ret_b (by simp[h1,h2]),rfl⟩
 ·have d1:decide (1≤y)=false:=by simp;omega
  go_enter Tryz.func325,Tryz.ntmps325
  go_wp2
  go_ret
  exact⟨ret_b (by simp),rfl⟩
theorem leap4 (y:Int):lpB y=((y%4==0)&&((y%100 != 0)||(y%400==0))):=by
 unfold lpB
 rw[Bool.eq_iff_iff]
 simp
theorem leap_c (y:Int) (w:World) (h1:1≤y) (h2:y≤9999):Calls Tryz.prog 326 #[.int .i64 y] w fun e w'=>e = .returned (.bool (lpB y))∧w=w':=by
 rw[leap4]
 have hy:=yr_yes h1 h2
 rcases Bool.eq_false_or_eq_true (y%4==0)with a4|a4<;>rcases Bool.eq_false_or_eq_true (y%100 != 0)with a1|a1<;>rcases Bool.eq_false_or_eq_true (y%400==0)with a0|a0
 all_goals
  rw[a4,a1,a0]
  go_enter Tryz.func326,Tryz.ntmps326
  go_wp2_with (go_at_call 325;refine(year_c _ _).mono ?_;rintro e w' ⟨rfl,rfl⟩)
  go_ret
  exact⟨rfl,rfl⟩
theorem rleap_c (y:Int) (w:World) (h1:1≤y) (h2:y≤9999):Calls Tryz.prog 306 #[.int .i64 y] w fun e w'=>e = .returned (.bool (lpB y))∧w=w':=by
 rw[leap4]
 rcases Bool.eq_false_or_eq_true (y%4==0)with a4|a4<;>rcases Bool.eq_false_or_eq_true (y%100 != 0)with a1|a1<;>rcases Bool.eq_false_or_eq_true (y%400==0)with a0|a0
 all_goals first
  | (exfalso;simp at a4 a1 a0;omega)
  | (rw[a4,a1,a0]
     go_enter Tryz.func306,Tryz.ntmps306
     go_wp2
     go_ret
     exact⟨rfl,rfl⟩)
theorem mi_0 (w:World):(Instr.index 313 (.agg #[.int .i64 31,.int .i64 28,.int .i64 31,.int .i64 30,.int .i64 31,.int .i64 30,.int .i64 31,.int .i64 31,.int .i64 30,.int .i64 31,.int .i64 30,.int .i64 31]) (.int .i64 0)).run Tryz.prog w = .ok (.int .i64 31) w:=by kernel_rfl
theorem mi_1 (w:World):(Instr.index 313 (.agg #[.int .i64 31,.int .i64 28,.int .i64 31,.int .i64 30,.int .i64 31,.int .i64 30,.int .i64 31,.int .i64 31,.int .i64 30,.int .i64 31,.int .i64 30,.int .i64 31]) (.int .i64 1)).run Tryz.prog w = .ok (.int .i64 28) w:=by kernel_rfl
theorem mi_2 (w:World):(Instr.index 313 (.agg #[.int .i64 31,.int .i64 28,.int .i64 31,.int .i64 30,.int .i64 31,.int .i64 30,.int .i64 31,.int .i64 31,.int .i64 30,.int .i64 31,.int .i64 30,.int .i64 31]) (.int .i64 2)).run Tryz.prog w = .ok (.int .i64 31) w:=by kernel_rfl
theorem mi_3 (w:World):(Instr.index 313 (.agg #[.int .i64 31,.int .i64 28,.int .i64 31,.int .i64 30,.int .i64 31,.int .i64 30,.int .i64 31,.int .i64 31,.int .i64 30,.int .i64 31,.int .i64 30,.int .i64 31]) (.int .i64 3)).run Tryz.prog w = .ok (.int .i64 30) w:=by kernel_rfl
theorem mi_4 (w:World):(Instr.index 313 (.agg #[.int .i64 31,.int .i64 28,.int .i64 31,.int .i64 30,.int .i64 31,.int .i64 30,.int .i64 31,.int .i64 31,.int .i64 30,.int .i64 31,.int .i64 30,.int .i64 31]) (.int .i64 4)).run Tryz.prog w = .ok (.int .i64 31) w:=by kernel_rfl
theorem mi_5 (w:World):(Instr.index 313 (.agg #[.int .i64 31,.int .i64 28,.int .i64 31,.int .i64 30,.int .i64 31,.int .i64 30,.int .i64 31,.int .i64 31,.int .i64 30,.int .i64 31,.int .i64 30,.int .i64 31]) (.int .i64 5)).run Tryz.prog w = .ok (.int .i64 30) w:=by kernel_rfl
theorem mi_6 (w:World):(Instr.index 313 (.agg #[.int .i64 31,.int .i64 28,.int .i64 31,.int .i64 30,.int .i64 31,.int .i64 30,.int .i64 31,.int .i64 31,.int .i64 30,.int .i64 31,.int .i64 30,.int .i64 31]) (.int .i64 6)).run Tryz.prog w = .ok (.int .i64 31) w:=by kernel_rfl
theorem mi_7 (w:World):(Instr.index 313 (.agg #[.int .i64 31,.int .i64 28,.int .i64 31,.int .i64 30,.int .i64 31,.int .i64 30,.int .i64 31,.int .i64 31,.int .i64 30,.int .i64 31,.int .i64 30,.int .i64 31]) (.int .i64 7)).run Tryz.prog w = .ok (.int .i64 31) w:=by kernel_rfl
theorem mi_8 (w:World):(Instr.index 313 (.agg #[.int .i64 31,.int .i64 28,.int .i64 31,.int .i64 30,.int .i64 31,.int .i64 30,.int .i64 31,.int .i64 31,.int .i64 30,.int .i64 31,.int .i64 30,.int .i64 31]) (.int .i64 8)).run Tryz.prog w = .ok (.int .i64 30) w:=by kernel_rfl
theorem mi_9 (w:World):(Instr.index 313 (.agg #[.int .i64 31,.int .i64 28,.int .i64 31,.int .i64 30,.int .i64 31,.int .i64 30,.int .i64 31,.int .i64 31,.int .i64 30,.int .i64 31,.int .i64 30,.int .i64 31]) (.int .i64 9)).run Tryz.prog w = .ok (.int .i64 31) w:=by kernel_rfl
theorem mi_10 (w:World):(Instr.index 313 (.agg #[.int .i64 31,.int .i64 28,.int .i64 31,.int .i64 30,.int .i64 31,.int .i64 30,.int .i64 31,.int .i64 31,.int .i64 30,.int .i64 31,.int .i64 30,.int .i64 31]) (.int .i64 10)).run Tryz.prog w = .ok (.int .i64 30) w:=by kernel_rfl
theorem mi_11 (w:World):(Instr.index 313 (.agg #[.int .i64 31,.int .i64 28,.int .i64 31,.int .i64 30,.int .i64 31,.int .i64 30,.int .i64 31,.int .i64 31,.int .i64 30,.int .i64 31,.int .i64 30,.int .i64 31]) (.int .i64 11)).run Tryz.prog w = .ok (.int .i64 31) w:=by kernel_rfl
set_option maxRecDepth 100000 in
theorem length_c (y m:Int) (w:World):Calls Tryz.prog 319 #[.int .i64 y,.int .i64 m] w fun e w'=>e = .returned (.int .i64 (mlen y m))∧w=w':=by
 by_cases hy:1≤y∧y≤9999
 ·obtain⟨h1,h2⟩:=hy
  have hyr:=yr_yes h1 h2
  by_cases hm:1≤m∧m≤12
  ·obtain⟨g1,g2⟩:=hm
   rcases m12 g1 g2 with rfl|rfl|rfl|rfl|rfl|rfl|rfl|rfl|rfl|rfl|rfl|rfl
   case inr.inl=>
    rcases Bool.eq_false_or_eq_true (lpB y)with hl|hl
    ·have Hl:Hid (mlen y 2=29):=by simp[Hid,mlen,lp,hl,h1,h2]
     go_enter Tryz.func319,Tryz.ntmps319
     go_wp2_with (first|(go_at_call 325;refine(year_c _ _).mono ?_;rintro e w' ⟨rfl,rfl⟩)|(go_at_call 326;refine(leap_c _ _ h1 h2).mono ?_;rintro e w' ⟨rfl,rfl⟩))
     go_ret
     exact⟨ret_i Hl.out.symm,rfl⟩
    ·have Hl:Hid (mlen y 2=28):=by simp[Hid,mlen,lp,hl,h1,h2]
     have i1:=mi_1
     go_enter Tryz.func319,Tryz.ntmps319
     go_wp2_with (first|(go_at_call 325;refine(year_c _ _).mono ?_;rintro e w' ⟨rfl,rfl⟩)|(go_at_call 326;refine(leap_c _ _ h1 h2).mono ?_;rintro e w' ⟨rfl,rfl⟩))
     go_ret
     exact⟨ret_i Hl.out.symm,rfl⟩
   all_goals
    have i0:=mi_0;have i1:=mi_1;have i2:=mi_2;have i3:=mi_3;have i4:=mi_4;have i5:=mi_5;have i6:=mi_6;have i7:=mi_7;have i8:=mi_8;have i9:=mi_9;have i10:=mi_10;have i11:=mi_11
    go_enter Tryz.func319,Tryz.ntmps319
    go_wp2_with (go_at_call 325;refine(year_c _ _).mono ?_;rintro e w' ⟨rfl,rfl⟩)
    go_ret
    exact⟨ret_i (by simp[mlen,h1,h2]),rfl⟩
  ·have Hz:=Lib.hid (mlen_zero y m (by omega))
   by_cases g1:m<1
   ·have d1:decide (m<1)=true:=by simp;omega
    go_enter Tryz.func319,Tryz.ntmps319
    go_wp2_with (go_at_call 325;refine(year_c _ _).mono ?_;rintro e w' ⟨rfl,rfl⟩)
    go_ret
    exact⟨ret_i Hz.out.symm,rfl⟩
   ·have d1:decide (m<1)=false:=by simp;omega
    have d2:decide (12<m)=true:=by simp;omega
    go_enter Tryz.func319,Tryz.ntmps319
    go_wp2_with (go_at_call 325;refine(year_c _ _).mono ?_;rintro e w' ⟨rfl,rfl⟩)
    go_ret
    exact⟨ret_i Hz.out.symm,rfl⟩
 ·have Hz:=Lib.hid (mlen_zero y m (by omega))
  have hyr:=yr_no hy
  clear hy
  go_enter Tryz.func319,Tryz.ntmps319
  go_wp2_with (go_at_call 325;refine(year_c _ _).mono ?_;rintro e w' ⟨rfl,rfl⟩)
  go_ret
  exact⟨ret_i Hz.out.symm,rfl⟩
end Go.Proofs.YtlmeinikknoeeaaGreatDoor
