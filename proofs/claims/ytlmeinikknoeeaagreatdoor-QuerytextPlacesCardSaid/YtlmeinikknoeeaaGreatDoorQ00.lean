/- Small lemmas on worlds and results that every walk of this seat uses; nothing of the program is in sight here. -/
import Derived.Test.YtlmeinikknoeeaaGreatDoorRows
import Derived.WalkKit
import Derived.WalkSpells
import Derived.WalkLawsBesides
import Derived.BigQuiet
import Derived.Deep.QuietTactic
import Derived.Deep.RegionHeld3
import Derived.Lib.Hide
import Derived.Lib.Split
import Derived.Lib.SplitLaws
import Derived.Lib.AtoiAll
import Derived.Laws.AppendOwn
import Derived.Maps.AppendAt
namespace Go.Proofs.YtlmeinikknoeeaaGreatDoor
open Go.RowKit
def Ext (w w':World):Prop:=Below w.heap.size w w'
theorem Ext.refl (w:World):Ext w w:=Below.refl _ _
theorem Ext.size {w w':World} (h:Ext w w'):w.heap.size≤w'.heap.size:=Below.size h
theorem Ext.trans {a b c:World} (h:Ext a b) (k:Ext b c):Ext a c:=Below.trans h (Below.mono k h.size)
theorem Ext.drewN {a w:World} (h:Ext a w) (n:Nat):Ext a (w.drewN n):=⟨h.os,h.tape,h.output,h.size,h.block⟩
theorem Ext.drew {a w:World} (h:Ext a w):Ext a w.drew:=⟨h.os,h.tape,h.output,h.size,h.block⟩
theorem Ext.alloc {a w:World} (h:Ext a w) (o:Obj):Ext a (w.alloc o):=Below.alloc h h.size o
theorem Ext.setCell {a w:World} (h:Ext a w) {p:Addr} (hp:a.heap.size≤p.block) (u:Value):Ext a (w.setCell p u):=Below.setCell h hp u
theorem Ext.cells {w w':World} (h:Ext w w'):∀b o,b<w.heap.size→w'.cell? ⟨b,o,none⟩=w.cell? ⟨b,o,none⟩:=fun b o hb=>Below.cell h (p:=⟨b,o,none⟩) hb
theorem Ext.frozens {w w':World} (h:Ext w w'):∀b o,b<w.heap.size→w'.frozen? ⟨b,o,none⟩=w.frozen? ⟨b,o,none⟩:=fun b o hb=>Below.frozen h (p:=⟨b,o,none⟩) hb
theorem Ext.lt {w w':World} (h:Ext w w') {n:Nat} (hn:n<w.heap.size):n<w'.heap.size:=Nat.lt_of_lt_of_le hn h.size
theorem ret_i {k:IntKind} {a a':Int} (h:a=a'):Ending.returned (.int k a) = .returned (.int k a'):=by rw[h]
theorem ret_b {a a':Bool} (h:a=a'):Ending.returned (.bool a) = .returned (.bool a'):=by rw[h]
theorem ret_s {a a':ByteArray} (h:a=a'):Ending.returned (.string a) = .returned (.string a'):=by rw[h]
theorem ret_i2 {k1 k2:IntKind} {a b a' b':Int} (h1:a=a') (h2:b=b'):Ending.returned (.tuple #[.int k1 a,.int k2 b]) = .returned (.tuple #[.int k1 a',.int k2 b']):=by rw[h1,h2]
theorem ret_i3 {k1 k2 k3:IntKind} {a b c a' b' c':Int} (h1:a=a') (h2:b=b') (h3:c=c'):Ending.returned (.tuple #[.int k1 a,.int k2 b,.int k3 c]) = .returned (.tuple #[.int k1 a',.int k2 b',.int k3 c']):=by rw[h1,h2,h3]
theorem quiet_of0 {P:Program} {f:FuncId} {args:Array Value} {w:World} {n:Nat} {v:Value}
  (h:Calls P f args (w.drewN n) fun e w'=>e = .returned v∧∃m,(w.drewN n).drewN m=w') :
  Calls P f args (w.drewN n) fun e w''=>e = .returned v∧∃m,w''=w.drewN m:=
 h.mono fun _ _ ⟨he,m,hm⟩=>⟨he,n+m,by rw[←hm,World.drewN_drewN]⟩
theorem neg_div (n b:Int) (hb:0<b):(-n)/b=if n%b=0 then -(n/b)else -(n/b)-1:=by
 have h1:=Int.mul_ediv_add_emod n b
 have h2:=Int.emod_nonneg n (show b≠0 by omega)
 have h3:=Int.emod_lt_of_pos n hb
 have e1 : -(n/b)*b = - (b*(n/b)):=by rw[Int.neg_mul,Int.mul_comm]
 split
 ·rename_i h
  rw[Int.ediv_eq_iff_of_pos hb]
  rw[e1];omega
 ·rename_i h
  rw[Int.ediv_eq_iff_of_pos hb,Int.sub_mul,e1];omega
theorem neg_mod (n b:Int) (hb:0<b):(-n)%b=if n%b=0 then 0 else b-n%b:=by
 have h1:=Int.mul_ediv_add_emod n b
 have h2:=Int.mul_ediv_add_emod (-n) b
 rw[neg_div n b hb]at h2
 split
 ·rename_i h
  rw[if_pos h,Int.mul_neg]at h2
  omega
 ·rename_i h
  rw[if_neg h,Int.mul_sub,Int.mul_neg]at h2
  omega
theorem div_half (a b:Int) (ha:0≤a) (hb:2≤b):2*(a/b)≤a:=by
 have h1:=Int.mul_ediv_add_emod a b
 have h2:=Int.emod_nonneg a (show b≠0 by omega)
 have h3:=Int.ediv_nonneg (a:=a) (b:=b) ha (by omega)
 have h4:2*(a/b)≤b*(a/b):=Int.mul_le_mul_of_nonneg_right hb h3
 omega
end Go.Proofs.YtlmeinikknoeeaaGreatDoor
namespace Go.Proofs.YtlmeinikknoeeaaGreatDoor
set_option linter.unusedVariables false
set_option linter.unnecessarySimpa false
set_option linter.unusedSimpArgs false
open Go.RowKit
def isDg (c:UInt8):Bool:=decide (48≤c.toNat∧c.toNat≤57)
def val (l:List UInt8):Nat:=l.foldl (fun a c=>10*a+(c.toNat-48)) 0
theorem isDg_iff {c:UInt8}:isDg c=true↔48≤c.toNat∧c.toNat≤57:=by unfold isDg;simp
theorem val_snoc (l:List UInt8) (c:UInt8):val (l ++ [c])=10*val l+(c.toNat-48):=by unfold val;simp
theorem val_take_succ (l:List UInt8) (k:Nat) (h:k<l.length):val (l.take (k+1))=10*val (l.take k)+(l[k].toNat-48):=by
 rw[List.take_succ_eq_append_getElem h,val_snoc]
theorem snoc_ind {P:List UInt8→Prop} (h0:P []) (h1:∀l c,P l→P (l ++ [c])) (l:List UInt8):P l:=by
 have H:∀r:List UInt8,P r.reverse:=by
  intro r
  induction r with
  | nil=>exact h0
  | cons c r ih=>rw[List.reverse_cons];exact h1 _ c ih
 have:=H l.reverse
 rwa [List.reverse_reverse]at this
theorem val_nil:val []=0:=rfl
theorem val_lt (l:List UInt8) (h:∀c∈l,isDg c=true):val l<10 ^ l.length:=by
 revert h
 refine snoc_ind (P:=fun l=>(∀c∈l,isDg c=true)→val l<10 ^ l.length) ?_ ?_ l
 ·intro _;simp[val_nil]
 ·intro l c ih h
  have:=isDg_iff.1 (h c (by simp))
  have:=ih (fun x hx=>h x (by simp[hx]))
  rw[List.length_append,List.length_singleton,val_snoc,Nat.pow_succ];omega
theorem bget (l:List UInt8) (k:Nat) (h:k<l.length) (c:UInt8) (hc:c=l[k]):(⟨l.toArray⟩:ByteArray)[k]'(by simpa [ByteArray.size] using h)=c:=by
 rw[hc]
 rfl
theorem bdrop (l:List UInt8) (k:Nat):(⟨l.toArray⟩:ByteArray).extract k l.length=⟨(l.drop k).toArray⟩:=by
 apply ByteArray.ext
 simp only[ByteArray.data_extract,List.extract_toArray]
 rw[List.extract_eq_take_drop,List.take_of_length_le (by simp)]
theorem bmid (l:List UInt8) (a b:Nat):(⟨l.toArray⟩:ByteArray).extract a b=⟨((l.drop a).take (b-a)).toArray⟩:=by
 apply ByteArray.ext
 simp only[ByteArray.data_extract,List.extract_toArray]
 try rw[List.extract_eq_take_drop]
theorem app_str (a b:List UInt8):(⟨a.toArray⟩:ByteArray)++⟨b.toArray⟩=⟨(a++b).toArray⟩:=by
 apply ByteArray.ext
 simp
theorem ba_mk (s:ByteArray):s=⟨(s.data.toList).toArray⟩:=by
 apply ByteArray.ext;simp
theorem pu_val (l:List UInt8):∀(acc:Nat),acc<1000000→l.length≤9→(∀c∈l,isDg c=true)→Lib.parseUint10 acc l = .ok (l.foldl (fun a c=>10*a+(c.toNat-48)) acc):=by
 suffices H:∀(n:Nat) (l:List UInt8) (acc:Nat),l.length≤n→n≤9→acc<10 ^ (16-n)→(∀c∈l,isDg c=true)→Lib.parseUint10 acc l = .ok (l.foldl (fun a c=>10*a+(c.toNat-48)) acc) by
  intro acc ha hl hd
  exact H 9 l acc hl (by omega) (by have:(10:Nat) ^ (16-9)=10000000:=rfl;omega) hd
 intro n
 induction n with
 | zero=>
   intro l acc hl _ _ _
   obtain rfl:l = []:=List.length_eq_zero_iff.1 (by omega)
   rfl
 | succ n ih=>
   intro l acc hl hn ha hd
   match l with
   | []=>rfl
   | c::r=>
     have hc:=isDg_iff.1 (hd c (by simp))
     have h16:(10:Nat) ^ (16-(n+1))≤10 ^ 15:=Nat.pow_le_pow_right (by omega) (by omega)
     have h15:(10:Nat) ^ 15=1000000000000000:=rfl
     have e:(10:Nat) ^ (16-n)=10 ^ (16-(n+1))*10:=by rw[←Nat.pow_succ];congr 1;omega
     rw[Lib.parseUint10,if_pos hc,if_neg (by omega),if_neg (by omega),ih r _ (by simpa using hl) (by omega) (by omega) (fun x hx=>hd x (by simp[hx])),List.foldl_cons,Nat.mul_comm]
theorem atoi_val (l:List UInt8) (h1:1≤l.length) (h2:l.length≤9) (hd:∀c∈l,isDg c=true):Lib.atoiAll l = .ok (val l:Int):=by
 match l with
 | c::r=>
   have hc:=isDg_iff.1 (hd c (by simp))
   have hv:=val_lt (c::r) hd
   have h10:(10:Nat) ^ (c::r).length≤10 ^ 9:=Nat.pow_le_pow_right (by omega) h2
   have h9:(10:Nat) ^ 9=1000000000:=rfl
   unfold Lib.atoiAll
   simp only
   rw[if_neg (by omega)]
   unfold Lib.parseMag
   rw[if_neg (by simp),pu_val (c::r) 0 (by omega) h2 hd]
   show(if ¬c.toNat=45∧9223372036854775808≤val (c::r)then _ else _)=_
   rw[if_neg (by omega),if_neg (by omega),if_neg (by omega)]
   rfl
def spl (c:UInt8):List UInt8→List (List UInt8)
 | []=>[[]]
 | d::r=>if d=c then []::spl c r else match spl c r with
   | []=>[[d]]
   | h::t=>(d::h)::t
theorem spl_ne (c:UInt8) (l:List UInt8):spl c l≠[]:=by
 cases l with
 | nil=>simp[spl]
 | cons d r=>unfold spl;split;simp;split<;>simp
theorem spl_hit (c:UInt8) (r:List UInt8):spl c (c::r) = []::spl c r:=by rw[spl,if_pos rfl]
theorem spl_cons (c d:UInt8) (r:List UInt8) (h:d≠c):∃x t,spl c r=x::t∧spl c (d::r)=(d::x)::t:=by
 cases e:spl c r with
 | nil=>exact absurd e (spl_ne c r)
 | cons x t=>exact⟨x,t,rfl,by rw[spl,if_neg h,e]⟩
theorem index1_cons (c d:UInt8) (r:List UInt8):Lib.index (d::r) [c]=if d=c then 0 else if Lib.index r [c] = -1 then -1 else Lib.index r [c]+1:=by
 have e:[c].isPrefixOf (d::r)=decide (d=c):=by
  simp only[List.isPrefixOf,Bool.and_true]
  rw[Bool.eq_iff_iff,beq_iff_eq,decide_eq_true_eq]
  exact eq_comm
 rw[Lib.index,e]
 by_cases h:d=c
 ·simp[h]
 ·simp[h]
theorem spl_miss (c:UInt8):∀s:List UInt8,Lib.index s [c] = -1→spl c s = [s]:=by
 intro s
 induction s with
 | nil=>intro _;rfl
 | cons d r ih=>
   intro h
   rw[index1_cons]at h
   by_cases hd:d=c
   ·rw[if_pos hd]at h;omega
   ·rw[if_neg hd]at h
    by_cases hi:Lib.index r [c] = -1
    ·rw[spl,if_neg hd,ih hi]
    ·rw[if_neg hi]at h
     have:=Lib.index_ge r [c]
     omega
theorem spl_at (c:UInt8):∀(s:List UInt8) (i:Nat),Lib.index s [c]=i→spl c s=s.take i::spl c (s.drop (i+1)):=by
 intro s
 induction s with
 | nil=>intro i h;simp[Lib.index]at h
 | cons d r ih=>
   intro i h
   rw[index1_cons]at h
   by_cases hd:d=c
   ·rw[if_pos hd]at h
    obtain rfl:i=0:=by omega
    rw[hd,spl_hit];rfl
   ·rw[if_neg hd]at h
    by_cases hi:Lib.index r [c] = -1
    ·rw[if_pos hi]at h;omega
    ·rw[if_neg hi]at h
     have:=Lib.index_ge r [c]
     obtain⟨j,hj⟩:∃j:Nat,Lib.index r [c]=j:=⟨(Lib.index r [c]).toNat,by omega⟩
     obtain rfl:i=j+1:=by omega
     rw[spl,if_neg hd,ih j hj]
     rfl
theorem splitK_spl (c:UInt8):∀(fuel:Nat) (s:List UInt8) (k:Nat),s.length<fuel→Lib.countFrom [c] fuel s≤k→Lib.splitK [c] 0 k s=spl c s:=by
 intro fuel
 induction fuel with
 | zero=>intro s k h;omega
 | succ fuel ih=>
   intro s k hl hk
   rw[Lib.countFrom]at hk
   by_cases hi:Lib.index s [c] = -1
   ·rw[spl_miss c s hi]
    cases k with
    | zero=>rfl
    | succ k=>rw[Lib.splitK,if_pos (by rw[hi];rfl)]
   ·rw[if_neg (by simpa using hi)]at hk
    have hge:=Lib.index_ge s [c]
    obtain⟨i,hi2⟩:∃i:Nat,Lib.index s [c]=i:=⟨(Lib.index s [c]).toNat,by omega⟩
    have hroom:=Lib.index_room s [c] (by omega)
    rw[hi2]at hk hroom
    simp only[List.length_singleton]at hk hroom
    have e:((i:Int)).toNat=i:=by omega
    rw[e]at hk
    cases k with
    | zero=>omega
    | succ k=>
      rw[Lib.splitK,if_neg (by simpa using hi),hi2,e,spl_at c s i hi2,List.length_singleton,Nat.add_zero]
      rw[ih (s.drop (i+1)) k (by rw[List.length_drop];omega) (by omega)]
theorem split_spl (c:UInt8) (s:ByteArray):(Lib.splitB ⟨#[c]⟩ 0 (Lib.countB s ⟨#[c]⟩) s).map (·.data.toList)=spl c s.data.toList:=by
 rw[Lib.splitB_data]
 exact splitK_spl c (s.data.toList.length+1) s.data.toList _ (by omega) (Nat.le_refl _)
theorem split_vals (c:UInt8) (s:ByteArray):(Lib.splitB ⟨#[c]⟩ 0 (Lib.countB s ⟨#[c]⟩) s).map Value.string=(spl c s.data.toList).map fun l=>Value.string ⟨l.toArray⟩:=by
 rw[←split_spl,List.map_map]
 refine List.map_congr_left ?_
 intro b _
 show Value.string b=Value.string ⟨b.data.toList.toArray⟩
 rw[←ba_mk b]
theorem split_count (c:UInt8) (s:ByteArray):Lib.countB s ⟨#[c]⟩+1=(spl c s.data.toList).length:=by
 have h:=congrArg List.length (split_spl c s)
 rw[List.length_map]at h
 rw[←h]
 exact(Lib.splitB_all ⟨#[c]⟩ (Nat.le_refl 1) 0 _ s rfl).symm
end Go.Proofs.YtlmeinikknoeeaaGreatDoor
namespace Go.Proofs.YtlmeinikknoeeaaGreatDoor
set_option linter.unusedVariables false
set_option linter.unnecessarySimpa false
set_option linter.unusedSimpArgs false
inductive Tr (α:Type) where
 | mk (a:α) (l:List (Tr α))
structure ValD where
 k:Int
 n:Int
 s:List UInt8
deriving DecidableEq
structure CdD where
 k:Int
 col:List UInt8
 oth:List UInt8
 v:ValD
deriving DecidableEq
structure QnD where
 k:Int
 tb:List UInt8
 cols:List (List UInt8)
 nms:List (List UInt8)
 cond:Tr CdD
 rel:Int
 fn:Int
 f:Int
 t:Int
section
variable {α:Type}
mutual
def szC:Tr α→Nat
 | .mk _ l=>1+szCs l
def szCs:List (Tr α)→Nat
 | []=>0
 | c::r=>szC c+szCs r
end
mutual
def gdC (p:α→Nat→Bool):Tr α→Nat→Bool
 | .mk a l,d=>decide (d≤12)&&p a l.length&&gdCs p l (d+1)
def gdCs (p:α→Nat→Bool):List (Tr α)→Nat→Bool
 | [],_=>true
 | c::r,d=>gdC p c d&&gdCs p r d
end
mutual
def ndC (p:α→Nat→Bool):Tr α→Nat→Nat
 | .mk a l,d=>if 12<d∨p a l.length=false then 61 else ndCs p l d 1
def ndCs (p:α→Nat→Bool):List (Tr α)→Nat→Nat→Nat
 | [],_,n=>n
 | c::r,d,n=>if 60<n then n else ndCs p r d (n+ndC p c (d+1))
end
mutual
def fmK (p:α→Nat→Bool):Tr α→Nat→Nat→Option Nat
 | .mk a l,d,n=>if 60<n+1∨12<d then none else if p a l.length=false then none else fmCs p l d (n+1)
def fmCs (p:α→Nat→Bool):List (Tr α)→Nat→Nat→Option Nat
 | [],_,n=>some n
 | c::r,d,n=>match fmK p c (d+1) n with
   | none=>none
   | some m=>fmCs p r d m
end
theorem szC_pos (c:Tr α):1≤szC c:=by cases c;rw[szC];omega
mutual
theorem ndC_eq (p:α→Nat→Bool):∀(c:Tr α) (d:Nat),ndC p c d=szC c∧gdC p c d=true∧szC c≤60∨60<ndC p c d∧¬(gdC p c d=true∧szC c≤60)
 | .mk a l,d=>by
   rw[ndC,szC,gdC]
   by_cases h:12<d∨p a l.length=false
   ·rw[if_pos h]
    refine .inr ⟨by omega,fun⟨q,_⟩=>?_⟩
    simp only[Bool.and_eq_true,decide_eq_true_eq]at q
    rcases h with h|h
    ·omega
    ·rw[q.1.2]at h;cases h
   ·rw[if_neg h]
    have h1:d≤12:=by omega
    have h2:p a l.length=true:=by
     cases e:p a l.length
     ·exact absurd (.inr e) h
     ·rfl
    rw[decide_eq_true h1,h2]
    have:=ndCs_eq p l d 1 (by omega)
    simpa using this
theorem ndCs_eq (p:α→Nat→Bool):∀(l:List (Tr α)) (d n:Nat),1≤n→(ndCs p l d n=n+szCs l∧gdCs p l (d+1)=true∧n+szCs l≤60)∨(60<ndCs p l d n∧¬(gdCs p l (d+1)=true∧n+szCs l≤60))
 | [],d,n,hn=>by
   rw[ndCs,szCs,gdCs]
   by_cases h:n≤60
   ·exact .inl ⟨by omega,rfl,by omega⟩
   ·exact .inr ⟨by omega,fun⟨_,q⟩=>by omega⟩
 | c::r,d,n,hn=>by
   rw[ndCs,szCs,gdCs]
   by_cases h:60<n
   ·rw[if_pos h]
    exact .inr ⟨h,fun⟨_,q⟩=>by omega⟩
   ·rw[if_neg h]
    have hp:=szC_pos c
    rcases ndC_eq p c (d+1)with⟨h1,h2,h3⟩|⟨h1,h2⟩
    ·rw[h1,h2]
     have:=ndCs_eq p r d (n+szC c) (by omega)
     rw[Nat.add_assoc]at this
     simpa using this
    ·right
     constructor
     ·rcases ndCs_eq p r d (n+ndC p c (d+1)) (by omega)with⟨q1,_,_⟩|⟨q1,_⟩
      ·rw[q1];omega
      ·exact q1
     ·intro ⟨q1,q2⟩
      rw[Bool.and_eq_true]at q1
      exact h2 ⟨q1.1,by omega⟩
end
theorem ndC_iff (p:α→Nat→Bool) (c:Tr α) (d:Nat):ndC p c d≤60↔gdC p c d=true∧szC c≤60:=by
 rcases ndC_eq p c d with⟨h1,h2,h3⟩|⟨h1,h2⟩
 ·exact⟨fun _=>⟨h2,h3⟩,fun _=>by omega⟩
 ·exact⟨fun h=>by omega,fun h=>absurd h h2⟩
mutual
theorem fmC_eq (p:α→Nat→Bool):∀(c:Tr α) (d n:Nat),fmK p c d n=if gdC p c d=true∧n+szC c≤60 then some (n+szC c)else none
 | .mk a l,d,n=>by
   rw[fmK,szC,gdC]
   by_cases h:60<n+1∨12<d
   ·rw[if_pos h,if_neg]
    intro ⟨q1,q2⟩
    simp only[Bool.and_eq_true,decide_eq_true_eq]at q1
    omega
   ·rw[if_neg h]
    by_cases h2:p a l.length=false
    ·rw[if_pos h2,if_neg]
     intro ⟨q1,_⟩
     simp only[Bool.and_eq_true]at q1
     rw[q1.1.2]at h2
     cases h2
    ·have h2':p a l.length=true:=by
      cases e:p a l.length
      ·exact absurd e h2
      ·rfl
     rw[if_neg h2,h2',decide_eq_true (show d≤12 by omega),fmCs_eq p l d (n+1) (by omega),show n+(1+szCs l)=n+1+szCs l by omega]
     simp
theorem fmCs_eq (p:α→Nat→Bool):∀(l:List (Tr α)) (d n:Nat),n≤60→fmCs p l d n=if gdCs p l (d+1)=true∧n+szCs l≤60 then some (n+szCs l)else none
 | [],d,n,hn=>by rw[fmCs,gdCs,szCs,if_pos ⟨rfl,by omega⟩];rfl
 | c::r,d,n,hn=>by
   rw[fmCs,gdCs,szCs,fmC_eq p c (d+1) n]
   by_cases h:gdC p c (d+1)=true∧n+szC c≤60
   ·rw[if_pos h]
    simp only
    rw[fmCs_eq p r d (n+szC c) h.2,h.1,Nat.add_assoc]
    simp
   ·rw[if_neg h,if_neg]
    intro ⟨q1,q2⟩
    rw[Bool.and_eq_true]at q1
    exact h ⟨q1.1,by omega⟩
end
theorem fmK_iff (p:α→Nat→Bool) (c:Tr α):(fmK p c 1 0).isSome=true↔ndC p c 1≤60:=by
 rw[fmC_eq,ndC_iff]
 by_cases h:gdC p c 1=true∧0+szC c≤60
 ·rw[if_pos h]
  exact⟨fun _=>⟨h.1,by omega⟩,fun _=>rfl⟩
 ·rw[if_neg h]
  exact⟨fun q=>(by simp at q),fun⟨q1,q2⟩=>absurd ⟨q1,by omega⟩ h⟩
end
end Go.Proofs.YtlmeinikknoeeaaGreatDoor
namespace Go.Proofs.YtlmeinikknoeeaaGreatDoor
open Go.RowKit
structure Frm (S:Nat→Prop) (w w':World):Prop where
 os:w'.os=w.os
 tape:w'.tape=w.tape
 output:w'.output=w.output
 size:w.heap.size≤w'.heap.size
 block:∀k,k<w.heap.size→¬S k→w'.heap[k]? = w.heap[k]?
theorem Frm.refl (S:Nat→Prop) (w:World):Frm S w w:=⟨rfl,rfl,rfl,Nat.le_refl _,fun _ _ _=>rfl⟩
theorem Frm.trans {S:Nat→Prop} {a b c:World} (h:Frm S a b) (k:Frm S b c):Frm S a c:=
 ⟨k.os.trans h.os,k.tape.trans h.tape,k.output.trans h.output,Nat.le_trans h.size k.size,fun i hi hs=>(k.block i (Nat.lt_of_lt_of_le hi h.size) hs).trans (h.block i hi hs)⟩
theorem Frm.mono {S T:Nat→Prop} {a b:World} (h:Frm S a b) (hs:∀k,k<a.heap.size→S k→T k):Frm T a b:=
 ⟨h.os,h.tape,h.output,h.size,fun i hi ht=>h.block i hi fun q=>ht (hs i hi q)⟩
theorem Frm.of_ext {S:Nat→Prop} {a b:World} (h:Ext a b):Frm S a b:=⟨h.os,h.tape,h.output,h.size,fun i hi _=>h.block i hi⟩
theorem Frm.ext {S:Nat→Prop} {a b:World} (h:Frm S a b) (hs:∀k,S k→a.heap.size≤k):Ext a b:=
 ⟨h.os,h.tape,h.output,h.size,fun i hi=>h.block i hi fun q=>by have:=hs i q;omega⟩
theorem Frm.drewN {S:Nat→Prop} {a b:World} (h:Frm S a b) (n:Nat):Frm S a (b.drewN n):=⟨h.os,h.tape,h.output,h.size,h.block⟩
theorem Frm.drew {S:Nat→Prop} {a b:World} (h:Frm S a b):Frm S a b.drew:=⟨h.os,h.tape,h.output,h.size,h.block⟩
theorem Frm.alloc {S:Nat→Prop} {a b:World} (h:Frm S a b) (o:Obj):Frm S a (b.alloc o):=
 h.trans (Frm.of_ext ((Ext.refl b).alloc o))
theorem Frm.setCell {S:Nat→Prop} {a b:World} (h:Frm S a b) {p:Addr} (hp:S p.block∨a.heap.size≤p.block) (u:Value):Frm S a (b.setCell p u):=
 ⟨h.os,h.tape,h.output,by simpa [World.setCell] using h.size,fun i hi hs=>(Below.heap_setCell b p u i (by rintro rfl;rcases hp with q|q;exact hs q;omega)).trans (h.block i hi hs)⟩
theorem Frm.grown {S:Nat→Prop} {a b c:World} {row:Option Nat} (h:Frm S a b) (hg:b.grownBy c row) (hr:∀k,row=some k→S k∨a.heap.size≤k):Frm S a c:=
 ⟨hg.os.trans h.os,hg.tape.trans h.tape,hg.output.trans h.output,Nat.le_trans h.size hg.size,fun i hi hs=>(hg.block i (Nat.lt_of_lt_of_le hi h.size) (fun e=>by rcases hr i e.symm with q|q;exact hs q;omega)).trans (h.block i hi hs)⟩
theorem Frm.cel {S:Nat→Prop} {w w':World} (h:Frm S w w') {b:Nat} (hb:b<w.heap.size) (hs:¬S b) (o:Nat):w'.cell? ⟨b,o,none⟩=w.cell? ⟨b,o,none⟩:=by
 unfold World.cell?
 rw[h.block b hb hs]
theorem Frm.frz {S:Nat→Prop} {w w':World} (h:Frm S w w') {b:Nat} (hb:b<w.heap.size) (hs:¬S b) (o:Nat):w'.frozen? ⟨b,o,none⟩=w.frozen? ⟨b,o,none⟩:=by
 unfold World.frozen?
 rw[h.block b hb hs]
theorem Frm.lt {S:Nat→Prop} {w w':World} (h:Frm S w w') {n:Nat} (hn:n<w.heap.size):n<w'.heap.size:=Nat.lt_of_lt_of_le hn h.size
theorem Frm.far {S:Nat→Prop} {a w w':World} (hE:Ext a w) (h:Frm S w w') (hS:∀k,k<a.heap.size→¬S k):Ext a w':=
 ⟨h.os.trans hE.os,h.tape.trans hE.tape,h.output.trans hE.output,Nat.le_trans hE.size h.size,fun k hk=>(h.block k (Nat.lt_of_lt_of_le hk hE.size) (hS k hk)).trans (hE.block k hk)⟩
end Go.Proofs.YtlmeinikknoeeaaGreatDoor
namespace Go.Proofs.YtlmeinikknoeeaaGreatDoor
set_option linter.unusedVariables false
set_option linter.unnecessarySimpa false
set_option linter.unusedSimpArgs false
open Go.RowKit
theorem own_slice {w:World} {base size n:Nat} {e:TypeId} {v:Value} {xs:List Value} (h:w.ownsRow base e size v n xs):∃ao cv,v = .slice ao n cv:=by
 obtain⟨_,⟨rfl,rfl⟩|⟨g,cap,cur,rfl,_⟩⟩:=h
 ·exact⟨_,_,rfl⟩
 ·exact⟨_,_,rfl⟩
def sv (P:List (List UInt8)):List Value:=P.map fun l=>Value.string ⟨l.toArray⟩
theorem sv_app (P:List (List UInt8)) (x:List UInt8):sv (P ++ [x])=sv P ++ [.string ⟨x.toArray⟩]:=by simp[sv]
def RdS (ws:List (List UInt8)) (R off:Nat) (w:World):Prop:=R<w.heap.size∧∀i (h:i<ws.length),w.cell? ⟨R,off+i,none⟩=some (.string ⟨ws[i].toArray⟩)
theorem RdS.ext {ws:List (List UInt8)} {R off:Nat} {w w':World} (h:RdS ws R off w) (hE:Ext w w'):RdS ws R off w':=⟨hE.lt h.1,fun i hi=>(hE.cells _ _ h.1).trans (h.2 i hi)⟩
theorem RdS.drop {ws:List (List UInt8)} {R off:Nat} {w:World} (h:RdS ws R off w) (k:Nat):RdS (ws.drop k) R (off+k) w:=by
 refine⟨h.1,fun i hi=>?_⟩
 rw[List.length_drop]at hi
 have:=h.2 (k+i) (by omega)
 rw[←Nat.add_assoc]at this
 rw[List.getElem_drop]
 exact this
theorem RdS.of_own {w:World} {base n:Nat} {e:TypeId} {v:Value} {P:List (List UInt8)} (h:w.ownsRow base e 1 v n (sv P)) (hn:n=P.length) (hp:P≠[]):∃R cap,v = .slice (some ⟨R,0,none⟩) P.length cap∧P.length≤cap∧cap≤maxLen∧RdS P R 0 w∧base≤R:=by
 subst hn
 obtain⟨_,⟨_,h0⟩|⟨g,cap,cur,rfl,hb,hg,hc,hm,hs,ht⟩⟩:=h
 ·exact absurd (List.length_eq_zero_iff.1 h0) hp
 ·refine⟨g,cap,rfl,hc,hm,⟨?_,fun i hi=>?_⟩,hb⟩
  ·rcases Nat.lt_or_ge g w.heap.size with q|q
   ·exact q
   ·rw[Array.getElem?_eq_none q]at hg;cases hg
  ·have e1:cur[i]? = (sv P)[i]? :=by
    rw[←ht,Nat.mul_one,List.getElem?_take_of_lt hi,Array.getElem?_toList]
   have e2:w.cell? ⟨g,0+i,none⟩=cur[i]? :=by simp[World.cell?,hg]
   rw[e2,e1]
   simp[sv,hi]
end Go.Proofs.YtlmeinikknoeeaaGreatDoor
namespace Go.Proofs.YtlmeinikknoeeaaGreatDoor
set_option linter.unusedVariables false
set_option linter.unnecessarySimpa false
set_option linter.unusedSimpArgs false
open Go.RowKit
section
variable {α β:Type}
mutual
def mapT (f:α→β):Tr α→Tr β
 | .mk a l=>.mk (f a) (mapTs f l)
def mapTs (f:α→β):List (Tr α)→List (Tr β)
 | []=>[]
 | c::r=>mapT f c::mapTs f r
end
theorem mapTs_map (f:α→β):∀l:List (Tr α),mapTs f l=l.map (mapT f)
 | []=>rfl
 | c::r=>by rw[mapTs,mapTs_map f r,List.map_cons]
theorem mapTs_len (f:α→β) (l:List (Tr α)):(mapTs f l).length=l.length:=by rw[mapTs_map,List.length_map]
theorem szCs_le {l:List (Tr α)}:∀{c:Tr α},c∈l→szC c≤szCs l:=by
 induction l with
 | nil=>intro c h;cases h
 | cons x r ih=>
   intro c h
   rw[szCs]
   rcases List.mem_cons.1 h with rfl|h
   ·omega
   ·have:=ih h;omega
def Tr.a:Tr α→α
 | .mk a _=>a
def Tr.l:Tr α→List (Tr α)
 | .mk _ l=>l
theorem szC_lt {c t:Tr α} (h:c∈t.l):szC c<szC t:=by
 cases t with
 | mk a l=>rw[szC];have:szC c≤szCs l:=szCs_le h;omega
structure Shp (α:Type) where
 C:Nat
 ao:α→Option Addr
 cap:α→Nat
 cells:α→Nat→List Value
 len:∀a n,(cells a n).length=C
 ok:(Nat→Prop)→World→α→Prop
variable (S:Shp α)
def Shp.vals (t:Tr α):List Value:=S.cells t.a t.l.length
def RdT (A:Nat→Prop) (w:World) (ao:Option Addr) (cap:Nat) (l:List (Tr α)):Prop:=
 l.length≤cap∧cap≤maxLen∧(l≠[]→∃R off,ao=some ⟨R,off,none⟩∧A R∧R<w.heap.size∧∀i (h:i<l.length),w.rangeAt R (off+i*S.C) (S.vals l[i]))
mutual
def InT (A:Nat→Prop) (w:World):Tr α→Prop
 | .mk a l=>S.ok A w a∧RdT S A w (S.ao a) (S.cap a) l∧InTs A w l
def InTs (A:Nat→Prop) (w:World):List (Tr α)→Prop
 | []=>True
 | c::r=>InT A w c∧InTs A w r
end
theorem InTs.mem {A:Nat→Prop} {w:World}:∀{l:List (Tr α)},InTs S A w l→∀c∈l,InT S A w c
 | [],_,c,h=>by cases h
 | x::r,h,c,hc=>by
   rw[InTs]at h
   rcases List.mem_cons.1 hc with rfl|hc
   ·exact h.1
   ·exact InTs.mem h.2 c hc
theorem InTs.of {A:Nat→Prop} {w:World}:∀{l:List (Tr α)},(∀c∈l,InT S A w c)→InTs S A w l
 | [],_=>trivial
 | x::r,h=>by rw[InTs];exact⟨h x (by simp),InTs.of fun c hc=>h c (by simp[hc])⟩
def Kp (A:Nat→Prop) (w w':World):Prop:=w.heap.size≤w'.heap.size∧∀R o,A R→R<w.heap.size→w'.cell? ⟨R,o,none⟩=w.cell? ⟨R,o,none⟩
theorem Kp.ext {A:Nat→Prop} {w w':World} (h:Ext w w'):Kp A w w':=⟨h.size,fun R o _ hR=>h.cells R o hR⟩
theorem Kp.refl (A:Nat→Prop) (w:World):Kp A w w:=Kp.ext (Ext.refl w)
theorem Kp.trans {A:Nat→Prop} {a b c:World} (h:Kp A a b) (k:Kp A b c):Kp A a c:=
 ⟨Nat.le_trans h.1 k.1,fun R o hA hR=>(k.2 R o hA (Nat.lt_of_lt_of_le hR h.1)).trans (h.2 R o hA hR)⟩
theorem Kp.range {A:Nat→Prop} {w w':World} (h:Kp A w w') {R o:Nat} (hA:A R) (hR:R<w.heap.size) {cs:List Value} (hc:w.rangeAt R o cs):w'.rangeAt R o cs:=
 fun j v hv=>(h.2 R (o+j) hA hR).trans (hc j v hv)
theorem RdT.kp {A:Nat→Prop} {w w':World} (hK:Kp A w w') {ao:Option Addr} {cap:Nat} {l:List (Tr α)} (h:RdT S A w ao cap l):RdT S A w' ao cap l:=by
 refine⟨h.1,h.2.1,fun hl=>?_⟩
 obtain⟨R,off,e,hA,hR,hc⟩:=h.2.2 hl
 exact⟨R,off,e,hA,Nat.lt_of_lt_of_le hR hK.1,fun i hi=>hK.range hA hR (hc i hi)⟩
mutual
theorem InT.kp {A:Nat→Prop} {w w':World} (hK:Kp A w w') (hok:∀a,S.ok A w a→S.ok A w' a):∀{t:Tr α},InT S A w t→InT S A w' t
 | .mk a l,h=>by
   rw[InT]at h ⊢
   exact⟨hok a h.1,RdT.kp S hK h.2.1,InTs.kp hK hok h.2.2⟩
theorem InTs.kp {A:Nat→Prop} {w w':World} (hK:Kp A w w') (hok:∀a,S.ok A w a→S.ok A w' a):∀{l:List (Tr α)},InTs S A w l→InTs S A w' l
 | [],_=>trivial
 | c::r,h=>by
   rw[InTs]at h ⊢
   exact⟨InT.kp hK hok h.1,InTs.kp hK hok h.2⟩
end
theorem InT.parts {A:Nat→Prop} {w:World} {t:Tr α} (h:InT S A w t):S.ok A w t.a∧RdT S A w (S.ao t.a) (S.cap t.a) t.l∧∀c∈t.l,InT S A w c:=by
 cases t with
 | mk a l=>rw[InT]at h;exact⟨h.1,h.2.1,InTs.mem S h.2.2⟩
end
def Bs (s:List UInt8):Prop:=s.length≤9223372036854775806
def Bi (n:Int):Prop:= -9223372036854775808≤n∧n≤9223372036854775807
structure CdA where
 d:CdD
 ao:Option Addr
 cap:Nat
def cdS:Shp CdA where
 C:=7
 ao a:=a.ao
 cap a:=a.cap
 cells a n:=[.int .i64 a.d.k,.string ⟨a.d.col.toArray⟩,.string ⟨a.d.oth.toArray⟩,.int .i64 a.d.v.k,.int .i64 a.d.v.n,.string ⟨a.d.v.s.toArray⟩,.slice a.ao n a.cap]
 len _ _:=rfl
 ok _ _ a:=Bs a.d.col∧Bs a.d.oth∧Bs a.d.v.s∧Bi a.d.k∧Bi a.d.v.k∧Bi a.d.v.n
abbrev Cnd:=Tr CdA
abbrev InC (A:Nat→Prop) (w:World) (t:Cnd):Prop:=InT cdS A w t
theorem InC.kp {A:Nat→Prop} {w w':World} (hK:Kp A w w') {t:Cnd} (h:InC A w t):InC A w' t:=InT.kp cdS hK (fun _ h=>h) h
theorem InC.ext {A:Nat→Prop} {w w':World} {t:Cnd} (h:InC A w t) (hE:Ext w w'):InC A w' t:=h.kp (Kp.ext hE)
def TxA (A:Nat→Prop) (w:World) (ao:Option Addr) (cap:Nat) (l:List (List UInt8)):Prop:=
 l.length≤cap∧cap≤maxLen∧(∀s∈l,Bs s)∧(l≠[]→∃R off,ao=some ⟨R,off,none⟩∧A R∧RdS l R off w)
theorem TxA.kp {A:Nat→Prop} {w w':World} (hK:Kp A w w') {ao:Option Addr} {cap:Nat} {l:List (List UInt8)} (h:TxA A w ao cap l):TxA A w' ao cap l:=by
 refine⟨h.1,h.2.1,h.2.2.1,fun hl=>?_⟩
 obtain⟨R,off,e,hA,hR,hc⟩:=h.2.2.2 hl
 exact⟨R,off,e,hA,Nat.lt_of_lt_of_le hR hK.1,fun i hi=>(hK.2 R _ hA hR).trans (hc i hi)⟩
theorem TxA.ext {A:Nat→Prop} {w w':World} {ao:Option Addr} {cap:Nat} {l:List (List UInt8)} (h:TxA A w ao cap l) (hE:Ext w w'):TxA A w' ao cap l:=h.kp (Kp.ext hE)
theorem TxA.nil (A:Nat→Prop) (w:World):TxA A w none 0 []:=⟨Nat.le_refl _,by decide,fun _ h=>(by cases h),fun h=>absurd rfl h⟩
structure QnA where
 k:Int
 tb:List UInt8
 cols:List (List UInt8)
 ca:Option Addr
 cc:Nat
 nms:List (List UInt8)
 na:Option Addr
 nc:Nat
 cond:Cnd
 rel:Int
 fn:Int
 f:Int
 t:Int
 ao:Option Addr
 cap:Nat
def QnA.d (q:QnA):QnD:=⟨q.k,q.tb,q.cols,q.nms,mapT CdA.d q.cond,q.rel,q.fn,q.f,q.t⟩
def qnS:Shp QnA where
 C:=16
 ao a:=a.ao
 cap a:=a.cap
 cells a n:=[.int .i64 a.k,.string ⟨a.tb.toArray⟩,.slice a.ca a.cols.length a.cc,.slice a.na a.nms.length a.nc,.int .i64 a.cond.a.d.k,.string ⟨a.cond.a.d.col.toArray⟩,.string ⟨a.cond.a.d.oth.toArray⟩,.int .i64 a.cond.a.d.v.k,.int .i64 a.cond.a.d.v.n,.string ⟨a.cond.a.d.v.s.toArray⟩,.slice a.cond.a.ao a.cond.l.length a.cond.a.cap,
  .int .i64 a.rel,.int .i64 a.fn,.int .i64 a.f,.int .i64 a.t,.slice a.ao n a.cap]
 len _ _:=rfl
 ok A w a:=TxA A w a.ca a.cc a.cols∧TxA A w a.na a.nc a.nms∧InC A w a.cond∧Bs a.tb∧Bi a.k∧Bi a.rel∧Bi a.fn∧Bi a.f∧Bi a.t
abbrev Qry:=Tr QnA
abbrev InQ (A:Nat→Prop) (w:World) (t:Qry):Prop:=InT qnS A w t
theorem InQ.kp {A:Nat→Prop} {w w':World} (hK:Kp A w w') {t:Qry} (h:InQ A w t):InQ A w' t:=
 InT.kp qnS hK (fun a h=>⟨h.1.kp hK,h.2.1.kp hK,h.2.2.1.kp hK,h.2.2.2⟩) h
theorem InQ.ext {A:Nat→Prop} {w w':World} {t:Qry} (h:InQ A w t) (hE:Ext w w'):InQ A w' t:=h.kp (Kp.ext hE)
end Go.Proofs.YtlmeinikknoeeaaGreatDoor
namespace Go.Proofs.YtlmeinikknoeeaaGreatDoor
set_option linter.unusedVariables false
set_option linter.unnecessarySimpa false
set_option linter.unusedSimpArgs false
def ltQ (c:UInt8):Bool:=decide (97≤c.toNat∧c.toNat≤122)||decide (65≤c.toNat∧c.toNat≤90)
def rsvW:List (List UInt8):=
 [[115,99,97,110],[115,101,108,101,99,116],[111,102],[112,114,111,106,101,99,116],[114,101,110,97,109,101],[116,111],[106,111,105,110],[117,110,105,111,110],[101,120,99,101,112,116],[100,117,114,105,110,103],[103,114,111,117,112],[97,115],
  [99,111,117,110,116],[115,117,109],[109,105,110],[109,97,120],[114,101,108,97,116,101],[97,110,100],[111,114],[110,111,116],[97,108,119,97,121,115],[116,114,117,101],[102,97,108,115,101],[102,111,114,101,118,101,114]]
def wdC (c:UInt8):Bool:=ltQ c||isDg c||decide (c.toNat=95)
def nmH (s:List UInt8):Bool:=decide (1≤s.length)&&decide (s.length≤30)&&ltQ (s.headD 0)
def nmQ (s:List UInt8):Bool:=nmH s&&s.all wdC && !rsvW.contains s
def nmsQ (l:List (List UInt8)):Bool:=decide (∀i (h:i<l.length),nmQ l[i]=true∧∀k (hk:k<i),l[k]'(by omega)≠l[i])
def alQ (l:List (List UInt8)):Bool:=l.all nmQ
def vlQ (v:ValD):Bool:=
 if v.k=1 then decide (v.s = [])else if v.k=2 then decide (v.n=0)&&decide (v.s.length≤30)&&v.s.all (fun c=>decide (32≤c.toNat∧c.toNat≤126))
 else if v.k=3 then decide (v.s = [])&&decide (v.n=0∨v.n=1)else if v.k=4 then decide (v.s = [])&&decide (-62135596800≤v.n∧v.n≤253402300800)else false
def ValD.zero:ValD:=⟨0,0,[]⟩
def CdD.zero:CdD:=⟨0,[],[],ValD.zero⟩
def cdN (d:CdD) (n:Nat):Bool:=
 if d.k=1∨d.k=2 then decide (d.col≠[])&&decide (n=0)&&(if d.oth = []then vlQ d.v else decide (d.v=ValD.zero))
 else if 3≤d.k∧d.k≤6 then decide (d.col = [])&&decide (d.oth = [])&&decide (d.v=ValD.zero)&&decide (n=if d.k=3 then 0 else if d.k=4 then 1 else 2)
 else false
mutual
def fmdP:Tr CdD→Bool
 | .mk d l=>if d.k=1∨d.k=2 then nmQ d.col&&(decide (d.oth = [])||nmQ d.oth)else fmdPs l
def fmdPs:List (Tr CdD)→Bool
 | []=>true
 | c::r=>fmdP c&&fmdPs r
end
mutual
def fmdR:Tr CdD→Bool
 | .mk d l=>(if d.k=1∨d.k=2 then nmQ d.col&&(decide (d.oth = [])||nmQ d.oth)else true)&&fmdRs l
def fmdRs:List (Tr CdD)→Bool
 | []=>true
 | c::r=>fmdR c&&fmdRs r
end
def frmQ (c:Tr CdD):Bool:=decide (ndC cdN c 1≤60)
def cdQ (c:Tr CdD):Bool:=frmQ c&&fmdR c
mutual
theorem fmd_eq:∀(c:Tr CdD) (d:Nat),gdC cdN c d=true→fmdP c=fmdR c
 | .mk a l,d,h=>by
   rw[gdC]at h
   simp only[Bool.and_eq_true,decide_eq_true_eq]at h
   rw[fmdP,fmdR]
   by_cases q:a.k=1∨a.k=2
   ·have h0:l = []:=by
     have:=h.1.2
     unfold cdN at this
     rw[if_pos q]at this
     simp only[Bool.and_eq_true,decide_eq_true_eq]at this
     exact List.length_eq_zero_iff.1 this.1.2
    subst h0
    rw[if_pos q,if_pos q,fmdRs,Bool.and_true]
   ·rw[if_neg q,if_neg q,Bool.true_and,fmds_eq l (d+1) h.2]
theorem fmds_eq:∀(l:List (Tr CdD)) (d:Nat),gdCs cdN l d=true→fmdPs l=fmdRs l
 | [],_,_=>rfl
 | c::r,d,h=>by
   rw[gdCs,Bool.and_eq_true]at h
   rw[fmdPs,fmdRs,fmd_eq c d h.1,fmds_eq r d h.2]
end
theorem frm_gd {c:Tr CdD} (h:frmQ c=true):gdC cdN c 1=true∧szC c≤60:=(ndC_iff cdN c 1).1 (of_decide_eq_true h)
def czQ:Tr CdD→Bool
 | .mk d l=>decide (d=CdD.zero)&&decide (l.length=0)
def manyQ (k:Int):Nat:=if k=1 then 0 else if k=5∨k=6∨k=7∨k=10 then 2 else 1
def restQ (q:QnD):Bool:=
 (decide (q.k=1)||decide (q.tb = []))&&(decide (q.k=3∨q.k=4∨q.k=9)||decide (q.cols = []))&&(decide (q.k=4∨q.k=9)||decide (q.nms = []))&&(decide (q.k=2)||czQ q.cond) &&
   (decide (q.k=10)||decide (q.rel=0))&&(decide (q.k=9)||decide (q.fn=0))&&(decide (q.k=8)||(decide (q.f=0)&&decide (q.t=0)))
def ownQ (q:QnD):Bool:=
 if q.k=1 then nmQ q.tb else if q.k=2 then cdQ q.cond else if q.k=3 then decide (q.cols≠[])&&nmsQ q.cols
 else if q.k=4 then decide (q.cols≠[])&&nmsQ q.cols&&decide (q.nms.length=q.cols.length)&&alQ q.nms
 else if q.k=8 then decide (-62135596800≤q.f)&&decide (q.f<q.t)&&decide (q.t≤253402300800)
 else if q.k=9 then nmsQ q.cols&&decide (1≤q.fn)&&decide (q.fn≤4)&&decide (q.nms.length=if q.fn=1 then 1 else 2)&&alQ q.nms
 else if q.k=10 then decide (1≤q.rel)&&decide (q.rel≤8191)else true
def qnN (q:QnD) (n:Nat):Bool:=decide (1≤q.k∧q.k≤10)&&decide (n=manyQ q.k)&&restQ q&&ownQ q
def vdQ (q:Tr QnD):Bool:=decide (ndC qnN q 1≤60)
theorem alq_take {α:Type} (f:α→Bool) (l:List α) (j:Nat) (hj:j<l.length):(l.take (j+1)).all f=((l.take j).all f&&f l[j]):=by
 rw[List.take_succ_eq_append_getElem hj,List.all_append];simp
theorem alq_no {α:Type} {f:α→Bool} {l:List α} (j:Nat) (hj:j<l.length) (h:f l[j]=false):l.all f=false:=by
 rw[List.all_eq_false];exact⟨l[j],List.getElem_mem _,by simp[h]⟩
end Go.Proofs.YtlmeinikknoeeaaGreatDoor
