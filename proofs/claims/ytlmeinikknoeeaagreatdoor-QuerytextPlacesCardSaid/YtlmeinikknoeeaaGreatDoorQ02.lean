/- Queries, plainly: the parser, over tokens. No program in sight. -/
import Derived.Test.YtlmeinikknoeeaaGreatDoorQ00
import Derived.Test.YtlmeinikknoeeaaGreatDoorQ01
import Derived.Lib.ItoaNum
import Derived.StillTailTactics
namespace Go.Proofs.YtlmeinikknoeeaaGreatDoor
set_option linter.unusedVariables false
set_option linter.unnecessarySimpa false
set_option linter.unusedSimpArgs false
structure TkD where
 k:Int
 tx:List UInt8
 v:ValD
 ln:Int
 cl:Int
inductive Rs (α:Type) where
 | ok (a:α) (i:Nat)
 | bad (l c e:Int)
def Rs.bind {α β:Type} (r:Rs α) (f:α→Nat→Rs β):Rs β:=
 match r with
 | .ok a i=>f a i
 | .bad l c e=>.bad l c e
abbrev wScan:List UInt8:=[115,99,97,110]
abbrev wOf:List UInt8:=[111,102]
abbrev wTo:List UInt8:=[116,111]
abbrev wAs:List UInt8:=[97,115]
abbrev wAnd:List UInt8:=[97,110,100]
abbrev wOr:List UInt8:=[111,114]
abbrev wNot:List UInt8:=[110,111,116]
abbrev wAlways:List UInt8:=[97,108,119,97,121,115]
abbrev wTrue:List UInt8:=[116,114,117,101]
abbrev wFalse:List UInt8:=[102,97,108,115,101]
abbrev wForever:List UInt8:=[102,111,114,101,118,101,114]
abbrev wCount:List UInt8:=[99,111,117,110,116]
abbrev wLp:List UInt8:=[40]
abbrev wRp:List UInt8:=[41]
abbrev wCm:List UInt8:=[44]
abbrev wLt:List UInt8:=[60]
abbrev wEq:List UInt8:=[61]
def kndP (s:List UInt8):Int:=if s = [115,99,97,110]then 1 else if s = [115,101,108,101,99,116]then 2 else if s = [112,114,111,106,101,99,116]then 3 else if s = [114,101,110,97,109,101]then 4 else if s = [106,111,105,110]then 5 else if s = [117,110,105,111,110]then 6 else if s = [101,120,99,101,112,116]then 7 else if s = [100,117,114,105,110,103]then 8 else if s = [103,114,111,117,112]then 9 else if s = [114,101,108,97,116,101]then 10 else 0
def fnP (s:List UInt8):Int:=if s = [99,111,117,110,116]then 1 else if s = [115,117,109]then 2 else if s = [109,105,110]then 3 else if s = [109,97,120]then 4 else 0
def relW:List (List UInt8):=[[98,101,102,111,114,101],[109,101,101,116,115],[111,118,101,114,108,97,112,115],[115,116,97,114,116,115],[100,117,114,105,110,103],[102,105,110,105,115,104,101,115],[101,113,117,97,108,115],[102,105,110,105,115,104,101,100,98,121],[99,111,110,116,97,105,110,115],[115,116,97,114,116,101,100,98,121],[111,118,101,114,108,97,112,112,101,100,98,121],[109,101,116,98,121],[97,102,116,101,114]]
def relP (s:List UInt8):Option Nat:=relW.findIdx? (· == s)
section
variable (L:List TkD)
def wrP {α:Type} (e:Int) (i:Nat):Rs α:=
 match L[i]? with
 | some t=>.bad t.ln t.cl e
 | none=>.bad 0 0 4
def pkP (i:Nat):Rs TkD:=
 match L[i]? with
 | some t=>.ok t i
 | none=>.bad 0 0 4
def isP (s:List UInt8) (i:Nat):Bool:=
 match L[i]? with
 | some t=>decide (t.k≠2)&&decide (t.tx=s)
 | none=>false
def exP (s:List UInt8) (i:Nat):Rs Unit:=if isP L s i=true then .ok () (i+1)else wrP L 3 i
def naP (i:Nat):Rs (List UInt8):=(pkP L i).bind fun t i=>if t.k=1∧nmQ t.tx=true then .ok t.tx (i+1)else wrP L 3 i
def nasL:Nat→List (List UInt8)→Nat→Rs (List (List UInt8))
 | 0,acc,i=>.ok acc i
 | f+1,acc,i=>if isP L wCm i=true then(naP L (i+1)).bind fun s j=>nasL f (acc ++ [s]) j else .ok acc i
def nasP (i:Nat):Rs (List (List UInt8)):=(naP L i).bind fun s j=>nasL L L.length [s] j
def tmP (i:Nat):Rs Int:=(pkP L i).bind fun t i=>if isP L wForever i=true then .ok 253402300800 (i+1)else if t.k=2∧t.v.k=4 then .ok t.v.n (i+1)else wrP L 3 i
def opD (k:Int):CdD:=⟨k,[],[],ValD.zero⟩
def chL (w:List UInt8) (k:Int) (op:Nat→Rs (Tr CdD)):Nat→Tr CdD→Nat→Rs (Tr CdD)
 | 0,c,i=>.ok c i
 | f+1,c,i=>if isP L w i=true then(op (i+1)).bind fun d j=>chL w k op f (.mk (opD k) [c,d]) j else .ok c i
def chP (w:List UInt8) (k:Int) (op:Nat→Rs (Tr CdD)) (i:Nat):Rs (Tr CdD):=(op i).bind fun c j=>chL L w k op L.length c j
def rhP (k:Int) (col:List UInt8) (i:Nat):Rs (Tr CdD):=
 (pkP L i).bind fun t i=>
   if t.k=2 then .ok (.mk ⟨k,col,[],t.v⟩ []) (i+1)
   else if isP L wTrue i=true then .ok (.mk ⟨k,col,[],⟨3,1,[]⟩⟩ []) (i+1)
   else if isP L wFalse i=true then .ok (.mk ⟨k,col,[],⟨3,0,[]⟩⟩ []) (i+1)
   else if isP L wForever i=true then .ok (.mk ⟨k,col,[],⟨4,253402300800,[]⟩⟩ []) (i+1)
   else(naP L i).bind fun s j=>.ok (.mk ⟨k,col,s,ValD.zero⟩ []) j
def cmP (i:Nat):Rs (Tr CdD):=
 (naP L i).bind fun col i=>if isP L wLt i=true then rhP L 2 col (i+1)else(exP L wEq i).bind fun _ i=>rhP L 1 col i
def unP:Nat→Nat→Rs (Tr CdD)
 | 0,i=>(pkP L i).bind fun _ i=>if isP L wNot i=true∨isP L wLp i=true then wrP L 5 i else if isP L wAlways i=true then .ok (.mk (opD 3) []) (i+1)else cmP L i
 | k+1,i=>(pkP L i).bind fun _ i=>
   if isP L wNot i=true then(unP k (i+1)).bind fun c j=>.ok (.mk (opD 4) [c]) j
   else if isP L wLp i=true then(chP L wOr 6 (chP L wAnd 5 (unP k)) (i+1)).bind fun c j=>(exP L wRp j).bind fun _ j=>.ok c j
   else if isP L wAlways i=true then .ok (.mk (opD 3) []) (i+1)else cmP L i
def cdP (k:Nat) (i:Nat):Rs (Tr CdD):=chP L wOr 6 (chP L wAnd 5 (unP L k)) i
def QnD.zero:QnD:=⟨0,[],[],[],.mk CdD.zero [],0,0,0,0⟩
def ofP (qp:Nat→Rs (Tr QnD)) (i:Nat):Rs (List (Tr QnD)):=(exP L wOf i).bind fun _ i=>(qp i).bind fun q j=>.ok [q] j
def prP (qp:Nat→Rs (Tr QnD)) (i:Nat):Rs (List (Tr QnD)):=
 (exP L wLp i).bind fun _ i=>(qp i).bind fun a i=>(exP L wCm i).bind fun _ i=>(qp i).bind fun b i=>(exP L wRp i).bind fun _ i=>.ok [a,b] i
def rnL:Nat→List (List UInt8)→List (List UInt8)→Nat→Rs (List (List UInt8)×List (List UInt8))
 | 0,cs,ns,i=>.ok (cs,ns) i
 | f+1,cs,ns,i=>(naP L i).bind fun a i=>(exP L wTo i).bind fun _ i=>(naP L i).bind fun b i=>if isP L wCm i=true then rnL f (cs ++ [a]) (ns ++ [b]) (i+1)else .ok (cs ++ [a],ns ++ [b]) i
def rlL:Nat→Nat→Nat→Rs Nat
 | 0,r,i=>.ok r i
 | f+1,r,i=>(pkP L i).bind fun t i=>
   match (if t.k=1 then relP t.tx else none)with
   | none=>wrP L 3 i
   | some z=>if isP L wCm (i+1)=true then rlL f (r ||| 2 ^ z) (i+2)else .ok (r ||| 2 ^ z) (i+1)
def grP (i:Nat):Rs (List (List UInt8)×Int×List (List UInt8)):=
 (pkP L i).bind fun t i=>(if t.k≠1∨fnP t.tx=0 then nasP L i else .ok [] i).bind fun cs i=>(pkP L i).bind fun u i=>
   if u.k≠1∨fnP u.tx=0 then wrP L 3 i else(if fnP u.tx=1 then .ok [] (i+1)else(naP L (i+1)).bind fun s j=>.ok [s] j).bind fun ns i=>(exP L wAs i).bind fun _ i=>(naP L i).bind fun s i=>.ok (cs,fnP u.tx,ns ++ [s]) i
def bdP (qp:Nat→Rs (Tr QnD)) (k:Int) (i:Nat):Rs (Tr QnD):=
 if k=1 then(naP L i).bind fun s i=>.ok (.mk {QnD.zero with k:=1,tb:=s} []) i
 else if k=2 then(exP L wLp i).bind fun _ i=>(cdP L 12 i).bind fun c i=>(exP L wRp i).bind fun _ i=>(ofP L qp i).bind fun l i=>.ok (.mk {QnD.zero with k:=2,cond:=c} l) i
 else if k=3 then(nasP L i).bind fun s i=>(ofP L qp i).bind fun l i=>.ok (.mk {QnD.zero with k:=3,cols:=s} l) i
 else if k=4 then(rnL L L.length [] [] i).bind fun s i=>(ofP L qp i).bind fun l i=>.ok (.mk {QnD.zero with k:=4,cols:=s.1,nms:=s.2} l) i
 else if k=8 then(tmP L i).bind fun f i=>(exP L wTo i).bind fun _ i=>(tmP L i).bind fun t i=>(ofP L qp i).bind fun l i=>.ok (.mk {QnD.zero with k:=8,f:=f,t:=t} l) i
 else if k=9 then(grP L i).bind fun g i=>(ofP L qp i).bind fun l i=>.ok (.mk {QnD.zero with k:=9,cols:=g.1,fn:=g.2.1,nms:=g.2.2} l) i
 else if k=10 then(rlL L L.length 0 i).bind fun r i=>(prP L qp i).bind fun l i=>.ok (.mk {QnD.zero with k:=10,rel:=(r:Int)} l) i
 else(prP L qp i).bind fun l i=>.ok (.mk {QnD.zero with k:=k} l) i
def qrP:Nat→Nat→Rs (Tr QnD)
 | 0,i=>(pkP L i).bind fun t i=>if t.k≠1∨kndP t.tx=0 then wrP L 3 i else wrP L 5 i
 | k+1,i=>(pkP L i).bind fun t i=>if t.k≠1∨kndP t.tx=0 then wrP L 3 i else bdP L (qrP k) (kndP t.tx) (i+1)
def alP {α:Type} (r:Rs α):Rs α:=r.bind fun a i=>if i<L.length then wrP L 3 i else .ok a i
end
end Go.Proofs.YtlmeinikknoeeaaGreatDoor
namespace Go.Proofs.YtlmeinikknoeeaaGreatDoor
def dg1 (n:Nat):UInt8:=UInt8.ofNat (48+n%10)
def padN:Nat→Nat→List UInt8
 | 0,_=>[]
 | k+1,n=>padN k (n/10) ++ [dg1 n]
theorem padN_length (k n:Nat):(padN k n).length=k:=by
 induction k generalizing n with
 | zero=>rfl
 | succ k ih=>simp[padN,ih]
theorem dg1_toNat (n:Nat):(dg1 n).toNat=48+n%10:=by
 unfold dg1
 have:n%10<10:=Nat.mod_lt _ (by decide)
 rw[UInt8.toNat_ofNat'];omega
theorem padN_cons (k n:Nat):padN (k+1) n=dg1 (n/10 ^ k)::padN k n:=by
 induction k generalizing n with
 | zero=>simp[padN]
 | succ k ih=>
   rw[padN,ih (n/10)]
   show dg1 (n/10/10 ^ k)::(padN k (n/10) ++ [dg1 n])=_
   rw[Nat.div_div_eq_div_mul,Nat.pow_succ,Nat.mul_comm 10]
   rfl
def itx (n k:Nat):List UInt8:=padN (max (Lib.nDigits n) k) n
theorem nDigits_le {n k:Nat} (hk:1≤k) (h:n<10 ^ k):Lib.nDigits n≤k:=by
 induction k generalizing n with
 | zero=>omega
 | succ k ih=>
   by_cases h10:n<10
   ·rw[Lib.nDigits_small h10];omega
   ·rw[Lib.nDigits_big h10]
    rw[Nat.pow_succ]at h
    rcases Nat.eq_zero_or_pos k with rfl|hk0
    ·simp at h;omega
    ·have:=ih (n:=n/10) hk0 (by omega)
     omega
theorem itx_small {n k:Nat} (hk:1≤k) (h:n<10 ^ k):itx n k=padN k n:=by
 unfold itx
 rw[Nat.max_eq_right (nDigits_le hk h)]
theorem pow_nDigits (n:Nat) (j:Nat) (hj:j<Lib.nDigits n) (hn:0<n):0<n/10 ^ j:=by
 have:10 ^ j≤n:=by
  induction j generalizing n with
  | zero=>simp;omega
  | succ j ih=>
    by_cases h:n<10
    ·rw[Lib.nDigits_small h]at hj;omega
    ·rw[Lib.nDigits_big h]at hj
     have:=ih (n/10) (by omega) (by omega)
     rw[Nat.pow_succ];omega
 exact Nat.div_pos this (Nat.pow_pos (by decide))
theorem nDigits_20 (n:Nat) (h:n<18446744073709551616):Lib.nDigits n≤20:=nDigits_le (by decide) (by omega)
theorem div_zero_of {n j:Nat} (hn:0<n) (h:n/10 ^ j=0):Lib.nDigits n≤j:=by
 rcases Nat.lt_or_ge j (Lib.nDigits n)with q|q
 ·have:=pow_nDigits n j q hn;omega
 ·exact q
def txC (n j:Nat):Array Value:=(List.replicate (24-j) (Value.int .u8 0)++(padN j n).map fun c=>Value.int .u8 c.toNat).toArray
theorem txC_size (n j:Nat) (h:j≤24):(txC n j).size=24:=by simp[txC,padN_length];omega
theorem txC_zero (n:Nat):txC n 0 = #[.int .u8 0,.int .u8 0,.int .u8 0,.int .u8 0,.int .u8 0,.int .u8 0,.int .u8 0,.int .u8 0,.int .u8 0,.int .u8 0,.int .u8 0,.int .u8 0,.int .u8 0,.int .u8 0,.int .u8 0,.int .u8 0,.int .u8 0,.int .u8 0,.int .u8 0,.int .u8 0,.int .u8 0,.int .u8 0,.int .u8 0,.int .u8 0]:=rfl
theorem txC_step (n j:Nat) (h:j<24):(txC n j).setIfInBounds (23-j) (.int .u8 ((48+n/10 ^ j%10:Nat):Int))=txC n (j+1):=by
 unfold txC
 rw[padN_cons,List.setIfInBounds_toArray]
 congr 1
 rw[show 24-j=(24-(j+1))+1 from by omega,List.replicate_succ',List.append_assoc,List.set_append_right _ _ (by simp<;>omega)]
 have e:23-j-(List.replicate (24-(j+1)) (Value.int .u8 0)).length=0:=by simp<;>omega
 rw[e]
 simp[dg1_toNat]
theorem txC_step' (n j q:Nat) (h:j<24) (hq:q=n/10 ^ j):(txC n j).setIfInBounds (24-j-1) (.int .u8 (48+(q:Int)%10))=txC n (j+1):=by
 rw[←txC_step n j h,hq,show 24-j-1=23-j from by omega]
 congr 2
theorem div_pow_succ (n j q:Nat) (hq:q=n/10 ^ j):q/10=n/10 ^ (j+1):=by
 rw[hq,Nat.div_div_eq_div_mul,Nat.pow_succ]
theorem txC_get (n j i:Nat) (hj:j≤24) (hi:i<24):∃x:Int,(txC n j)[i]? = some (.int .u8 x):=by
 have hs:=txC_size n j hj
 rw[Array.getElem?_eq_getElem (by omega)]
 unfold txC
 simp only[List.getElem_toArray]
 rw[List.getElem_append]
 split
 ·exact⟨0,by simp⟩
 ·exact⟨_,by simp;rfl⟩
theorem txC_at (n j i:Nat) (_:j≤24) (c:UInt8) (h:(padN j n)[i]? = some c):(txC n j)[24-j+i]? = some (.int .u8 c.toNat):=by
 unfold txC
 simp only[List.getElem?_toArray]
 rw[List.getElem?_append_right (by simp)]
 simp[h]
end Go.Proofs.YtlmeinikknoeeaaGreatDoor
namespace Go.Proofs.YtlmeinikknoeeaaGreatDoor
set_option linter.unusedVariables false
set_option linter.unnecessarySimpa false
set_option linter.unusedSimpArgs false
def cnB (c:UInt8):Bool:=ltQ c||isDg c||decide (c.toNat=58)||decide (c.toNat=45)
def blB (c:UInt8):Bool:=decide (c.toNat=32)||decide (c.toNat=9)||decide (c.toNat=10)
def syB (c:UInt8):Bool:=decide (c.toNat=40)||decide (c.toNat=41)||decide (c.toNat=44)||decide (c.toNat=60)||decide (c.toNat=61)
def qtL:List UInt8→List UInt8→Option (List UInt8×List UInt8)
 | [],_=>none
 | c::r,acc=>
   if c.toNat=34 then some (acc,r)else if c.toNat<32∨126<c.toNat then none
   else if c.toNat=92 then
    match r with
    | []=>none
    | d::r'=>if d.toNat=34∨d.toNat=92 then qtL r' (acc ++ [d])else none
   else qtL r (acc ++ [c])
termination_by l=>l.length
def sgQ (t:List UInt8):Bool:=decide (t.head? = some 45)
def dgQ (t:List UInt8):List UInt8:=if sgQ t=true then t.drop 1 else t
def nvQ (t:List UInt8):Int:=if sgQ t=true then -(val (dgQ t):Int)else(val (dgQ t):Int)
section
variable (mom:List UInt8→Option Int)
def nmT (t:List UInt8):Sum Int ValD:=
 match mom t with
 | some n=>.inr ⟨4,n,[]⟩
 | none=>if dgQ t = []∨(dgQ t).all isDg=false then .inl 3 else if -9223372036854775808≤nvQ t∧nvQ t≤9223372036854775807 then .inr ⟨1,nvQ t,[]⟩else .inl 9
inductive TkR where
 | bad (e:Int)
 | ok (k:Int) (tx:List UInt8) (v:ValD) (n:Nat)
def tkT:List UInt8→TkR
 | []=>.bad 3
 | c::r=>
   if ltQ c=true then .ok 1 ((c::r).takeWhile wdC) ValD.zero ((c::r).takeWhile wdC).length
   else if (isDg c||decide (c.toNat=45))=true then
    match nmT mom ((c::r).takeWhile cnB)with
    | .inl e=>.bad e
    | .inr v=>.ok 2 ((c::r).takeWhile cnB) v ((c::r).takeWhile cnB).length
   else if c.toNat=34 then
    match qtL r []with
    | none=>.bad 3
    | some (a,x)=>.ok 2 [] ⟨2,0,a⟩ ((c::r).length-x.length)
   else if syB c=true then .ok 3 [c] ValD.zero 1
   else .bad 3
inductive LxR where
 | bad (l c e:Int)
 | ok (L:List TkD)
def lexL:Nat→List UInt8→Int→Int→List TkD→LxR
 | 0,_,_,_,acc=>.ok acc
 | f+1,[],_,_,acc=>.ok acc
 | f+1,c::r,ln,cl,acc=>
   if c.toNat=10 then lexL f r (ln+1) 1 acc
   else if blB c=true then lexL f r ln (cl+1) acc
   else match tkT mom (c::r)with
    | .bad e=>.bad ln cl e
    | .ok k tx v n=>lexL f ((c::r).drop n) ln (cl+n) (acc ++ [⟨k,tx,v,ln,cl⟩])
def lexT (s:List UInt8):LxR:=if 65536<s.length then .bad 0 0 5 else lexL mom s.length s 1 1 []
def reP {α:Type} (p:List TkD→Nat→Rs α) (s:List UInt8):Rs α:=
 match lexT mom s with
 | .bad l c e=>.bad l c e
 | .ok L=>alP L (p L 0)
def paQ (s:List UInt8):Rs (Tr QnD):=(reP mom (fun L=>qrP L 12) s).bind fun q i=>if vdQ q=true then .ok q i else .bad 0 0 1
end
theorem qtL_len:∀(n:Nat) (l acc a x:List UInt8),l.length=n→qtL l acc=some (a,x)→x.length<l.length
 | n,[],acc,a,x,_,h=>by unfold qtL at h;cases h
 | n,c::r,acc,a,x,hn,h=>by
   unfold qtL at h
   split at h
   ·injection h with h
    rw[←(Prod.mk.inj h).2]
    simp
   ·split at h
    ·cases h
    ·split at h
     ·cases r with
      | nil=>cases h
      | cons d r'=>
        simp only at h
        split at h
        ·have:=qtL_len (n-2) r' _ a x (by simp at hn;omega) h
         simp only[List.length_cons]
         omega
        ·cases h
     ·have:=qtL_len (n-1) r _ a x (by simp at hn;omega) h
      simp only[List.length_cons]
      omega
theorem tw_head {p:UInt8→Bool} {c:UInt8} {r:List UInt8} (h:p c=true):(c::r).takeWhile p=c::r.takeWhile p:=by rw[List.takeWhile_cons,if_pos h]
theorem tw_all (p:UInt8→Bool) (l:List UInt8):(l.takeWhile p).all p=true:=by
 induction l with
 | nil=>rfl
 | cons c r ih=>
   rw[List.takeWhile_cons]
   split
   ·rename_i h;rw[List.all_cons,h,ih];rfl
   ·rfl
theorem tw_len (p:UInt8→Bool) (l:List UInt8):(l.takeWhile p).length≤l.length:=by
 induction l with
 | nil=>exact Nat.le_refl _
 | cons c r ih=>
   rw[List.takeWhile_cons]
   split
   ·simp only[List.length_cons];omega
   ·exact Nat.zero_le _
theorem lt_wd {c:UInt8} (h:ltQ c=true):wdC c=true:=by unfold wdC;rw[h];rfl
theorem dg_cn {c:UInt8} (h:(isDg c||decide (c.toNat=45))=true):cnB c=true:=by
 unfold cnB
 rw[Bool.or_eq_true]at h
 rcases h with h|h<;>rw[h]<;>simp
theorem tkT_n {mom:List UInt8→Option Int} {s:List UInt8} {k:Int} {tx:List UInt8} {v:ValD} {n:Nat} (h:tkT mom s = .ok k tx v n):1≤n∧n≤s.length:=by
 cases s with
 | nil=>cases h
 | cons c r=>
   rw[tkT]at h
   split at h
   ·rename_i hc
    injection h with h1 h2 h3 h4
    rw[←h4]
    refine⟨?_,tw_len _ _⟩
    rw[tw_head (lt_wd hc)]
    simp
   ·split at h
    ·rename_i hc
     split at h
     ·cases h
     ·injection h with h1 h2 h3 h4
      rw[←h4]
      refine⟨?_,tw_len _ _⟩
      rw[tw_head (dg_cn hc)]
      simp
    ·split at h
     ·split at h
      ·cases h
      ·rename_i a x hq
       injection h with h1 h2 h3 h4
       have:=qtL_len _ _ _ _ _ rfl hq
       rw[←h4]
       simp only[List.length_cons]
       omega
     ·split at h
      ·injection h with h1 h2 h3 h4
       rw[←h4]
       simp
      ·cases h
theorem tkT_bad {mom:List UInt8→Option Int} {s:List UInt8} {e:Int} (h:tkT mom s = .bad e):e=3∨e=9:=by
 cases s with
 | nil=>injection h with h;exact .inl h.symm
 | cons c r=>
   rw[tkT]at h
   split at h
   ·cases h
   ·split at h
    ·split at h
     ·rename_i e' he
      injection h with h
      unfold nmT at he
      split at he
      ·cases he
      ·split at he
       ·injection he with he;left;omega
       ·split at he
        ·cases he
        ·injection he with he;right;omega
     ·cases h
    ·split at h
     ·split at h
      ·injection h with h;exact .inl h.symm
      ·cases h
     ·split at h
      ·cases h
      ·injection h with h;exact .inl h.symm
theorem lexL_fuel {mom:List UInt8→Option Int}:∀(f g:Nat) (s:List UInt8) (ln cl:Int) (acc:List TkD),s.length≤f→s.length≤g→lexL mom f s ln cl acc=lexL mom g s ln cl acc
 | 0,0,s,ln,cl,acc,_,_=>rfl
 | 0,g+1,s,ln,cl,acc,h,_=>by
   obtain rfl:s = []:=List.length_eq_zero_iff.1 (by omega)
   rw[lexL,lexL]
 | f+1,0,s,ln,cl,acc,_,h=>by
   obtain rfl:s = []:=List.length_eq_zero_iff.1 (by omega)
   rw[lexL,lexL]
 | f+1,g+1,[],ln,cl,acc,_,_=>by rw[lexL,lexL]
 | f+1,g+1,c::r,ln,cl,acc,h1,h2=>by
   simp only[List.length_cons]at h1 h2
   rw[lexL,lexL]
   split
   ·exact lexL_fuel f g r _ _ _ (by omega) (by omega)
   ·split
    ·exact lexL_fuel f g r _ _ _ (by omega) (by omega)
    ·split
     ·rfl
     ·rename_i k tx v n h
      have:=tkT_n h
      refine lexL_fuel f g _ _ _ _ ?_ ?_<;>(rw[List.length_drop];simp only[List.length_cons]at *;omega)
end Go.Proofs.YtlmeinikknoeeaaGreatDoor
namespace Go.Proofs.YtlmeinikknoeeaaGreatDoor
set_option maxRecDepth 100000
set_option maxHeartbeats 400000
set_option linter.unusedVariables false
set_option linter.unnecessarySimpa false
set_option linter.unusedSimpArgs false
open Go.RowKit
def tkC (t:TkD):List Value:=[.int .i64 t.k,.string ⟨t.tx.toArray⟩,.int .i64 t.v.k,.int .i64 t.v.n,.string ⟨t.v.s.toArray⟩,.int .i64 t.ln,.int .i64 t.cl]
def flV (l c e:Int):Value:=.iface 135 (.agg #[.int .i64 l,.int .i64 c,.int .i64 e])
def RsvB (B:Nat) (w:World):Prop:=∃R off,w.cell? ⟨1,0,none⟩=some (.slice (some ⟨R,off,none⟩) 24 24)∧RdS rsvW R off w∧1<w.heap.size∧R<B∧1<B
theorem RsvB.rsv {B:Nat} {w:World} (h:RsvB B w):Rsv w:=by
 obtain⟨R,off,h1,h2,h3,_⟩:=h
 exact⟨R,off,h1,h2,h3⟩
theorem RsvB.frm {B:Nat} {S:Nat→Prop} {w w':World} (h:RsvB B w) (hF:Frm S w w') (hS:∀k,S k→B≤k):RsvB B w':=by
 obtain⟨R,off,h1,h2,h3,h4,h5⟩:=h
 exact⟨R,off,(hF.cel h3 (fun e=>absurd (hS _ e) (by omega)) _).trans h1,⟨hF.lt h2.1,fun i hi=>(hF.cel h2.1 (fun e=>absurd (hS _ e) (by omega)) _).trans (h2.2 i hi)⟩,hF.lt h3,h4,h5⟩
theorem RsvB.ext {B:Nat} {w w':World} (h:RsvB B w) (hE:Ext w w'):RsvB B w':=h.frm (S:=fun _=>False) (Frm.of_ext hE) (fun _ e=>e.elim)
structure Psr (L:List TkD) (ao:Option Addr) (cap B i:Nat) (w:World):Prop where
 hB:B<w.heap.size
 c0:w.cell? ⟨B,0,none⟩=some (.slice ao L.length cap)
 c1:w.cell? ⟨B,1,none⟩=some (.int .i64 (i:Int))
 f1:w.frozen? ⟨B,1,none⟩=false
 hi:i≤L.length
 hl:L.length≤70000
 hc:L.length≤cap∧cap≤maxLen
 tk:∀j (h:j<L.length),∃R,ao=some ⟨R,0,none⟩∧R<B∧R<w.heap.size∧w.rangeAt R (j*7) (tkC L[j])
 bd:∀t∈L,Bs t.tx∧Bs t.v.s∧Bi t.k∧Bi t.v.k∧Bi t.v.n
 rv:RsvB B w
theorem Psr.ext {L:List TkD} {ao:Option Addr} {cap B i:Nat} {w w':World} (h:Psr L ao cap B i w) (hE:Ext w w'):Psr L ao cap B i w':=
 ⟨hE.lt h.hB,(hE.cells _ _ h.hB).trans h.c0,(hE.cells _ _ h.hB).trans h.c1,(hE.frozens _ _ h.hB).trans h.f1,h.hi,h.hl,h.hc,fun j hj=>by
   obtain⟨R,e,n,l,r⟩:=h.tk j hj
   exact⟨R,e,n,hE.lt l,fun k v hv=>(hE.cells _ _ l).trans (r k v hv)⟩,h.bd,h.rv.ext hE⟩
theorem Psr.go {L:List TkD} {ao:Option Addr} {cap B i j:Nat} {w w':World} (h:Psr L ao cap B i w) (hE:Ext w w') (hj:j≤L.length) {x:Int} (hx:x=(j:Int)):Psr L ao cap B j (w'.setCell ⟨B,1,none⟩ (.int .i64 x))∧Frm (fun k=>k=B) w (w'.setCell ⟨B,1,none⟩ (.int .i64 x)):=by
 subst hx
 have q:=h.ext hE
 have hF:Frm (fun k=>k=B) w' (w'.setCell ⟨B,1,none⟩ (.int .i64 (j:Int))):=Frm.setCell (Frm.refl (fun k=>k=B) w') (p:=⟨B,1,none⟩) (.inl rfl) _
 refine⟨⟨hF.lt q.hB,?_,?_,?_,hj,h.hl,h.hc,fun k hk=>?_,h.bd,q.rv.frm hF (fun k e=>by omega)⟩,(Frm.of_ext hE).trans hF⟩
 ·rw[World.cell?_setCell_other _ _ _ _ (by simp)];exact q.c0
 ·exact World.cell?_setCell_same _ _ _ q.c1
 ·rw[World.frozen?_setCell];exact q.f1
 ·obtain⟨R,e,n,l,r⟩:=q.tk k hk
  exact⟨R,e,n,hF.lt l,fun o v hv=>(hF.cel l (by omega) _).trans (r o v hv)⟩
theorem Psr.mv {L:List TkD} {ao:Option Addr} {cap B i j:Nat} {w w3 w':World} (h:Psr L ao cap B i w) (hF:Frm (fun k=>k=B) w w') (h3:Psr L ao cap B j w3) (hb:w'.heap[B]? = w3.heap[B]?):Psr L ao cap B j w':=by
 have hc:∀o,w'.cell? ⟨B,o,none⟩=w3.cell? ⟨B,o,none⟩:=fun o=>by unfold World.cell?;rw[hb]
 have hf:∀o,w'.frozen? ⟨B,o,none⟩=w3.frozen? ⟨B,o,none⟩:=fun o=>by unfold World.frozen?;rw[hb]
 exact⟨hF.lt h.hB,(hc 0).trans h3.c0,(hc 1).trans h3.c1,(hf 1).trans h3.f1,h3.hi,h.hl,h.hc,fun k hk=>by
  obtain⟨R,e,n,l,r⟩:=h.tk k hk
  exact⟨R,e,n,hF.lt l,fun o v hv=>(hF.cel l (by omega) _).trans (r o v hv)⟩,h.bd,h.rv.frm hF (fun k e=>by omega)⟩
theorem Psr.frm {L:List TkD} {ao:Option Addr} {cap B i:Nat} {S:Nat→Prop} {w w':World} (h:Psr L ao cap B i w) (hF:Frm S w w') (hS:∀k,S k→B<k):Psr L ao cap B i w':=by
 have nS:∀k,k≤B→¬S k:=fun k hk q=>absurd (hS k q) (by omega)
 exact⟨hF.lt h.hB,(hF.cel h.hB (nS _ (Nat.le_refl _)) _).trans h.c0,(hF.cel h.hB (nS _ (Nat.le_refl _)) _).trans h.c1,(hF.frz h.hB (nS _ (Nat.le_refl _)) _).trans h.f1,h.hi,h.hl,h.hc,fun k hk=>by
  obtain⟨R,e,n,l,r⟩:=h.tk k hk
  exact⟨R,e,n,hF.lt l,fun o v hv=>(hF.cel l (nS _ (by omega)) _).trans (r o v hv)⟩,h.bd,h.rv.frm hF (fun k q=>by have:=hS k q;omega)⟩
theorem Psr.lt {L:List TkD} {ao:Option Addr} {cap B i:Nat} {w:World} (h:Psr L ao cap B i w) (hi:i<L.length):∃R,ao=some ⟨R,0,none⟩∧R<B∧R<w.heap.size∧w.rangeAt R (i*7) (tkC L[i]):=h.tk i hi
theorem peek_no {L:List TkD} {ao:Option Addr} {cap B i:Nat} {w:World} (h:Psr L ao cap B i w) (hi:i=L.length) :
  Calls Tryz.prog 107 #[.pointer (some ⟨B,0,none⟩)] w fun e w'=>e = .panicked [{v:=flV 0 0 4,recovered:=false}]∧Ext w w':=by
 obtain⟨hB,c0,c1,-,-,-,-,-,-,-⟩:=h
 subst hi
 go_enter Tryz.func107,Tryz.ntmps107
 go_wp2_with fail
 go_quiet (fail)
 go_wp2_with fail
 exact⟨rfl,rfl,(((Ext.refl w).alloc _).drewN nq)⟩
theorem peek_ok {L:List TkD} {ao:Option Addr} {cap B i:Nat} {w:World} (h:Psr L ao cap B i w) (t:TkD) (hi:L[i]? = some t) :
  Calls Tryz.prog 107 #[.pointer (some ⟨B,0,none⟩)] w fun e w'=>e = .returned (.agg #[.int .i64 t.k,.string ⟨t.tx.toArray⟩,.int .i64 t.v.k,.int .i64 t.v.n,.string ⟨t.v.s.toArray⟩,.int .i64 t.ln,.int .i64 t.cl])∧Ext w w':=by
 obtain⟨hi,ht⟩:=List.getElem?_eq_some_iff.1 hi
 obtain⟨R,rfl,hRB,hR,hr⟩:=h.lt hi
 have hRB:R≠B:=by omega
 obtain⟨hB,c0,c1,-,-,-,-,-,-,-⟩:=h
 rw[ht]at hr
 have k0:w.cell? ⟨R,i*7,none⟩=some (.int .i64 t.k):=hr 0 _ rfl
 have k1:=hr 1 _ rfl
 have k2:=hr 2 _ rfl
 have k3:=hr 3 _ rfl
 have k4:=hr 4 _ rfl
 have k5:=hr 5 _ rfl
 have k6:=hr 6 _ rfl
 clear hr ht
 have hne:((i:Int)==(L.length:Int))=false:=by rw[beq_eq_false_iff_ne];omega
 have hn2:(i:Int)<(L.length:Int):=by omega
 go_enter Tryz.func107,Tryz.ntmps107
 go_wp2_with fail
 go_quiet (fail)
 go_wp2_with fail
 go_region
 all_goals
  go_wp2_with fail
  refine bodyPost_ret (v:=.agg #[.int .i64 t.k,.string ⟨t.tx.toArray⟩,.int .i64 t.v.k,.int .i64 t.v.n,.string ⟨t.v.s.toArray⟩,.int .i64 t.ln,.int .i64 t.cl]) ?_ rfl ⟨rfl,?_⟩
  ·simp[results,Tryz.results107,go_sem]
  ·(repeat (with_reducible (first|assumption|exact Ext.refl _|refine Ext.alloc ?_ _|refine Ext.setCell ?_ (by simp) _|refine Ext.setCell ?_ (by simp;omega) _|refine Ext.drewN ?_ _|refine Ext.drew ?_)))
theorem wrong_ok {L:List TkD} {ao:Option Addr} {cap B i:Nat} {w:World} (e:Int) (h:Psr L ao cap B i w) (t:TkD) (hi:L[i]? = some t) :
  Calls Tryz.prog 106 #[.pointer (some ⟨B,0,none⟩),.int .i64 e] w fun x w'=>x = .panicked [{v:=flV t.ln t.cl e,recovered:=false}]∧Ext w w':=by
 have hfd:∀w,(Instr.field 140 (.agg #[.int .i64 t.k,.string ⟨t.tx.toArray⟩,.int .i64 t.v.k,.int .i64 t.v.n,.string ⟨t.v.s.toArray⟩,.int .i64 t.ln,.int .i64 t.cl]) 3).run Tryz.prog w = .ok (.agg #[.int .i64 t.ln,.int .i64 t.cl]) w:=fun _=>by kernel_rfl
 go_enter Tryz.func106,Tryz.ntmps106
 go_wp2_with (go_at_call 107;(with_reducible refine(peek_ok h t hi).mono ?_);rintro e w1 ⟨rfl,hE⟩)
 exact⟨rfl,rfl,hE⟩
def PR {α:Type} (L:List TkD) (ao:Option Addr) (cap B:Nat) (w:World) (V:α→Value→World→Prop) (r:Rs α) (e:Ending) (w':World):Prop:=
 Frm (fun k=>k=B) w w'∧match r with
  | .ok a j=>∃v,e = .returned v∧V a v w'∧Psr L ao cap B j w'
  | .bad l c er=>e = .panicked [{v:=flV l c er,recovered:=false}]
end Go.Proofs.YtlmeinikknoeeaaGreatDoor
