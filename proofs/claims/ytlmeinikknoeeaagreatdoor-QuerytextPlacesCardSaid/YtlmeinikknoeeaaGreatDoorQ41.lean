/- Queries, plainly: the shapes of valid nodes; the text of a query, and its tokens. No program in sight. -/
import Derived.Test.YtlmeinikknoeeaaGreatDoorQ40
import Derived.Test.YtlmeinikknoeeaaGreatDoorQ12
import Derived.Test.YtlmeinikknoeeaaGreatDoorQ39
import Derived.Lib.Replace
import Derived.Lib.CountLaws
import Derived.Lib.ReplaceLaws
namespace Go.Proofs.YtlmeinikknoeeaaGreatDoor
set_option linter.unusedVariables false
set_option linter.unnecessarySimpa false
set_option linter.unusedSimpArgs false
inductive QnS:QnD→List (Tr QnD)→Prop
 | scan (tb:List UInt8) (h:nmQ tb=true):QnS {QnD.zero with k:=1,tb:=tb} []
 | sel (c:Tr CdD) (h:cdQ c=true) (a:Tr QnD):QnS {QnD.zero with k:=2,cond:=c} [a]
 | proj (cols:List (List UInt8)) (h0:cols≠[]) (h:nmsQ cols=true) (a:Tr QnD):QnS {QnD.zero with k:=3,cols:=cols} [a]
 | ren (cols nms:List (List UInt8)) (h0:cols≠[]) (h:nmsQ cols=true) (hl:nms.length=cols.length) (hn:alQ nms=true) (a:Tr QnD):QnS {QnD.zero with k:=4,cols:=cols,nms:=nms} [a]
 | two (k:Int) (hk:k=5∨k=6∨k=7) (a b:Tr QnD):QnS {QnD.zero with k:=k} [a,b]
 | dur (f t:Int) (h1 : -62135596800≤f) (h2:f<t) (h3:t≤253402300800) (a:Tr QnD):QnS {QnD.zero with k:=8,f:=f,t:=t} [a]
 | cnt (cols:List (List UInt8)) (h:nmsQ cols=true) (s:List UInt8) (hs:nmQ s=true) (a:Tr QnD):QnS {QnD.zero with k:=9,cols:=cols,nms:=[s],fn:=1} [a]
 | grp (cols:List (List UInt8)) (h:nmsQ cols=true) (fn:Int) (hf:fn=2∨fn=3∨fn=4) (r s:List UInt8) (hr:nmQ r=true) (hs:nmQ s=true) (a:Tr QnD):QnS {QnD.zero with k:=9,cols:=cols,nms:=[r,s],fn:=fn} [a]
 | rel (n:Int) (h1:1≤n) (h2:n≤8191) (a b:Tr QnD):QnS {QnD.zero with k:=10,rel:=n} [a,b]
section
variable (momT:Int→List UInt8) (bl:List UInt8)
def cnX:List (List UInt8)→List UInt8
 | []=>[]
 | x::r=>44::(bl++(x++cnX r))
def jnX:List (List UInt8)→List UInt8
 | []=>[]
 | x::r=>x++cnX bl r
def cnK:List (List TkN)→List TkN
 | []=>[]
 | x::r=>yT 44::(x++cnK r)
def jnK:List (List TkN)→List TkN
 | []=>[]
 | x::r=>x++cnK r
def relZ (n:Int):List Nat:=(List.range 13).filter fun r=>n.toNat.testBit r
def rwX (r:Nat):List UInt8:=relW.getD r []
def fnW (k:Int):List UInt8:=if k=1 then wCount else if k=2 then [115,117,109]else if k=3 then [109,105,110]else [109,97,120]
def toX (p:List UInt8×List UInt8):List UInt8:=p.1++(bl++(wTo++(bl++p.2)))
def toK (p:List UInt8×List UInt8):List TkN:=[wT p.1,wT wTo,wT p.2]
def atX (t:Int):List UInt8:=vlT momT ⟨4,t,[]⟩
def atK (t:Int):List TkN:=vlK momT ⟨4,t,[]⟩
def hdX (q:QnD):List UInt8:=
 if q.k=1 then wScan++(bl++q.tb)
 else if q.k=2 then [115,101,108,101,99,116]++(bl++(40::(tcX momT bl q.cond ++ [41])))
 else if q.k=3 then [112,114,111,106,101,99,116]++(bl++jnX bl q.cols)
 else if q.k=4 then [114,101,110,97,109,101]++(bl++jnX bl ((q.cols.zip q.nms).map (toX bl)))
 else if q.k=5 then [106,111,105,110]else if q.k=6 then [117,110,105,111,110]else if q.k=7 then [101,120,99,101,112,116]
 else if q.k=8 then [100,117,114,105,110,103]++(bl++(atX momT q.f++(bl++(wTo++(bl++atX momT q.t)))))
 else if q.k=9 then [103,114,111,117,112]++(bl++((if q.cols = []then []else jnX bl q.cols++bl)++(fnW q.fn++((if q.nms.length≤1 then []else bl++q.nms.headD [])++(bl++(wAs++(bl++q.nms.getLastD [])))))))
 else [114,101,108,97,116,101]++(bl++jnX bl ((relZ q.rel).map rwX))
def hdK (q:QnD):List TkN:=
 if q.k=1 then [wT wScan,wT q.tb]
 else if q.k=2 then wT [115,101,108,101,99,116]::yT 40::(toC momT q.cond ++ [yT 41])
 else if q.k=3 then wT [112,114,111,106,101,99,116]::jnK (q.cols.map fun s=>[wT s])
 else if q.k=4 then wT [114,101,110,97,109,101]::jnK ((q.cols.zip q.nms).map toK)
 else if q.k=5 then [wT [106,111,105,110]]else if q.k=6 then [wT [117,110,105,111,110]]else if q.k=7 then [wT [101,120,99,101,112,116]]
 else if q.k=8 then wT [100,117,114,105,110,103]::(atK momT q.f++(wT wTo::atK momT q.t))
 else if q.k=9 then wT [103,114,111,117,112]::(jnK (q.cols.map fun s=>[wT s])++(wT (fnW q.fn)::((if q.nms.length≤1 then []else [wT (q.nms.headD [])]) ++ [wT wAs,wT (q.nms.getLastD [])])))
 else wT [114,101,108,97,116,101]::jnK ((relZ q.rel).map fun r=>[wT (rwX r)])
def opX:List (List UInt8)→List UInt8
 | [a]=>bl++(wOf++(bl++a))
 | [a,b]=>bl++(40::(a++(44::(bl++(b ++ [41])))))
 | _=>[]
def opK:List (List TkN)→List TkN
 | [a]=>wT wOf::a
 | [a,b]=>yT 40::(a++(yT 44::(b ++ [yT 41])))
 | _=>[]
mutual
def txQ:Tr QnD→List UInt8
 | .mk q l=>hdX momT bl q++opX bl (txQs l)
def txQs:List (Tr QnD)→List (List UInt8)
 | []=>[]
 | c::r=>txQ c::txQs r
end
mutual
def toQ:Tr QnD→List TkN
 | .mk q l=>hdK momT q++opK (toQs l)
def toQs:List (Tr QnD)→List (List TkN)
 | []=>[]
 | c::r=>toQ c::toQs r
end
end
section
variable {mom:List UInt8→Option Int} {momT:Int→List UInt8} {bl:List UInt8}
mutual
def bnQ:Tr QnD→Prop
 | .mk q l=>bnC q.cond∧bnQs l
def bnQs:List (Tr QnD)→Prop
 | []=>True
 | c::r=>bnQ c∧bnQs r
end
end
end Go.Proofs.YtlmeinikknoeeaaGreatDoor
namespace Go.Proofs.YtlmeinikknoeeaaGreatDoor
set_option linter.unusedVariables false
set_option linter.unnecessarySimpa false
set_option linter.unusedSimpArgs false
section
variable {L:List TkD} {momT:Int→List UInt8}
end
end Go.Proofs.YtlmeinikknoeeaaGreatDoor
namespace Go.Proofs.YtlmeinikknoeeaaGreatDoor
set_option linter.unusedVariables false
set_option linter.unnecessarySimpa false
set_option linter.unusedSimpArgs false
section
variable {mom:List UInt8→Option Int} {momT:Int→List UInt8} {bl:List UInt8}
theorem AtT.whole {L:List TkD}:∀{p:List TkD} {ts:List TkN},L.map TkD.s=ts→AtT (p++L) p.length ts:=by
 induction L with
 | nil=>intro p ts h;subst h;trivial
 | cons t r ih=>
   intro p ts h
   subst h
   refine⟨⟨t,by simp,rfl⟩,?_⟩
   have:=ih (p:=p ++ [t]) (ts:=r.map TkD.s) rfl
   rw[List.append_assoc,List.length_append]at this
   exact this
theorem cd_gd {c:Tr CdD} (h:cdQ c=true):gdC cdN c 1=true∧szC c≤60∧fmdR c=true:=by
 unfold cdQ at h
 rw[Bool.and_eq_true]at h
 exact⟨(frm_gd h.1).1,(frm_gd h.1).2,h.2⟩
end
end Go.Proofs.YtlmeinikknoeeaaGreatDoor
namespace Go.Proofs.YtlmeinikknoeeaaGreatDoor
set_option linter.unusedVariables false
set_option linter.unnecessarySimpa false
set_option linter.unusedSimpArgs false
section
variable {momT:Int→List UInt8}
theorem escQ_len (a:List UInt8):(escQ a).length≤2*a.length:=by
 induction a with
 | nil=>exact Nat.le_refl _
 | cons c r ih=>rw[escQ];split<;>(simp only[List.length_cons];omega)
theorem decZ_le20 {n:Int} (h : -9223372036854775808≤n∧n≤9223372036854775807):(decZ n).length≤20:=by
 have hi:(itx n.natAbs 1).length≤19:=by
  unfold itx
  rw[padN_length]
  have:=nDigits_le (n:=n.natAbs) (k:=19) (by decide) (by omega)
  omega
 unfold decZ
 split
 ·rw[List.length_cons];omega
 ·omega
theorem vlT_len (hml:∀t,-62135596800≤t→t<253402300800→(momT t).length=19) {v:ValD} (h:vlQ v=true) (hb : -9223372036854775808≤v.n∧v.n≤9223372036854775807):(vlT momT v).length≤62:=by
 obtain⟨k,n,s⟩:=v
 unfold vlQ at h
 unfold vlT
 simp only at h hb ⊢
 by_cases h1:k=1
 ·rw[if_pos h1]
  have:=decZ_le20 hb
  omega
 ·rw[if_neg h1]at h ⊢
  by_cases h2:k=2
  ·rw[if_pos h2]at h ⊢
   simp only[Bool.and_eq_true,decide_eq_true_eq]at h
   have:=escQ_len s
   simp only[List.length_append,List.length_cons,List.length_nil]
   omega
  ·rw[if_neg h2]at h ⊢
   by_cases h3:k=3
   ·rw[if_pos h3]
    split<;>decide
   ·rw[if_neg h3]at h ⊢
    by_cases h4:k=4
    ·rw[if_pos h4]at h
     simp only[Bool.and_eq_true,decide_eq_true_eq]at h
     split
     ·decide
     ·rw[hml n h.2.1 (by omega)]
      decide
    ·rw[if_neg h4]at h;cases h
theorem prA_len (x:Int×List UInt8) (a b:Int):(prA x a b).length≤x.2.length+2:=by
 unfold prA
 split
 ·simp only[List.length_cons,List.length_append,List.length_nil];omega
 ·omega
theorem tcX_len (hml:∀t,-62135596800≤t→t<253402300800→(momT t).length=19):∀(c:Tr CdD) (d:Nat),gdC cdN c d=true→fmdR c=true→bnC c→(tcX momT [32] c).length≤100*szC c
 | .mk dd l,d,hg,hf,hbn=>by
   rw[gdC]at hg
   simp only[Bool.and_eq_true,decide_eq_true_eq]at hg
   obtain⟨⟨hd,hN⟩,hgs⟩:=hg
   rw[fmdR]at hf
   rw[bnC]at hbn
   rw[tcX,szC]
   cases cdN_shape hN with
   | cmpV hk hv=>
     rename_i k col v
     rw[if_pos hk,Bool.and_eq_true,Bool.and_eq_true]at hf
     obtain⟨_,_,_,_,_,hn,_⟩:=nm_parts hf.1.1
     have hn:col.length≤30:=hn
     have hvl:=vlT_len hml hv hbn.1
     have k3:¬k=3:=by omega
     have k4:¬k=4:=by omega
     have k5:¬k=5:=by omega
     have k6:¬k=6:=by omega
     unfold ndX
     simp only[if_neg k3,if_neg k4,if_neg k5,if_neg k6,if_true,List.length_append,List.length_cons,List.length_nil]
     omega
   | cmpO hk ho=>
     rename_i k col oth
     rw[if_pos hk,Bool.and_eq_true,Bool.and_eq_true]at hf
     obtain⟨_,_,_,_,_,hn,_⟩:=nm_parts hf.1.1
     have ho2:=hf.1.2
     rw[Bool.or_eq_true,decide_eq_true_eq]at ho2
     obtain⟨_,_,_,_,_,hn2,_⟩:=nm_parts (ho2.resolve_left ho)
     have hn:col.length≤30:=hn
     have hn2:oth.length≤30:=hn2
     have k3:¬k=3:=by omega
     have k4:¬k=4:=by omega
     have k5:¬k=5:=by omega
     have k6:¬k=6:=by omega
     unfold ndX
     simp only[if_neg k3,if_neg k4,if_neg k5,if_neg k6,if_neg ho,List.length_append,List.length_cons,List.length_nil]
     omega
   | alw=>
     show(wAlways:List UInt8).length≤_
     simp only[List.length_cons,List.length_nil]
     omega
   | not a=>
     rw[if_neg (by decide),Bool.true_and,fmdRs,fmdRs,Bool.and_true]at hf
     rw[gdCs,gdCs,Bool.and_true]at hgs
     have ih:=tcX_len hml a (d+1) hgs hf hbn.2.1
     have hp:=prA_len (a.a.k,tcX momT [32] a) 5 6
     show(wNot++([32]++prA (a.a.k,tcX momT [32] a) 5 6)).length≤_
     rw[szCs,szCs]
     simp only[List.length_append,List.length_cons,List.length_nil]at hp ⊢
     omega
   | two k hk a b=>
     have hf2:fmdR a=true∧fmdR b=true:=by
      rw[if_neg (by show ¬(k=1∨k=2);omega),Bool.true_and,fmdRs,fmdRs,fmdRs,Bool.and_true,Bool.and_eq_true]at hf
      exact hf
     rw[gdCs,gdCs,gdCs,Bool.and_true,Bool.and_eq_true]at hgs
     have iha:=tcX_len hml a (d+1) hgs.1 hf2.1 hbn.2.1
     have ihb:=tcX_len hml b (d+1) hgs.2 hf2.2 hbn.2.2.1
     rw[szCs,szCs,szCs]
     rcases hk with rfl|rfl
     ·show(prA (a.a.k,tcX momT [32] a) 6 6++([32]++(wAnd++([32]++prA (b.a.k,tcX momT [32] b) 6 5)))).length≤_
      have h1:=prA_len (a.a.k,tcX momT [32] a) 6 6
      have h2:=prA_len (b.a.k,tcX momT [32] b) 6 5
      simp only[List.length_append,List.length_cons,List.length_nil]at h1 h2 ⊢
      omega
     ·show(tcX momT [32] a++([32]++(wOr++([32]++prA (b.a.k,tcX momT [32] b) 6 6)))).length≤_
      have h2:=prA_len (b.a.k,tcX momT [32] b) 6 6
      simp only[List.length_append,List.length_cons,List.length_nil]at h2 ⊢
      omega
end
theorem momT_len:∀t,-62135596800≤t→t<253402300800→(momT t).length=19:=fun t h1 h2=>mom_ok.len t (by unfold locZ;rw[decide_eq_true_eq];exact⟨h1,h2⟩)
end Go.Proofs.YtlmeinikknoeeaaGreatDoor
namespace Go.Proofs.YtlmeinikknoeeaaGreatDoor
set_option linter.unusedVariables false
set_option linter.unnecessarySimpa false
set_option linter.unusedSimpArgs false
def Rs.post {α:Type} (r:Rs α) (Q:α→Nat→Prop):Prop:=match r with
 | .ok a j=>Q a j
 | .bad _ _ _=>True
theorem Rs.post.bind {α β:Type} {r:Rs α} {f:α→Nat→Rs β} {P:α→Nat→Prop} {Q:β→Nat→Prop} (h:r.post P) (hf:∀a j,P a j→(f a j).post Q):(r.bind f).post Q:=by
 cases r with
 | ok a j=>exact hf a j h
 | bad l c e=>trivial
theorem Rs.post.mono {α:Type} {r:Rs α} {P Q:α→Nat→Prop} (h:r.post P) (hf:∀a j,P a j→Q a j):r.post Q:=by
 cases r with
 | ok a j=>exact hf a j h
 | bad l c e=>trivial
section
variable (momT:Int→List UInt8)
end
section
variable {L:List TkD} {momT:Int→List UInt8}
end
end Go.Proofs.YtlmeinikknoeeaaGreatDoor
namespace Go.Proofs.YtlmeinikknoeeaaGreatDoor
set_option linter.unusedVariables false
set_option linter.unnecessarySimpa false
set_option linter.unusedSimpArgs false
section
variable {L:List TkD} {momT:Int→List UInt8}
end
end Go.Proofs.YtlmeinikknoeeaaGreatDoor
namespace Go.Proofs.YtlmeinikknoeeaaGreatDoor
set_option linter.unusedVariables false
set_option linter.unnecessarySimpa false
set_option linter.unusedSimpArgs false
open Go.RowKit
def LmO (w:World):Prop:=∃m:Int,w.cell? ⟨0,0,none⟩=some (.int .i64 m)
theorem LmO.ext {w w':World} (h:LmO w) (hE:Ext w w'):LmO w':=by
 obtain⟨m,hm⟩:=h
 exact⟨m,(hE.cells _ _ (World.block_lt_of_cell? _ _ hm)).trans hm⟩
def subC (c:UInt8) (N:List UInt8):List UInt8→List UInt8
 | []=>[]
 | x::r=>(if x=c then N else [x])++subC c N r
theorem index_c1 (d c:UInt8) (s:List UInt8):Lib.index (c::s) [d]=if c=d then 0 else if Lib.index s [d] = -1 then -1 else Lib.index s [d]+1:=index1_cons d c s
theorem rep_sub (d:UInt8) (N:List UInt8):∀s:List UInt8,Lib.replaceK [d] N (Lib.count s [d]) s=subC d N s
 | []=>by
   have e:Lib.index [] [d] = -1:=by simp[Lib.index,List.isPrefixOf]
   rw[Lib.count_miss e];rfl
 | c::s=>by
   have ih:=rep_sub d N s
   have hi:=index_c1 d c s
   rw[subC]
   by_cases h:c=d
   ·rw[if_pos h]at hi ⊢
    rw[Lib.count_hit (by simp) (show Lib.index (c::s) [d]=((0:Nat):Int)from hi),Nat.add_comm 1,Lib.replaceK_hit _ _ _ _ 0 hi]
    show []++N++Lib.replaceK [d] N (Lib.count s [d]) s=_
    rw[ih];rfl
   ·rw[if_neg h]at hi ⊢
    by_cases q:Lib.index s [d] = -1
    ·rw[if_pos q]at hi
     rw[Lib.count_miss hi]
     rw[Lib.count_miss q]at ih
     show c::s=_
     rw[←ih];rfl
    ·rw[if_neg q]at hi
     obtain⟨i,hi2⟩:∃i:Nat,Lib.index s [d]=(i:Int):=⟨(Lib.index s [d]).toNat,by have:=Lib.index_ge s [d];omega⟩
     have hi3:Lib.index (c::s) [d]=((i+1:Nat):Int):=by rw[hi,hi2];rfl
     rw[Lib.count_hit (by simp) hi2,Nat.add_comm 1,Lib.replaceK_hit _ _ _ _ i hi2]at ih
     rw[Lib.count_hit (by simp) hi3,Nat.add_comm 1,Lib.replaceK_hit _ _ _ _ (i+1) hi3,←ih]
     rfl
theorem repall_sub (d:UInt8) (N s:List UInt8) (hN:([d]==N)=false):Lib.replaceAll s [d] N=subC d N s:=by
 unfold Lib.replaceAll Lib.replace
 rw[if_neg (by rw[hN];decide)]
 unfold Lib.replaceNum
 rw[if_pos (.inl (by decide))]
 exact rep_sub d N s
theorem subC_esc:∀a:List UInt8,subC 34 [92,34] (subC 92 [92,92] a)=escQ a
 | []=>rfl
 | c::r=>by
   have ih:=subC_esc r
   rw[subC,escQ]
   by_cases h:c=92
   ·subst h
    rw[if_pos rfl,if_pos (by decide)]
    show subC 34 [92,34] (92::92::subC 92 [92,92] r)=_
    rw[subC,subC,ih];rfl
   ·rw[if_neg h]
    show subC 34 [92,34] (c::subC 92 [92,92] r)=_
    rw[subC,ih]
    have hn:c.toNat≠92:=fun e=>h (UInt8.toNat_inj.1 (by rw[e];rfl))
    by_cases h2:c=34
    ·subst h2;rfl
    ·have hn2:c.toNat≠34:=fun e=>h2 (UInt8.toNat_inj.1 (by rw[e];rfl))
     rw[if_neg h2,if_neg (by omega)];rfl
theorem subC_len (d:UInt8) (N:List UInt8) (s:List UInt8) (hN:N.length=2):(subC d N s).length≤2*s.length:=by
 induction s with
 | nil=>exact Nat.le_refl _
 | cons c r ih=>rw[subC,List.length_append,List.length_cons];split<;>simp only[hN,List.length_cons,List.length_nil]<;>omega
theorem repO_c (s:List UInt8) (d x y:UInt8) (T:List UInt8) (w:World) (hm:LmO w) (hs:s.length≤100000) (h:subC d [x,y] s=T) :
  Calls Tryz.prog 39 #[.string ⟨s.toArray⟩,.string ⟨#[d]⟩,.string ⟨#[x,y]⟩] w fun e w'=>e = .returned (.string ⟨T.toArray⟩)∧Ext w w':=by
 obtain⟨m,hm⟩:=hm
 have hz:∀l:List UInt8,(⟨l.toArray⟩:ByteArray).size=l.length:=fun l=>by simp[ByteArray.size]
 have h1:(⟨[d].toArray⟩:ByteArray).size=1:=rfl
 have h2:(⟨[x,y].toArray⟩:ByteArray).size=2:=rfl
 have hc:=Lib.countB_mul_le (⟨[d].toArray⟩:ByteArray) (by rw[h1];omega) _ ⟨s.toArray⟩ (Nat.le_refl _)
 simp only[hz,List.length_cons,List.length_nil,Nat.zero_add,Nat.mul_one]at hc
 have q:=Tryz.strings_ReplaceAll ⟨s.toArray⟩ ⟨[d].toArray⟩ ⟨[x,y].toArray⟩ m w (by rw[hz];omega) hm (by rw[h1];omega) (by rw[hz,h2];omega)
 have e:∀l:List UInt8,(⟨l.toArray⟩:ByteArray).data.toList=l:=fun _=>rfl
 rw[e,e,e,repall_sub _ _ _ (by simp),h]at q
 refine q.mono ?_
 rintro e w' ⟨rfl,hB⟩
 exact⟨rfl,hB.os,hB.tape,hB.output,hB.size,hB.block⟩
theorem baO (a b:List UInt8):(⟨a.toArray⟩:ByteArray)++(⟨b.toArray⟩:ByteArray)=⟨(a++b).toArray⟩:=by
 apply ByteArray.ext
 rw[ByteArray.data_append]
 simp
theorem vl_s30 {k n:Int} {s:List UInt8} (h:vlQ ⟨k,n,s⟩=true):s.length≤30:=by
 unfold vlQ at h
 simp only at h
 by_cases h1:k=1
 ·rw[if_pos h1,decide_eq_true_eq]at h;rw[h];simp
 ·rw[if_neg h1]at h
  by_cases h2:k=2
  ·rw[if_pos h2]at h
   simp only[Bool.and_eq_true,decide_eq_true_eq]at h
   omega
  ·rw[if_neg h2]at h
   by_cases h3:k=3
   ·rw[if_pos h3]at h
    simp only[Bool.and_eq_true,decide_eq_true_eq]at h
    rw[h.1];simp
   ·rw[if_neg h3]at h
    by_cases h4:k=4
    ·rw[if_pos h4]at h
     simp only[Bool.and_eq_true,decide_eq_true_eq]at h
     rw[h.1];simp
    ·rw[if_neg h4]at h;cases h
set_option maxRecDepth 100000 in
set_option maxHeartbeats 2000000 in
theorem vtext_c (k n:Int) (s:List UInt8) (X:List UInt8) (w:World) (hm:LmO w) (hb:Bi n) (hv:vlQ ⟨k,n,s⟩=true) (hX:vlT momT ⟨k,n,s⟩=X) :
  Calls Tryz.prog 133 #[.agg #[.int .i64 k,.int .i64 n,.string ⟨s.toArray⟩]] w fun e w'=>e = .returned (.string ⟨X.toArray⟩)∧Ext w w':=by
 have hE0:Ext w (w.alloc (.cells #[.int .i64 k,.int .i64 n,.string ⟨s.toArray⟩] 24)):=(Ext.refl w).alloc _
 have hB:=BxT.new w [.int .i64 k,.int .i64 n,.string ⟨s.toArray⟩] 24
 have hbs:Bs s:=by have:=vl_s30 hv;unfold Bs;omega
 have HB:=Lib.hid hB
 have HV:=fun W=>Lib.hid (vvalid_c k n s true W hbs hv)
 have HM:=Lib.hid (hm.ext hE0)
 unfold vlQ at hv
 unfold vlT at hX
 simp only at hv hX
 by_cases h1:k=1
 ·subst h1
  rw[if_pos rfl]at hX
  have HT:Hid (∀w',Calls Tryz.prog 204 #[.int .i64 n,.int .i64 1] w' fun e w''=>e = .returned (.string ⟨X.toArray⟩)∧Ext w' w''):=fun w'=>by
   have:=text_c n 1 w' hb.1 hb.2 (by decide) (by decide)
   rwa [show itxI n (1:Int).toNat=X from hX]at this
  have hc:∀W,Ext (w.alloc (.cells #[.int .i64 1,.int .i64 n,.string ⟨s.toArray⟩] 24)) W→W.cell? ⟨w.heap.size,0,none⟩=some (.int .i64 1)∧W.cell? ⟨w.heap.size,1,none⟩=some (.int .i64 n):=fun W hE=>⟨(HB.out.ext hE).at 0 _ rfl,(HB.out.ext hE).at 1 _ rfl⟩
  have HCc:=Lib.hid hc
  clear hv hX hB hb hc hbs hm
  go_enter Tryz.func133,Tryz.ntmps133
  go_wp2_with (first
   | (go_at_call 203;(with_reducible refine(HV _).out.mono ?_);rintro e w1 ⟨rfl,hE1⟩;obtain⟨d0,d1⟩:=HCc.out _ hE1)
   | (go_at_call 204;(with_reducible refine(HT.out _).mono ?_);rintro e w2 ⟨rfl,hE2⟩))
  go_ret
  exact⟨rfl,(hE0.trans hE1).trans hE2⟩
 rw[if_neg h1]at hv hX
 by_cases h2:k=2
 ·subst h2
  rw[if_pos rfl]at hv hX
  simp only[Bool.and_eq_true,decide_eq_true_eq]at hv
  have hls:s.length≤30:=hv.1.2
  obtain⟨Y,hY⟩:∃Y,subC 92 [92,92] s=Y:=⟨_,rfl⟩
  obtain⟨Z,hZ⟩:∃Z,escQ s=Z:=⟨_,rfl⟩
  have hZ2:subC 34 [92,34] Y=Z:=by rw[←hY,subC_esc,hZ]
  have hYl:Y.length≤60:=by have:=subC_len 92 [92,92] s rfl;rw[hY]at this;omega
  have hZl:Z.length≤60:=by have:=escQ_len s;rw[hZ]at this;omega
  rw[hZ]at hX
  have H1:Hid (∀W,LmO W→Calls Tryz.prog 39 #[.string ⟨s.toArray⟩,.string ⟨#[92]⟩,.string ⟨#[92,92]⟩] W fun e w'=>e = .returned (.string ⟨Y.toArray⟩)∧Ext W w'):=fun W h=>repO_c s 92 92 92 Y W h (by omega) hY
  have H2:Hid (∀W,LmO W→Calls Tryz.prog 39 #[.string ⟨Y.toArray⟩,.string ⟨#[34]⟩,.string ⟨#[92,34]⟩] W fun e w'=>e = .returned (.string ⟨Z.toArray⟩)∧Ext W w'):=fun W h=>repO_c Y 34 92 34 Z W h (by omega) hZ2
  have hc:∀W,Ext (w.alloc (.cells #[.int .i64 2,.int .i64 n,.string ⟨s.toArray⟩] 24)) W→W.cell? ⟨w.heap.size,0,none⟩=some (.int .i64 2)∧W.cell? ⟨w.heap.size,2,none⟩=some (.string ⟨s.toArray⟩):=fun W hE=>⟨(HB.out.ext hE).at 0 _ rfl,(HB.out.ext hE).at 2 _ rfl⟩
  have HCc:=Lib.hid hc
  have HX:=Lib.hid hX
  clear hv hX hB hb hc hbs hm hY hZ hZ2 h1
  go_enter Tryz.func133,Tryz.ntmps133
  go_wp2_with (first
   | (go_at_call 203;(with_reducible refine(HV _).out.mono ?_);rintro e w1 ⟨rfl,hE1⟩;obtain⟨d0,d1⟩:=HCc.out _ hE1)
   | (go_at_call 39;(with_reducible refine(H1.out _ (HM.out.ext hE1)).mono ?_);rintro e w2 ⟨rfl,hE2⟩)
   | (go_at_call 39;(with_reducible refine(H2.out _ ((HM.out.ext hE1).ext hE2)).mono ?_);rintro e w3 ⟨rfl,hE3⟩))
  go_ret
  refine⟨?_,((hE0.trans hE1).trans hE2).trans hE3⟩
  rw[←HX.out]
  have e1:(34::Z ++ [34]).toArray=([34]++Z ++ [34]).toArray:=rfl
  rw[e1,←baO,←baO]
  rfl
 rw[if_neg h2]at hv hX
 have hc:∀W,Ext (w.alloc (.cells #[.int .i64 k,.int .i64 n,.string ⟨s.toArray⟩] 24)) W→W.cell? ⟨w.heap.size,0,none⟩=some (.int .i64 k)∧W.cell? ⟨w.heap.size,1,none⟩=some (.int .i64 n):=fun W hE=>⟨(HB.out.ext hE).at 0 _ rfl,(HB.out.ext hE).at 1 _ rfl⟩
 have HCc:=Lib.hid hc
 clear hc
 by_cases h3:k=3
 ·subst h3
  rw[if_pos rfl]at hX
  by_cases n1:n=1
  ·subst n1
   rw[if_pos rfl]at hX
   subst hX
   clear hv hB hb hbs hm h1 h2
   go_enter Tryz.func133,Tryz.ntmps133
   go_wp2_with (first
    | (go_at_call 203;(with_reducible refine(HV _).out.mono ?_);rintro e w1 ⟨rfl,hE1⟩;obtain⟨d0,d1⟩:=HCc.out _ hE1))
   go_ret
   exact⟨rfl,hE0.trans hE1⟩
  ·rw[if_neg n1]at hX
   subst hX
   have e1:(n==1)=false:=by rw[beq_eq_false_iff_ne];exact n1
   clear hv hB hb hbs hm h1 h2 n1
   go_enter Tryz.func133,Tryz.ntmps133
   go_wp2_with (first
    | (go_at_call 203;(with_reducible refine(HV _).out.mono ?_);rintro e w1 ⟨rfl,hE1⟩;obtain⟨d0,d1⟩:=HCc.out _ hE1))
   go_ret
   exact⟨rfl,hE0.trans hE1⟩
 rw[if_neg h3]at hv hX
 by_cases h4:k=4
 case neg=>rw[if_neg h4]at hv;cases hv
 subst h4
 rw[if_pos rfl]at hv
 simp only[Bool.and_eq_true,decide_eq_true_eq]at hv
 by_cases nf:n=253402300800
 ·subst nf
  rw[if_pos rfl]at hX
  subst hX
  clear hv hB hb hbs hm h1 h2 h3
  go_enter Tryz.func133,Tryz.ntmps133
  go_wp2_with (first
   | (go_at_call 203;(with_reducible refine(HV _).out.mono ?_);rintro e w1 ⟨rfl,hE1⟩;obtain⟨d0,d1⟩:=HCc.out _ hE1))
  go_ret
  exact⟨rfl,hE0.trans hE1⟩
 ·rw[if_neg nf]at hX
  have e1:(n==253402300800)=false:=by rw[beq_eq_false_iff_ne];exact nf
  have hh:=hms_99 n
  have hlz:locZ n=true:=by unfold locZ;rw[decide_eq_true_eq];omega
  have HMo:=fun W=>Lib.hid (moment_yes n W (insT_iff.2 (by unfold locZ at hlz;rw[decide_eq_true_eq]at hlz;exact hlz)))
  have HX:Hid (∀y m d,IsDate (n/86400) y m d→∀w',Calls Tryz.prog 206 #[momv n y m d] w' fun e w''=>e = .returned (.string ⟨X.toArray⟩)∧Ext w' w''):=fun y m d hd w'=>by
   rw[←hX,momT_is hd]
   exact mtext_yes y m d _ _ _ w' hd.1 (tm_iff.2 hh)
  unfold momv at HMo HX
  generalize n%86400/3600=H at *
  generalize n%86400/60%60=M at *
  generalize n%86400%60=E at *
  clear hv hB hb hbs hm h1 h2 h3 nf hX hh hlz
  go_enter Tryz.func133,Tryz.ntmps133
  go_wp2_with (first
   | (go_at_call 203;(with_reducible refine(HV _).out.mono ?_);rintro e w1 ⟨rfl,hE1⟩;obtain⟨d0,d1⟩:=HCc.out _ hE1)
   | (go_at_call 205;(with_reducible refine(HMo _).out.mono ?_);rintro e w2 ⟨y,m,d,rfl,hD,hE2⟩;have HT:=Lib.hid (HX.out y m d hD);clear hD)
   | (go_at_call 206;(with_reducible refine(HT.out _).mono ?_);rintro e w3 ⟨rfl,hE3⟩))
  go_ret
  exact⟨rfl,((hE0.trans hE1).trans hE2).trans (((Ext.refl _).alloc _).trans hE3)⟩
end Go.Proofs.YtlmeinikknoeeaaGreatDoor
namespace Go.Proofs.YtlmeinikknoeeaaGreatDoor
set_option linter.unusedVariables false
set_option linter.unnecessarySimpa false
set_option linter.unusedSimpArgs false
open Go.RowKit
def KsV (ko:Option Addr) (kc:Nat) (ks:List Int) (w:World):Prop:=ks.length≤kc∧kc≤10∧(ks≠[]→∃R,ko=some ⟨R,0,none⟩∧R<w.heap.size∧∀i (h:i<ks.length),w.cell? ⟨R,i,none⟩=some (.int .i64 ks[i]))
theorem KsV.ext {ko:Option Addr} {kc:Nat} {ks:List Int} {w w':World} (h:KsV ko kc ks w) (hE:Ext w w'):KsV ko kc ks w':=⟨h.1,h.2.1,fun hn=>by
 obtain⟨R,e,hR,hc⟩:=h.2.2 hn
 exact⟨R,e,hE.lt hR,fun i hi=>(hE.cells _ _ hR).trans (hc i hi)⟩⟩
open Classical in
noncomputable def prL (k:Int) (ks:List Int) (X:List UInt8):List UInt8:=if k∈ks then 40::(X ++ [41])else X
set_option maxRecDepth 100000 in
set_option maxHeartbeats 2000000 in
theorem opr_c (t:Cnd) (ko:Option Addr) (kc:Nat) (ks:List Int) (X:List UInt8) (w:World) (hk:KsV ko kc ks w) (hX:X.length≤100000)
  (hP:∀wx,Ext w wx→Calls Tryz.prog 63 #[.agg (cdS.vals t).toArray] wx fun e w'=>e = .returned (.string ⟨X.toArray⟩)∧Ext wx w') :
  Calls Tryz.prog 132 #[.agg (cdS.vals t).toArray,.slice ko ks.length kc] w fun e w'=>e = .returned (.string ⟨(prL t.a.d.k ks X).toArray⟩)∧Ext w w':=by
 have hE0:Ext w (w.alloc (.cells (cdS.vals t).toArray 27)):=(Ext.refl w).alloc _
 have hB:=BxT.new w (cdS.vals t) 27
 have c0:(w.alloc (.cells (cdS.vals t).toArray 27)).cell? ⟨w.heap.size,0,none⟩=some (.int .i64 t.a.d.k):=hB.at 0 _ (by cases t;rfl)
 have HB:=Lib.hid hB
 have HP:=Lib.hid (hP _ hE0)
 obtain⟨h1,h2,h3⟩:=hk.ext hE0
 have HK:=Lib.hid h3
 obtain⟨k,hkk⟩:∃k,t.a.d.k=k:=⟨_,rfl⟩
 rw[hkk]at c0 ⊢
 obtain⟨T,hT⟩:∃T,prL k ks X=T:=⟨_,rfl⟩
 have HT:=Lib.hid hT
 rw[hT]
 clear hB hP hk h3 hkk hT
 go_enter Tryz.func132,Tryz.ntmps132
 go_wp2_with fail
 go_loop [9] (fun i=>∃j:Nat,j≤ks.length∧i = .int .i64 (j:Int)∧Hid (∀i (h:i<j) (h2:i<ks.length),ks[i]≠k)) (fun i=>ks.length-(intOf i).toNat)
 case atStart=>exact⟨0,Nat.zero_le _,rfl,fun i h=>absurd h (Nat.not_lt_zero i)⟩
 case round=>
  obtain⟨j,hj,rfl,Hall⟩:=hrel
  by_cases hlt:j<ks.length
  ·obtain⟨R,rfl,hR0,hc⟩:=HK.out (by rintro rfl;simp at hlt)
   have cj:=hc j hlt
   clear hc
   by_cases hq:ks[j]=k
   ·have HX:Hid (T=40::(X ++ [41])):=by rw[Hid,←HT.out];unfold prL;exact if_pos (by rw[←hq];exact List.getElem_mem _)
    rw[hq]at cj
    clear hq
    go_wp2_with (first
     | ((with_reducible show wpList _ _ _ (⟨some 17,.load _ _,_,_,_,_⟩::_) _ _);refine wpl_load rfl 27 _ rfl w.heap.size 0 rfl (cdS.vals t) _ HB.out.rd Tryz.underlying27 rfl (info_c t) ?_)
     | (go_at_call 63;(with_reducible refine HP.out.mono ?_);rintro e w1 ⟨rfl,hE1⟩))
    go_ret
    refine⟨?_,hE0.trans hE1⟩
    have e1:(40::(X ++ [41])).toArray=([40]++X ++ [41]).toArray:=by simp
    rw[HX.out,e1,←baO,←baO]
    rfl
   ·have hne:(k==ks[j])=false:=by rw[beq_eq_false_iff_ne];exact fun q=>hq q.symm
    have Hn:Hid (∀i (h:i<j+1) (h2:i<ks.length),ks[i]≠k):=fun i h h2=>by
     by_cases e:i=j
     ·subst e;exact hq
     ·exact Hall.out i (by omega) h2
    obtain⟨x,hx⟩:∃x,x=ks[j]:=⟨_,rfl⟩
    rw[←hx]at cj hne
    clear hx hq
    go_wp2_with fail
    go_round
    case rel=>exact⟨j+1,by omega,by go_num,Hn⟩
    case measure=>simp[intOf];omega
  ·obtain rfl:j=ks.length:=by omega
   have HX:Hid (T=X):=by
    rw[Hid,←HT.out];unfold prL
    refine if_neg (fun hm=>?_)
    obtain⟨i,hi,e⟩:=List.mem_iff_getElem.1 hm
    exact Hall.out i hi hi e
   go_wp2_with (first
    | ((with_reducible show wpList _ _ _ (⟨some 22,.load _ _,_,_,_,_⟩::_) _ _);refine wpl_load rfl 27 _ rfl w.heap.size 0 rfl (cdS.vals t) _ HB.out.rd Tryz.underlying27 rfl (info_c t) ?_)
    | (go_at_call 63;(with_reducible refine HP.out.mono ?_);rintro e w1 ⟨rfl,hE1⟩))
   go_ret
   exact⟨by rw[HX.out];rfl,hE0.trans hE1⟩
end Go.Proofs.YtlmeinikknoeeaaGreatDoor
