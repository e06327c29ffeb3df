/- Queries, plainly: one more word behind the tokens changes no error that stands at a token. -/
import Derived.Test.YtlmeinikknoeeaaGreatDoorQ36
import Derived.Test.YtlmeinikknoeeaaGreatDoorQ08
import Derived.Test.YtlmeinikknoeeaaGreatDoorQ00
namespace Go.Proofs.YtlmeinikknoeeaaGreatDoor
set_option linter.unusedVariables false
set_option linter.unnecessarySimpa false
set_option linter.unusedSimpArgs false
def Mn {α:Type} (L:List TkD) (i:Nat) (r r':Rs α):Prop:=
 match r with
 | .ok a j=>i≤j∧r' = .ok a j
 | .bad l c e=>(e=4∧l=0∧c=0)∨(r' = .bad l c e∧(e=3∨e=5)∧∃t∈L,t.ln=l∧t.cl=c)
section
variable {L:List TkD} {x:TkD}
theorem Mn.bind {α β:Type} {i:Nat} {r r':Rs α} {f f':α→Nat→Rs β} (h:Mn L i r r') (hf:∀a j,i≤j→Mn L i (f a j) (f' a j)):Mn L i (r.bind f) (r'.bind f'):=by
 cases r with
 | ok a j=>
   obtain⟨h1,rfl⟩:=h
   exact hf a j h1
 | bad l c e=>
   rcases h with h|⟨rfl,h⟩
   ·exact .inl h
   ·exact .inr ⟨rfl,h⟩
theorem Mn.mono {α:Type} {i k:Nat} {r r':Rs α} (h:Mn L i r r') (hk:k≤i):Mn L k r r':=by
 cases r with
 | ok a j=>exact⟨Nat.le_trans hk h.1,h.2⟩
 | bad l c e=>exact h
theorem Mn.ok {α:Type} {i j:Nat} {a:α} (h:i≤j):Mn L i (.ok a j) (.ok a j):=⟨h,rfl⟩
theorem app_get {i:Nat} {t:TkD} (h:L[i]? = some t):(L ++ [x])[i]? = some t:=by
 obtain⟨hi,rfl⟩:=List.getElem?_eq_some_iff.1 h
 rw[List.getElem?_append_left hi,h]
theorem wr_mn {α:Type} (k:Nat) (e:Int) (i:Nat) (he:e=3∨e=5):Mn L k (wrP L e i:Rs α) (wrP (L ++ [x]) e i):=by
 unfold wrP
 cases h:L[i]? with
 | none=>exact .inl ⟨rfl,rfl,rfl⟩
 | some t=>
   rw[app_get h]
   exact .inr ⟨rfl,he,t,List.mem_of_getElem? h,rfl,rfl⟩
theorem pk_mn (i:Nat):Mn L i (pkP L i) (pkP (L ++ [x]) i):=by
 unfold pkP
 cases h:L[i]? with
 | none=>exact .inl ⟨rfl,rfl,rfl⟩
 | some t=>
   rw[app_get h]
   exact .ok (Nat.le_refl _)
theorem is_app (hx:x.tx=wScan) {s:List UInt8} (hs:s≠wScan) (i:Nat):isP (L ++ [x]) s i=isP L s i:=by
 unfold isP
 by_cases h:i<L.length
 ·rw[List.getElem?_append_left h]
 ·rw[List.getElem?_append_right (by omega),List.getElem?_eq_none (show L.length≤i by omega)]
  cases e:i-L.length with
  | zero=>
    have e2:decide (wScan=s)=false:=decide_eq_false (fun q=>hs q.symm)
    simp only[List.getElem?_cons_zero,hx,e2,Bool.and_false]
  | succ n=>simp
theorem is_ltO {s:List UInt8} {i:Nat} (h:isP L s i=true):i<L.length:=by
 unfold isP at h
 by_cases q:i<L.length
 ·exact q
 ·rw[List.getElem?_eq_none (by omega)]at h;cases h
theorem ex_mn (hx:x.tx=wScan) {s:List UInt8} (hs:s≠wScan) (i:Nat):Mn L i (exP L s i) (exP (L ++ [x]) s i):=by
 unfold exP
 rw[is_app hx hs]
 split
 ·exact .ok (by omega)
 ·exact wr_mn _ _ _ (.inl rfl)
theorem na_mn (i:Nat):Mn L (i+1) (naP L i) (naP (L ++ [x]) i):=by
 unfold naP pkP
 cases h:L[i]? with
 | none=>exact .inl ⟨rfl,rfl,rfl⟩
 | some t=>
   rw[app_get h]
   show Mn L (i+1) (if t.k=1∧nmQ t.tx=true then .ok t.tx (i+1)else wrP L 3 i) (if t.k=1∧nmQ t.tx=true then .ok t.tx (i+1)else wrP (L ++ [x]) 3 i)
   split
   ·exact .ok (Nat.le_refl _)
   ·exact wr_mn _ _ _ (.inl rfl)
theorem nasL_mn (hx:x.tx=wScan):∀(f:Nat) (acc:List (List UInt8)) (i:Nat),L.length≤f+i→Mn L i (nasL L f acc i) (nasL (L ++ [x]) (f+1) acc i)
 | 0,acc,i,h=>by
   rw[nasL,nasL,is_app hx (by decide),if_neg]
   ·exact .ok (Nat.le_refl _)
   ·intro q;have:=is_ltO q;omega
 | f+1,acc,i,h=>by
   rw[nasL,nasL,is_app hx (by decide)]
   split
   ·refine((na_mn (i+1)).mono (show i+1≤i+1+1 by omega)).bind (fun s j hj=>?_) |>.mono (by omega)
    exact(nasL_mn hx f _ j (by omega)).mono (by omega)
   ·exact .ok (Nat.le_refl _)
theorem nas_mn (hx:x.tx=wScan) (i:Nat):Mn L i (nasP L i) (nasP (L ++ [x]) i):=by
 unfold nasP
 refine((na_mn i).mono (Nat.le_succ i)).bind (fun s j hj=>?_)
 rw[List.length_append,List.length_singleton]
 exact(nasL_mn hx _ _ j (by omega)).mono hj
theorem tm_mn (hx:x.tx=wScan) (i:Nat):Mn L i (tmP L i) (tmP (L ++ [x]) i):=by
 unfold tmP
 refine(pk_mn i).bind (fun t j hj=>?_)
 simp only[is_app hx (show wForever≠wScan by decide)]
 split
 ·exact .ok (by omega)
 ·split
  ·exact .ok (by omega)
  ·exact wr_mn _ _ _ (.inl rfl)
theorem chL_mn (hx:x.tx=wScan) {w:List UInt8} (hw:w≠wScan) {k:Int} {op op':Nat→Rs (Tr CdD)} (ho:∀i,Mn L i (op i) (op' i)):∀(f:Nat) (c:Tr CdD) (i:Nat),L.length≤f+i→Mn L i (chL L w k op f c i) (chL (L ++ [x]) w k op' (f+1) c i)
 | 0,c,i,h=>by
   rw[chL,chL,is_app hx hw,if_neg]
   ·exact .ok (Nat.le_refl _)
   ·intro q;have:=is_ltO q;omega
 | f+1,c,i,h=>by
   rw[chL,chL,is_app hx hw]
   split
   ·refine(ho (i+1)).bind (fun d j hj=>?_) |>.mono (by omega)
    exact(chL_mn hx hw ho f _ j (by omega)).mono (by omega)
   ·exact .ok (Nat.le_refl _)
theorem ch_mn (hx:x.tx=wScan) {w:List UInt8} (hw:w≠wScan) {k:Int} {op op':Nat→Rs (Tr CdD)} (ho:∀i,Mn L i (op i) (op' i)) (i:Nat):Mn L i (chP L w k op i) (chP (L ++ [x]) w k op' i):=by
 unfold chP
 refine(ho i).bind (fun c j hj=>?_)
 rw[List.length_append,List.length_singleton]
 exact(chL_mn hx hw ho _ _ j (by omega)).mono hj
theorem rh_mn (hx:x.tx=wScan) (k:Int) (col:List UInt8) (i:Nat):Mn L i (rhP L k col i) (rhP (L ++ [x]) k col i):=by
 unfold rhP
 refine(pk_mn i).bind (fun t j hj=>?_)
 simp only[is_app hx (show wTrue≠wScan by decide),is_app hx (show wFalse≠wScan by decide),is_app hx (show wForever≠wScan by decide)]
 repeat' (first|exact .ok (by omega)|split)
 exact((na_mn j).mono (by omega)).bind (fun s n hn=>.ok hn)
theorem cm_mn (hx:x.tx=wScan) (i:Nat):Mn L i (cmP L i) (cmP (L ++ [x]) i):=by
 unfold cmP
 refine((na_mn i).mono (Nat.le_succ i)).bind (fun col j hj=>?_)
 simp only[is_app hx (show wLt≠wScan by decide)]
 split
 ·exact(rh_mn hx _ _ _).mono (by omega)
 ·exact((ex_mn hx (by decide) j).mono hj).bind (fun _ n hn=>(rh_mn hx _ _ n).mono hn)
theorem un_mn (hx:x.tx=wScan):∀(k i:Nat),Mn L i (unP L k i) (unP (L ++ [x]) k i)
 | 0,i=>by
   unfold unP
   refine(pk_mn i).bind (fun t j hj=>?_)
   simp only[is_app hx (show wNot≠wScan by decide),is_app hx (show wLp≠wScan by decide),is_app hx (show wAlways≠wScan by decide)]
   split
   ·exact wr_mn _ _ _ (.inr rfl)
   ·split
    ·exact .ok (by omega)
    ·exact(cm_mn hx j).mono hj
 | k+1,i=>by
   unfold unP
   refine(pk_mn i).bind (fun t j hj=>?_)
   simp only[is_app hx (show wNot≠wScan by decide),is_app hx (show wLp≠wScan by decide),is_app hx (show wAlways≠wScan by decide)]
   split
   ·exact((un_mn hx k (j+1)).mono (by omega)).bind (fun c n hn=>.ok hn)
   ·split
    ·refine((ch_mn hx (by decide) (ch_mn hx (by decide) (un_mn hx k)) (j+1)).mono (show i≤j+1 by omega)).bind (fun c n hn=>?_)
     exact((ex_mn hx (by decide) n).mono hn).bind (fun _ m hm=>.ok hm)
    ·split
     ·exact .ok (by omega)
     ·exact(cm_mn hx j).mono hj
theorem cd_mn (hx:x.tx=wScan) (k i:Nat):Mn L i (cdP L k i) (cdP (L ++ [x]) k i):=ch_mn hx (by decide) (ch_mn hx (by decide) (un_mn hx k)) i
theorem rnL_mn (hx:x.tx=wScan):∀(f:Nat) (cs ns:List (List UInt8)) (i:Nat),L.length+1≤f+i→i≤L.length→Mn L i (rnL L f cs ns i) (rnL (L ++ [x]) (f+1) cs ns i)
 | 0,cs,ns,i,h,h2=>by omega
 | f+1,cs,ns,i,h,h2=>by
   rw[rnL,rnL]
   refine((na_mn i).mono (Nat.le_succ i)).bind (fun a j hj=>?_)
   refine((ex_mn hx (by decide) j).mono hj).bind (fun _ n hn=>?_)
   refine((na_mn n).mono (show i≤n+1 by omega)).bind (fun b m hm=>?_)
   rw[is_app hx (by decide)]
   split
   ·rename_i q
    have:=is_ltO q
    exact(rnL_mn hx f _ _ (m+1) (by omega) (by omega)).mono (by omega)
   ·exact .ok (by omega)
theorem rlL_mn (hx:x.tx=wScan):∀(f r i:Nat),L.length+1≤f+i→i≤L.length→Mn L i (rlL L f r i) (rlL (L ++ [x]) (f+1) r i)
 | 0,r,i,h,h2=>by omega
 | f+1,r,i,h,h2=>by
   rw[rlL,rlL]
   refine(pk_mn i).bind (fun t j hj=>?_)
   cases (if t.k=1 then relP t.tx else none)with
   | none=>exact wr_mn _ _ _ (.inl rfl)
   | some z=>
     simp only[is_app hx (show wCm≠wScan by decide)]
     split
     ·rename_i q
      have:=is_ltO q
      exact(rlL_mn hx f _ (j+2) (by omega) (by omega)).mono (by omega)
     ·exact .ok (by omega)
theorem gr_mn (hx:x.tx=wScan) (i:Nat):Mn L i (grP L i) (grP (L ++ [x]) i):=by
 unfold grP
 refine(pk_mn i).bind (fun t j hj=>?_)
 refine Mn.bind (r:=if t.k≠1∨fnP t.tx=0 then nasP L j else .ok [] j) (r':=if t.k≠1∨fnP t.tx=0 then nasP (L ++ [x]) j else .ok [] j) ?_ (fun cs n hn=>?_)
 ·split
  ·exact(nas_mn hx j).mono hj
  ·exact .ok hj
 ·refine((pk_mn n).mono hn).bind (fun u m hm=>?_)
  split
  ·exact wr_mn _ _ _ (.inl rfl)
  ·refine Mn.bind (r:=if fnP u.tx=1 then .ok [] (m+1)else(naP L (m+1)).bind fun s j=>.ok [s] j) (r':=if fnP u.tx=1 then .ok [] (m+1)else(naP (L ++ [x]) (m+1)).bind fun s j=>.ok [s] j) ?_ (fun ns o ho=>?_)
   ·split
    ·exact .ok (by omega)
    ·exact((na_mn (m+1)).mono (show i≤m+1+1 by omega)).bind (fun s p hp=>.ok hp)
   ·exact((ex_mn hx (by decide) o).mono ho).bind (fun _ p hp=>((na_mn p).mono (show i≤p+1 by omega)).bind (fun s q hq=>.ok hq))
theorem bd_mn (hx:x.tx=wScan) {qp qp':Nat→Rs (Tr QnD)} (hq:∀i,1≤i→Mn L i (qp i) (qp' i)) (k:Int) (i:Nat) (h1:1≤i) (h2:i≤L.length):Mn L i (bdP L qp k i) (bdP (L ++ [x]) qp' k i):=by
 have hof:∀j,i≤j→Mn L j (ofP L qp j) (ofP (L ++ [x]) qp' j):=fun j hj=>by
  unfold ofP
  exact(ex_mn hx (by decide) j).bind (fun _ n hn=>((hq n (by omega)).mono hn).bind (fun q m hm=>.ok hm))
 have hpr:∀j,i≤j→Mn L j (prP L qp j) (prP (L ++ [x]) qp' j):=fun j hj=>by
  unfold prP
  exact(ex_mn hx (by decide) j).bind (fun _ j1 hj1=>((hq j1 (by omega)).mono hj1).bind (fun q n hn=>((ex_mn hx (by decide) n).mono hn).bind (fun _ m hm=>((hq m (by omega)).mono hm).bind (fun b o ho=>((ex_mn hx (by decide) o).mono ho).bind (fun _ p hp=>.ok hp)))))
 unfold bdP
 split
 ·exact((na_mn i).mono (Nat.le_succ i)).bind (fun s n hn=>.ok hn)
 ·split
  ·exact(ex_mn hx (by decide) i).bind (fun _ n hn=>((cd_mn hx 12 n).mono hn).bind (fun c m hm=>((ex_mn hx (by decide) m).mono hm).bind (fun _ o ho=>((hof o ho).mono ho).bind (fun l p hp=>.ok hp))))
  ·split
   ·exact(nas_mn hx i).bind (fun s o ho=>((hof o ho).mono ho).bind (fun l p hp=>.ok hp))
   ·split
    ·rw[List.length_append,List.length_singleton]
     exact(rnL_mn hx _ _ _ i (by omega) h2).bind (fun s o ho=>((hof o ho).mono ho).bind (fun l p hp=>.ok hp))
    ·split
     ·exact(tm_mn hx i).bind (fun f n hn=>((ex_mn hx (by decide) n).mono hn).bind (fun _ m hm=>((tm_mn hx m).mono hm).bind (fun t o ho=>((hof o ho).mono ho).bind (fun l p hp=>.ok hp))))
     ·split
      ·exact(gr_mn hx i).bind (fun s o ho=>((hof o ho).mono ho).bind (fun l p hp=>.ok hp))
      ·split
       ·rw[List.length_append,List.length_singleton]
        exact(rlL_mn hx _ _ i (by omega) h2).bind (fun s o ho=>((hpr o ho).mono ho).bind (fun l p hp=>.ok hp))
       ·exact(hpr i (Nat.le_refl _)).bind (fun l p hp=>.ok hp)
theorem qr_mn (hx:x.tx=wScan):∀(k i:Nat),Mn L i (qrP L k i) (qrP (L ++ [x]) k i)
 | 0,i=>by
   unfold qrP
   refine(pk_mn i).bind (fun t j hj=>?_)
   split
   ·exact wr_mn _ _ _ (.inl rfl)
   ·exact wr_mn _ _ _ (.inr rfl)
 | k+1,i=>by
   unfold qrP pkP
   cases h:L[i]? with
   | none=>exact .inl ⟨rfl,rfl,rfl⟩
   | some t=>
     rw[app_get h]
     show Mn L i (if t.k≠1∨kndP t.tx=0 then wrP L 3 i else bdP L (qrP L k) (kndP t.tx) (i+1)) (if t.k≠1∨kndP t.tx=0 then wrP (L ++ [x]) 3 i else bdP (L ++ [x]) (qrP (L ++ [x]) k) (kndP t.tx) (i+1))
     split
     ·exact wr_mn _ _ _ (.inl rfl)
     ·have:=(List.getElem?_eq_some_iff.1 h).1
      exact(bd_mn hx (fun n _=>qr_mn hx k n) _ (i+1) (by omega) (by omega)).mono (Nat.le_succ i)
theorem al_mn (hx:x.tx=wScan) {α:Type} {r r':Rs α} (h:Mn L 0 r r') {l c e:Int} (hb:alP L r = .bad l c e) :
  (e=4∧l=0∧c=0)∨(alP (L ++ [x]) r' = .bad l c e∧(e=3∨e=5)∧∃t∈L,t.ln=l∧t.cl=c):=by
 cases r with
 | bad l' c' e'=>
   injection hb with h1 h2 h3
   subst h1 h2 h3
   rcases h with h|⟨rfl,h⟩
   ·exact .inl h
   ·exact .inr ⟨rfl,h⟩
 | ok a j=>
   obtain⟨-,rfl⟩:=h
   unfold alP at hb ⊢
   simp only[Rs.bind]at hb ⊢
   by_cases q:j<L.length
   ·rw[if_pos q]at hb
    rw[if_pos (by rw[List.length_append];omega)]
    have w:=wr_mn (L:=L) (x:=x) (α:=α) 0 3 j (.inl rfl)
    rw[hb]at w
    exact w
   ·rw[if_neg q]at hb;cases hb
end
end Go.Proofs.YtlmeinikknoeeaaGreatDoor
namespace Go.Proofs.YtlmeinikknoeeaaGreatDoor
set_option linter.unusedVariables false
set_option linter.unnecessarySimpa false
set_option linter.unusedSimpArgs false
def inP:List UInt8→Int→Int→Int→Int→Prop
 | [],_,_,_,_=>False
 | b::r,ln,cl,l,c=>(b.toNat≠10∧l=ln∧c=cl)∨inP r (if b.toNat=10 then ln+1 else ln) (if b.toNat=10 then 1 else cl+1) l c
theorem inP_skip:∀(n:Nat) (s:List UInt8) (ln cl l c:Int),(∀b∈s.take n,b.toNat≠10)→inP (s.drop n) ln (cl+n) l c→inP s ln cl l c
 | 0,s,ln,cl,l,c,_,h=>by
   rw[List.drop_zero]at h
   have e:cl+((0:Nat):Int)=cl:=by omega
   rwa [e]at h
 | n+1,[],ln,cl,l,c,_,h=>by rw[List.drop_nil]at h;exact h
 | n+1,b::r,ln,cl,l,c,hb,h=>by
   rw[List.take_succ_cons]at hb
   have h1:=hb b (by simp)
   rw[inP,if_neg h1,if_neg h1]
   right
   refine inP_skip n r ln (cl+1) l c (fun x hx=>hb x (by simp[hx])) ?_
   rw[List.drop_succ_cons]at h
   have e:cl+1+(n:Int)=cl+((n+1:Nat):Int):=by omega
   rw[e]
   exact h
theorem inP_spl:∀(s:List UInt8) (ln cl l c:Int),inP s ln cl l c→∃h t,spl 10 s=h::t∧((l=ln∧cl≤c∧c<cl+h.length)∨∃i,∃hi:i<t.length,l=ln+1+i∧1≤c∧c≤(t[i]).length)
 | [],ln,cl,l,c,h=>h.elim
 | b::r,ln,cl,l,c,h=>by
   rw[inP]at h
   by_cases hb:b.toNat=10
   ·obtain rfl:b=10:=UInt8.toNat_inj.1 (by rw[hb];rfl)
    rw[if_pos hb,if_pos hb]at h
    rcases h with⟨h,_⟩|h
    ·exact absurd hb h
    ·obtain⟨x,t,e,h⟩:=inP_spl r _ _ _ _ h
     refine⟨[],x::t,by rw[spl_hit,e],.inr ?_⟩
     rcases h with⟨h1,h2,h3⟩|⟨i,hi,h1,h2,h3⟩
     ·exact⟨0,by simp,by simp;omega,h2,by simp only[List.getElem_cons_zero];omega⟩
     ·exact⟨i+1,by simp only[List.length_cons];omega,by omega,h2,by simpa using h3⟩
   ·have hne:b≠10:=fun e=>hb (by rw[e];rfl)
    rw[if_neg hb,if_neg hb]at h
    obtain⟨x,t,e,e2⟩:=spl_cons 10 b r hne
    refine⟨b::x,t,e2,?_⟩
    rcases h with⟨_,rfl,rfl⟩|h
    ·exact .inl ⟨rfl,Int.le_refl _,by simp only[List.length_cons];omega⟩
    ·obtain⟨x',t',e',h⟩:=inP_spl r _ _ _ _ h
     rw[e]at e'
     obtain⟨rfl,rfl⟩:=List.cons.inj e'
     rcases h with⟨h1,h2,h3⟩|h
     ·exact .inl ⟨h1,by omega,by simp only[List.length_cons];omega⟩
     ·exact .inr h
theorem inP_law {s:List UInt8} {l c:Int} (h:inP s 1 1 l c):1≤l∧l≤(spl 10 s).length∧1≤c∧∃x,(spl 10 s)[(l-1).toNat]? = some x∧c≤x.length:=by
 obtain⟨x,t,e,h⟩:=inP_spl s 1 1 l c h
 rw[e]
 rcases h with⟨rfl,h2,h3⟩|⟨i,hi,rfl,h2,h3⟩
 ·exact⟨Int.le_refl _,by simp only[List.length_cons];omega,h2,x,by simp,by omega⟩
 ·refine⟨by omega,by simp only[List.length_cons];omega,h2,t[i],?_,h3⟩
  have e1:((1+1+(i:Int))-1).toNat=i+1:=by omega
  rw[e1,List.getElem?_cons_succ,List.getElem?_eq_getElem hi]
abbrev sfx:List UInt8:=32::wScan
theorem tw_app {p:UInt8→Bool} (hp:p 32=false) (s x:List UInt8):(s++32::x).takeWhile p=s.takeWhile p:=by
 induction s with
 | nil=>rw[List.nil_append,List.takeWhile_cons,hp];rfl
 | cons c r ih=>
   rw[List.cons_append,List.takeWhile_cons,List.takeWhile_cons,ih]
theorem tw_take (p:UInt8→Bool) (s:List UInt8):s.take (s.takeWhile p).length=s.takeWhile p:=by
 induction s with
 | nil=>rfl
 | cons c r ih=>
   rw[List.takeWhile_cons]
   split
   ·rw[List.length_cons,List.take_succ_cons,ih]
   ·rfl
theorem qtL_app:∀(n:Nat) (l acc:List UInt8),l.length=n→qtL (l++sfx) acc=(qtL l acc).map fun q=>(q.1,q.2++sfx)
 | n,[],acc,_=>by
   show qtL sfx acc=(qtL [] acc).map _
   have:qtL [] acc=none:=by unfold qtL;rfl
   rw[this]
   show qtL (32::115::99::97::110 :: []) acc=none
   iterate 6 (unfold qtL)
   simp
 | n,c::r,acc,hn=>by
   rw[List.cons_append]
   unfold qtL
   split
   ·rfl
   ·split
    ·rfl
    ·split
     ·cases r with
      | nil=>rfl
      | cons d r'=>
        simp only[List.cons_append]
        split
        ·exact qtL_app (n-2) r' _ (by simp at hn;omega)
        ·rfl
     ·exact qtL_app (n-1) r _ (by simp at hn;omega)
theorem qtL_nl:∀(n:Nat) (l acc a x:List UInt8),l.length=n→qtL l acc=some (a,x)→∃y,l=y++x∧∀b∈y,b.toNat≠10
 | n,[],acc,a,x,_,h=>by unfold qtL at h;cases h
 | n,c::r,acc,a,x,hn,h=>by
   unfold qtL at h
   split at h
   ·rename_i hc
    injection h with h
    obtain⟨rfl,rfl⟩:=Prod.mk.inj h
    exact⟨[c],rfl,fun b hb=>by rw[List.mem_singleton]at hb;subst hb;omega⟩
   ·split at h
    ·cases h
    ·split at h
     ·cases r with
      | nil=>cases h
      | cons d r'=>
        simp only at h
        split at h
        ·rename_i hd
         obtain⟨y,rfl,hy⟩:=qtL_nl (n-2) r' _ a x (by simp at hn;omega) h
         refine⟨c::d::y,rfl,fun b hb=>?_⟩
         simp only[List.mem_cons]at hb
         rcases hb with rfl|rfl|hb
         ·omega
         ·omega
         ·exact hy b hb
        ·cases h
     ·obtain⟨y,rfl,hy⟩:=qtL_nl (n-1) r _ a x (by simp at hn;omega) h
      refine⟨c::y,rfl,fun b hb=>?_⟩
      rcases List.mem_cons.1 hb with rfl|hb
      ·omega
      ·exact hy b hb
theorem wdC_nl {c:UInt8} (h:wdC c=true):c.toNat≠10:=by
 intro e
 have:c=10:=UInt8.toNat_inj.1 (by rw[e];rfl)
 subst this
 revert h
 decide
theorem cnB_nl {c:UInt8} (h:cnB c=true):c.toNat≠10:=by
 intro e
 have:c=10:=UInt8.toNat_inj.1 (by rw[e];rfl)
 subst this
 revert h
 decide
section
variable {mom:List UInt8→Option Int}
theorem tkT_app (c:UInt8) (r:List UInt8):tkT mom (c::r++sfx)=tkT mom (c::r):=by
 rw[List.cons_append,tkT,tkT]
 have e1:(c::(r++sfx)).takeWhile wdC=(c::r).takeWhile wdC:=tw_app (p:=wdC) (by decide) (c::r) wScan
 have e2:(c::(r++sfx)).takeWhile cnB=(c::r).takeWhile cnB:=tw_app (p:=cnB) (by decide) (c::r) wScan
 rw[e1,e2,qtL_app _ r [] rfl]
 cases h:qtL r []with
 | none=>rfl
 | some q=>
   obtain⟨a,x⟩:=q
   have:=qtL_len _ _ _ _ _ rfl h
   have e3:(c::(r++sfx)).length-(x++sfx).length=(c::r).length-x.length:=by
    simp only[List.length_cons,List.length_append];omega
   simp only[Option.map_some,e3]
theorem tkT_nl {s:List UInt8} {k:Int} {tx:List UInt8} {v:ValD} {n:Nat} (h:tkT mom s = .ok k tx v n):∀b∈s.take n,b.toNat≠10:=by
 cases s with
 | nil=>cases h
 | cons c r=>
   rw[tkT]at h
   split at h
   ·injection h with h1 h2 h3 h4
    rw[←h4,tw_take]
    intro b hb
    exact wdC_nl (List.all_eq_true.1 (tw_all wdC (c::r)) b hb)
   ·split at h
    ·split at h
     ·cases h
     ·injection h with h1 h2 h3 h4
      rw[←h4,tw_take]
      intro b hb
      exact cnB_nl (List.all_eq_true.1 (tw_all cnB (c::r)) b hb)
    ·split at h
     ·rename_i hq
      split at h
      ·cases h
      ·rename_i a x hx
       injection h with h1 h2 h3 h4
       obtain⟨y,rfl,hy⟩:=qtL_nl _ _ _ _ _ rfl hx
       have e:(c::(y++x)).length-x.length=(c::y).length:=by simp only[List.length_cons,List.length_append];omega
       rw[←h4,e]
       have e2:c::(y++x)=(c::y)++x:=rfl
       rw[e2,List.take_left]
       intro b hb
       rcases List.mem_cons.1 hb with rfl|hb
       ·omega
       ·exact hy b hb
     ·rename_i hnq
      split at h
      ·rename_i hs
       injection h with h1 h2 h3 h4
       rw[←h4]
       intro b hb
       simp only[List.take_succ_cons,List.take_zero,List.mem_singleton]at hb
       subst hb
       intro e
       have:b=10:=UInt8.toNat_inj.1 (by rw[e];rfl)
       subst this
       revert hs
       decide
      ·cases h
theorem lexL_app:∀(f:Nat) (g:Nat) (s:List UInt8) (ln cl:Int) (acc:List TkD),s.length≤f→(s++sfx).length≤g→
  match lexL mom f s ln cl acc with
  | .bad l c e=>lexL mom g (s++sfx) ln cl acc = .bad l c e∧(e=3∨e=9)∧inP s ln cl l c
  | .ok L=>(∃l c,lexL mom g (s++sfx) ln cl acc = .ok (L ++ [⟨1,wScan,ValD.zero,l,c⟩]))∧∀t∈L,t∈acc∨inP s ln cl t.ln t.cl
 | f,g,[],ln,cl,acc,_,hg=>by
   have e:lexL mom f [] ln cl acc = .ok acc:=by cases f<;>rfl
   rw[e]
   refine⟨⟨ln,cl+1,?_⟩,fun t ht=>.inl ht⟩
   rw[lexL_fuel g 5 _ _ _ _ hg (by decide)]
   rfl
 | 0,g,c::r,ln,cl,acc,h,_=>by simp only[List.length_cons]at h;omega
 | f+1,0,c::r,ln,cl,acc,_,h=>by simp only[List.length_cons,List.cons_append]at h;omega
 | f+1,g+1,c::r,ln,cl,acc,hf,hg=>by
   simp only[List.length_cons,List.cons_append]at hf hg
   rw[lexL,List.cons_append,lexL]
   by_cases h1:c.toNat=10
   ·rw[if_pos h1,if_pos h1]
    have:=lexL_app f g r (ln+1) 1 acc (by omega) (by omega)
    cases hr:lexL mom f r (ln+1) 1 acc with
    | bad l cc e=>
      rw[hr]at this
      exact⟨this.1,this.2.1,by rw[inP,if_pos h1,if_pos h1];exact .inr this.2.2⟩
    | ok L=>
      rw[hr]at this
      refine⟨this.1,fun t ht=>?_⟩
      rcases this.2 t ht with q|q
      ·exact .inl q
      ·exact .inr (by rw[inP,if_pos h1,if_pos h1];exact .inr q)
   ·rw[if_neg h1,if_neg h1]
    by_cases h2:blB c=true
    ·rw[if_pos h2,if_pos h2]
     have:=lexL_app f g r ln (cl+1) acc (by omega) (by omega)
     cases hr:lexL mom f r ln (cl+1) acc with
     | bad l cc e=>
       rw[hr]at this
       exact⟨this.1,this.2.1,by rw[inP,if_neg h1,if_neg h1];exact .inr this.2.2⟩
     | ok L=>
       rw[hr]at this
       refine⟨this.1,fun t ht=>?_⟩
       rcases this.2 t ht with q|q
       ·exact .inl q
       ·exact .inr (by rw[inP,if_neg h1,if_neg h1];exact .inr q)
    ·rw[if_neg h2,if_neg h2]
     have e:=tkT_app (mom:=mom) c r
     rw[List.cons_append]at e
     rw[e]
     cases ht:tkT mom (c::r)with
     | bad e=>
       exact⟨rfl,tkT_bad ht,by rw[inP];exact .inl ⟨h1,rfl,rfl⟩⟩
     | ok k tx v n=>
       have hn:=tkT_n ht
       have hnl:=tkT_nl ht
       simp only[List.length_cons]at hn
       have hd:(c::(r++sfx)).drop n=(c::r).drop n++sfx:=by
        rw[←List.cons_append,List.drop_append_of_le_length (by simp only[List.length_cons];omega)]
       simp only
       rw[hd]
       have hl:((c::r).drop n).length=r.length+1-n:=by rw[List.length_drop,List.length_cons]
       have:=lexL_app f g ((c::r).drop n) ln (cl+n) (acc ++ [⟨k,tx,v,ln,cl⟩]) (by rw[hl];omega) (by rw[List.length_append,hl];simp only[List.length_append,List.length_cons]at hg ⊢;omega)
       cases hr:lexL mom f ((c::r).drop n) ln (cl+n) (acc ++ [⟨k,tx,v,ln,cl⟩])with
       | bad l cc e=>
         rw[hr]at this
         exact⟨this.1,this.2.1,inP_skip n _ _ _ _ _ hnl this.2.2⟩
       | ok L=>
         rw[hr]at this
         refine⟨this.1,fun t ht'=>?_⟩
         rcases this.2 t ht' with q|q
         ·rw[List.mem_append,List.mem_singleton]at q
          rcases q with q|rfl
          ·exact .inl q
          ·exact .inr (by rw[inP];exact .inl ⟨h1,rfl,rfl⟩)
         ·exact .inr (inP_skip n _ _ _ _ _ hnl q)
theorem plc_law (s:List UInt8) (hs:s.length≤2000) :
  match paQ mom s with
  | .ok _ _=>True
  | .bad l c e=>(l=0∧c=0∧e≠3∧e≠9)∨((e=3∨e=9∨e=5)∧inP s 1 1 l c∧paQ mom (s++sfx) = .bad l c e):=by
 have hlx:=lexL_app (mom:=mom) s.length (s++sfx).length s 1 1 [] (Nat.le_refl _) (Nat.le_refl _)
 have hs2:(s++sfx).length≤2005:=by rw[List.length_append];simp only[List.length_cons,List.length_nil];omega
 have e1:lexT mom s=lexL mom s.length s 1 1 []:=if_neg (by omega)
 have e2:lexT mom (s++sfx)=lexL mom (s++sfx).length (s++sfx) 1 1 []:=if_neg (by omega)
 unfold paQ
 cases hr:reP mom (fun L=>qrP L 12) s with
 | ok q i=>
   show(match (if vdQ q=true then Rs.ok q i else Rs.bad 0 0 1)with | .ok _ _=>True | .bad l c e=>_)
   split
   ·rename_i h;trivial
   ·rename_i l c e h
    split at h
    ·cases h
    ·injection h with h1 h2 h3
     subst h1 h2 h3
     exact .inl ⟨rfl,rfl,by decide,by decide⟩
 | bad l c e=>
   show(l=0∧c=0∧e≠3∧e≠9)∨((e=3∨e=9∨e=5)∧inP s 1 1 l c∧_)
   unfold reP at hr ⊢
   rw[e1]at hr
   rw[e2]
   cases hL:lexL mom s.length s 1 1 []with
   | bad l' c' e'=>
     rw[hL]at hr hlx
     injection hr with h1 h2 h3
     subst h1 h2 h3
     refine .inr ⟨?_,hlx.2.2,by rw[hlx.1];rfl⟩
     rcases hlx.2.1 with h|h
     ·exact .inl h
     ·exact .inr (.inl h)
   | ok L=>
     rw[hL]at hr hlx
     obtain⟨⟨l',c',hx⟩,hin⟩:=hlx
     rw[hx]
     rcases al_mn (x:=⟨1,wScan,ValD.zero,l',c'⟩) rfl (qr_mn (x:=⟨1,wScan,ValD.zero,l',c'⟩) rfl 12 0) hr with⟨rfl,rfl,rfl⟩|⟨h1,h2,t,ht,rfl,rfl⟩
     ·exact .inl ⟨rfl,rfl,by decide,by decide⟩
     ·refine .inr ⟨?_,?_,by simp only;rw[h1];rfl⟩
      ·rcases h2 with h|h
       ·exact .inl h
       ·exact .inr (.inr h)
      ·rcases hin t ht with h|h
       ·cases h
       ·exact h
end
end Go.Proofs.YtlmeinikknoeeaaGreatDoor
namespace Go.Proofs.YtlmeinikknoeeaaGreatDoor
set_option linter.unusedVariables false
set_option linter.unnecessarySimpa false
set_option linter.unusedSimpArgs false
structure TkN where
 k:Int
 tx:List UInt8
 v:ValD
deriving DecidableEq
def TkD.s (t:TkD):TkN:=⟨t.k,t.tx,t.v⟩
def wT (w:List UInt8):TkN:=⟨1,w,ValD.zero⟩
def yT (c:UInt8):TkN:=⟨3,[c],ValD.zero⟩
def sepB (s:List UInt8):Prop:=∀c r,s=c::r→wdC c=false∧cnB c=false
theorem sepB.nil:sepB []:=fun c r h=>by cases h
theorem sepB.cons {c:UInt8} {r:List UInt8} (h:wdC c=false∧cnB c=false):sepB (c::r):=fun d x e=>by
 obtain⟨rfl,-⟩:=List.cons.inj e
 exact h
section
variable (mom:List UInt8→Option Int)
def lexS (s:List UInt8) (ln cl:Int) (acc:List TkD):LxR:=lexL mom s.length s ln cl acc
def LzA (s:List UInt8) (ts:List TkN):Prop:=∀(rest:List UInt8) (ln cl:Int) (acc:List TkD),∃(ln' cl':Int) (ps:List TkD),ps.map TkD.s=ts∧lexS mom (s++rest) ln cl acc=lexS mom rest ln' cl' (acc++ps)
def LzS (s:List UInt8) (ts:List TkN):Prop:=∀(rest:List UInt8),sepB rest→∀(ln cl:Int) (acc:List TkD),∃(ln' cl':Int) (ps:List TkD),ps.map TkD.s=ts∧lexS mom (s++rest) ln cl acc=lexS mom rest ln' cl' (acc++ps)
end
section
variable {mom:List UInt8→Option Int}
theorem LzA.s {s:List UInt8} {ts:List TkN} (h:LzA mom s ts):LzS mom s ts:=fun rest _=>h rest
theorem LzA.nil:LzA mom [] []:=fun rest ln cl acc=>⟨ln,cl,[],rfl,by rw[List.nil_append,List.append_nil]⟩
def sepN (s:List UInt8):Prop:=∃c r,s=c::r∧wdC c=false∧cnB c=false
theorem sepN.b {s:List UInt8} (h:sepN s):sepB s:=by
 obtain⟨c,x,rfl,h1⟩:=h
 exact .cons h1
def escQ:List UInt8→List UInt8
 | []=>[]
 | c::r=>if c.toNat=34∨c.toNat=92 then 92::c::escQ r else c::escQ r
end
end Go.Proofs.YtlmeinikknoeeaaGreatDoor
namespace Go.Proofs.YtlmeinikknoeeaaGreatDoor
set_option linter.unusedVariables false
set_option linter.unnecessarySimpa false
set_option linter.unusedSimpArgs false
structure MomQ (mom:List UInt8→Option Int) (momT:Int→List UInt8):Prop where
 rd:∀t,-62135596800≤t→t<253402300800→mom (momT t)=some t
 ch:∀t,-62135596800≤t→t<253402300800→∃c r,momT t=c::r∧isDg c=true∧(c::r).all cnB=true
 no:∀n,mom (decZ n)=none
section
variable (momT:Int→List UInt8)
def vlT (v:ValD):List UInt8:=
 if v.k=1 then decZ v.n else if v.k=2 then 34::escQ v.s ++ [34]else if v.k=3 then(if v.n=1 then wTrue else wFalse)else if v.n=253402300800 then wForever else momT v.n
def vlK (v:ValD):List TkN:=
 if v.k=1 then [⟨2,decZ v.n,v⟩]else if v.k=2 then [⟨2,[],v⟩]else if v.k=3 then [wT (if v.n=1 then wTrue else wFalse)]else if v.n=253402300800 then [wT wForever]else [⟨2,momT v.n,v⟩]
variable (bl:List UInt8)
def prA (x:Int×List UInt8) (a b:Int):List UInt8:=if x.1=a∨x.1=b then 40::(x.2 ++ [41])else x.2
def pkA (x:Int×List TkN) (a b:Int):List TkN:=if x.1=a∨x.1=b then yT 40::(x.2 ++ [yT 41])else x.2
def ndX (d:CdD) (l:List (Int×List UInt8)):List UInt8:=
 if d.k=3 then wAlways
 else if d.k=4 then wNot++(bl++prA (l.getD 0 (0,[])) 5 6)
 else if d.k=5 then prA (l.getD 0 (0,[])) 6 6++(bl++(wAnd++(bl++prA (l.getD 1 (0,[])) 6 5)))
 else if d.k=6 then(l.getD 0 (0,[])).2++(bl++(wOr++(bl++prA (l.getD 1 (0,[])) 6 6)))
 else d.col++(bl++([if d.k=1 then 61 else 60]++(bl++(if d.oth = []then vlT momT d.v else d.oth))))
def ndK (d:CdD) (l:List (Int×List TkN)):List TkN:=
 if d.k=3 then [wT wAlways]
 else if d.k=4 then wT wNot::pkA (l.getD 0 (0,[])) 5 6
 else if d.k=5 then pkA (l.getD 0 (0,[])) 6 6++(wT wAnd::pkA (l.getD 1 (0,[])) 6 5)
 else if d.k=6 then(l.getD 0 (0,[])).2++(wT wOr::pkA (l.getD 1 (0,[])) 6 6)
 else wT d.col::yT (if d.k=1 then 61 else 60)::(if d.oth = []then vlK momT d.v else [wT d.oth])
mutual
def tcX:Tr CdD→List UInt8
 | .mk d l=>ndX momT bl d (tcXs l)
def tcXs:List (Tr CdD)→List (Int×List UInt8)
 | []=>[]
 | c::r=>(c.a.k,tcX c)::tcXs r
end
mutual
def toC:Tr CdD→List TkN
 | .mk d l=>ndK momT d (toCs l)
def toCs:List (Tr CdD)→List (Int×List TkN)
 | []=>[]
 | c::r=>(c.a.k,toC c)::toCs r
end
end
section
variable {mom:List UInt8→Option Int} {momT:Int→List UInt8} {bl:List UInt8}
theorem nm_parts {s:List UInt8} (h:nmQ s=true):∃c r,s=c::r∧ltQ c=true∧(c::r).all wdC=true∧s.length≤30∧rsvW.contains s=false:=by
 unfold nmQ nmH at h
 simp only[Bool.and_eq_true,decide_eq_true_eq,Bool.not_eq_true']at h
 obtain⟨⟨⟨⟨h1,h2⟩,h3⟩,h4⟩,h5⟩:=h
 cases s with
 | nil=>simp at h1
 | cons c r=>exact⟨c,r,rfl,h3,h4,h2,h5⟩
mutual
def bnC:Tr CdD→Prop
 | .mk d l=>(-9223372036854775808≤d.v.n∧d.v.n≤9223372036854775807)∧bnCs l
def bnCs:List (Tr CdD)→Prop
 | []=>True
 | c::r=>bnC c∧bnCs r
end
theorem len1 {α:Type} {l:List α} (h:l.length=1):∃a,l = [a]:=by
 cases l with
 | nil=>cases h
 | cons a r=>cases r with
   | nil=>exact⟨a,rfl⟩
   | cons b r=>simp at h
theorem len2 {α:Type} {l:List α} (h:l.length=2):∃a b,l = [a,b]:=by
 cases l with
 | nil=>cases h
 | cons a r=>
   obtain⟨b,rfl⟩:=len1 (l:=r) (by simpa using h)
   exact⟨a,b,rfl⟩
inductive CdS:CdD→List (Tr CdD)→Prop
 | cmpV {k:Int} {col:List UInt8} {v:ValD} (hk:k=1∨k=2) (hv:vlQ v=true):CdS ⟨k,col,[],v⟩ []
 | cmpO {k:Int} {col oth:List UInt8} (hk:k=1∨k=2) (ho:oth≠[]):CdS ⟨k,col,oth,ValD.zero⟩ []
 | alw:CdS (opD 3) []
 | not (a:Tr CdD):CdS (opD 4) [a]
 | two (k:Int) (hk:k=5∨k=6) (a b:Tr CdD):CdS (opD k) [a,b]
theorem cdN_shape {d:CdD} {l:List (Tr CdD)} (h:cdN d l.length=true):CdS d l:=by
 obtain⟨k,col,oth,v⟩:=d
 unfold cdN at h
 simp only at h
 split at h
 ·rename_i hk
  simp only[Bool.and_eq_true,decide_eq_true_eq]at h
  obtain⟨⟨-,h2⟩,h3⟩:=h
  obtain rfl:=List.length_eq_zero_iff.1 h2
  split at h3
  ·rename_i ho;subst ho;exact .cmpV hk h3
  ·rename_i ho
   rw[decide_eq_true_eq]at h3
   subst h3
   exact .cmpO hk ho
 ·split at h
  ·rename_i hk
   simp only[Bool.and_eq_true,decide_eq_true_eq]at h
   obtain⟨⟨⟨rfl,rfl⟩,rfl⟩,h4⟩:=h
   have:k=3∨k=4∨k=5∨k=6:=by omega
   rcases this with rfl|rfl|rfl|rfl
   ·obtain rfl:=List.length_eq_zero_iff.1 h4
    exact .alw
   ·obtain⟨a,rfl⟩:=len1 h4
    exact .not a
   ·obtain⟨a,b,rfl⟩:=len2 h4
    exact .two 5 (.inl rfl) a b
   ·obtain⟨a,b,rfl⟩:=len2 h4
    exact .two 6 (.inr rfl) a b
  ·cases h
end
end Go.Proofs.YtlmeinikknoeeaaGreatDoor
namespace Go.Proofs.YtlmeinikknoeeaaGreatDoor
set_option linter.unusedVariables false
set_option linter.unnecessarySimpa false
set_option linter.unusedSimpArgs false
section
variable (L:List TkD)
def AtT:Nat→List TkN→Prop
 | _,[]=>True
 | i,t::r=>(∃u,L[i]? = some u∧u.s=t)∧AtT (i+1) r
end
section
variable {L:List TkD} {momT:Int→List UInt8}
theorem AtT.len {ts:List TkN}:∀{i:Nat},AtT L i ts→ts≠[]→i+ts.length≤L.length:=by
 induction ts with
 | nil=>intro i _ h;exact absurd rfl h
 | cons t r ih=>
   intro i h _
   obtain⟨⟨u,hu,-⟩,h2⟩:=h
   have:=(List.getElem?_eq_some_iff.1 hu).1
   rw[List.length_cons]
   by_cases hr:r = []
   ·subst hr;simp;omega
   ·have:=ih h2 hr;omega
end
end Go.Proofs.YtlmeinikknoeeaaGreatDoor
