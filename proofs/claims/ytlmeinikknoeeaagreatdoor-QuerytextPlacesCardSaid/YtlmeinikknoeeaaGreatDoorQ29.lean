/- Queries: the parser in memory; a query of each kind, under what is known of its operands. -/
import Derived.Test.YtlmeinikknoeeaaGreatDoorQ28
import Derived.IntWalk
namespace Go.Proofs.YtlmeinikknoeeaaGreatDoor
set_option linter.unusedVariables false
set_option linter.unnecessarySimpa false
set_option linter.unusedSimpArgs false
open Go.RowKit
theorem Rs.ok_bind {α β:Type} (a:α) (i:Nat) (f:α→Nat→Rs β):(Rs.ok a i).bind f=f a i:=rfl
def qN (k:Int) (tb:List UInt8) (cs:List (List UInt8)) (ca:Option Addr) (cc:Nat) (ns:List (List UInt8)) (na:Option Addr) (nc:Nat) (cond:Cnd) (rel fn f t:Int) (ao:Option Addr) (cap:Nat) (l:List Qry):Qry:=.mk ⟨k,tb,cs,ca,cc,ns,na,nc,cond,rel,fn,f,t,ao,cap⟩ l
theorem InQ.qN {A:Nat→Prop} {w:World} {k:Int} {tb:List UInt8} {cs:List (List UInt8)} {ca:Option Addr} {cc:Nat} {ns:List (List UInt8)} {na:Option Addr} {nc:Nat} {cond:Cnd} {rel fn f t:Int} {ao:Option Addr} {cap:Nat} {l:List Qry}
  (h1:TxA A w ca cc cs) (h2:TxA A w na nc ns) (h3:InC A w cond) (h4:Bs tb) (h5:Bi k) (h6:Bi rel) (h7:Bi fn) (h8:Bi f) (h9:Bi t) (h10:RdT qnS A w ao cap l) (h11:∀x∈l,InQ A w x):InQ A w (Go.Proofs.YtlmeinikknoeeaaGreatDoor.qN k tb cs ca cc ns na nc cond rel fn f t ao cap l):=by
 unfold InQ Go.Proofs.YtlmeinikknoeeaaGreatDoor.qN
 rw[InT]
 exact⟨⟨h1,h2,h3,h4,h5,h6,h7,h8,h9⟩,h10,InTs.of qnS h11⟩
theorem map_qN {k:Int} {tb:List UInt8} {cs:List (List UInt8)} {ca:Option Addr} {cc:Nat} {ns:List (List UInt8)} {na:Option Addr} {nc:Nat} {cond:Cnd} {rel fn f t:Int} {ao:Option Addr} {cap:Nat} {l:List Qry} :
  mapT QnA.d (qN k tb cs ca cc ns na nc cond rel fn f t ao cap l) = .mk ⟨k,tb,cs,ns,mapT CdA.d cond,rel,fn,f,t⟩ (l.map (mapT QnA.d)):=by
 unfold qN
 rw[mapT,mapTs_map]
 rfl
theorem RdT.nilQ (A:Nat→Prop) (w:World):RdT qnS A w none 0 []:=⟨Nat.le_refl _,Nat.zero_le _,fun h=>absurd rfl h⟩
theorem cd_zero_ok {A:Nat→Prop} {w:World}:cdS.ok A w ⟨CdD.zero,none,0⟩:=⟨bs_zero,bs_zero,bs_zero,bi_zero,bi_zero,bi_zero⟩
def KdO (x:Value) (w:World):Prop:=∃M,x = .map (some M)∧MpM M 10 kndP w
theorem KdO.ext {x:Value} {w w':World} (h:KdO x w) (hE:Ext w w'):KdO x w':=by
 obtain⟨M,h1,h2⟩:=h
 exact⟨M,h1,h2.ext hE⟩
theorem fa_q5 (D:Nat) (w:World):(Instr.fieldAt 32 (.pointer (some ⟨D,0,none⟩)) 5).run Tryz.prog w = .ok (.pointer (some ⟨D,11,none⟩)) w:=by kernel_rfl
theorem yr_shlZ {o:Oper} {a:Act} {w:World} {x y:Operand} {t2:TypeId} {z:Nat} (hop:o.op = .binOp .shl 3 x y t2) (hx:a.eval x = .int .i64 1) (hy:a.eval y = .int .i64 (z:Int)) (hz:z<13):(execOp a.eval o).run Tryz.prog w = .ok (.value (.int .i64 ((2 ^ z:Nat):Int))) w:=by
 unfold execOp
 simp only[hop,hx,hy]
 rcases (show z=0∨z=1∨z=2∨z=3∨z=4∨z=5∨z=6∨z=7∨z=8∨z=9∨z=10∨z=11∨z=12 by omega)with rfl|rfl|rfl|rfl|rfl|rfl|rfl|rfl|rfl|rfl|rfl|rfl|rfl<;>kernel_rfl
theorem wrap_natZ (n:Nat) (h:n<9223372036854775808):IntKind.i64.wrap (n:Int)=(n:Int):=IntWalk.i64_in _ (by omega)
theorem or_natZ (A B:Nat) (ha:A<8192) (hb:B<8192):(BitVec.ofInt IntKind.i64.bits (A:Int) ||| BitVec.ofInt IntKind.i64.bits (B:Int)).toNat=A ||| B:=by
 rw[BitVec.toNat_or,BitVec.ofInt_natCast,BitVec.ofInt_natCast,BitVec.toNat_ofNat,BitVec.toNat_ofNat]
 have e:(2:Nat) ^ IntKind.i64.bits=18446744073709551616:=rfl
 rw[e,Nat.mod_eq_of_lt (by omega),Nat.mod_eq_of_lt (by omega)]
theorem yr_orZ {o:Oper} {a:Act} {w:World} {x y:Operand} {t2:TypeId} {A B:Nat} (hop:o.op = .binOp .or 3 x y t2) (hx:a.eval x = .int .i64 (A:Int)) (hy:a.eval y = .int .i64 (B:Int)) (ha:A<8192) (hb:B<8192):(execOp a.eval o).run Tryz.prog w = .ok (.value (.int .i64 ((A ||| B:Nat):Int))) w:=by
 have h1:bits .or .i64 (A:Int) (B:Int)=((A ||| B:Nat):Int):=by
  unfold bits
  simp only[or_natZ A B ha hb]
  have:A ||| B<2 ^ 13:=Nat.or_lt_two_pow (by omega) (by omega)
  exact wrap_natZ _ (by omega)
 unfold execOp
 simp only[hop,hx,hy]
 simp[Result.andThen,go_sem,h1]
theorem fa_q0 (D:Nat) (w:World):(Instr.fieldAt 32 (.pointer (some ⟨D,0,none⟩)) 0).run Tryz.prog w = .ok (.pointer (some ⟨D,0,none⟩)) w:=by kernel_rfl
theorem own_frmY {w w':World} {b size n:Nat} {e:TypeId} {v:Value} {xs:List Value} {F:Nat→Prop} (h:w.ownsRow b e size v n xs) (hF:Frm F w w') (hn:∀k,v.ownBlock=some k→¬F k):w'.ownsRow b e size v n xs:=by
 refine⟨h.1,?_⟩
 rcases h.2 with q|⟨g,cap,cur,rfl,h1,h2,h3⟩
 ·exact .inl q
 ·exact .inr ⟨g,cap,cur,rfl,h1,(hF.block g (Array.getElem?_eq_some_iff.1 h2).1 (hn g rfl)).trans h2,h3⟩
def ApR2 (old:Option Nat) (b base:Nat) (Q:List (List UInt8)) (x:Value) (w:World):Prop:=∃no nc,x = .slice no Q.length nc∧w.ownsRow base 9 1 (.slice no Q.length nc) Q.length (sv Q)∧∀k,(Value.slice no Q.length nc).ownBlock=some k→old=some k∨b≤k
theorem ApR2.frm {old:Option Nat} {b base:Nat} {Q:List (List UInt8)} {x:Value} {S:Nat→Prop} {w w':World} (h:ApR2 old b base Q x w) (hF:Frm S w w') (hS:∀k,S k→k<base):ApR2 old b base Q x w':=by
 obtain⟨no,nc,h1,h2,h3⟩:=h
 exact⟨no,nc,h1,own_frmZ h2 hF (fun k h3 _ e=>by have:=hS _ e;omega),h3⟩
theorem ApR2.mk {old:Option Nat} {b base:Nat} {P:List (List UInt8)} {s:List UInt8} {v:Value} {w:World} (h:w.ownsRow base 9 1 v (P.length+1) (sv P ++ [.string ⟨s.toArray⟩])) (hat:∀k,v.ownBlock=some k→old=some k∨b≤k):ApR2 old b base (P ++ [s]) v w:=by
 obtain⟨no,nc,rfl⟩:=own_slice h
 refine⟨no,nc,by rw[List.length_append];rfl,?_,?_⟩
 ·rw[sv_app,List.length_append]
  exact h
 ·rw[List.length_append]
  exact hat
theorem wp_append_own_atZ {P:Program} (w:World) {o:Oper} {a:Act} {K:Act→World→Prop} {Q:Exit→Act→World→Prop} (s x:Operand) (t:TypeId)
  (ho:o.op = .call {callee:=.builtin .append,args:=#[s,x],argTypes:=#[t,t]})
  (base:Nat) (e:TypeId) (i:TypeInfo) (z:Value) (size bytes:Nat) (ht:P.underlying t=some (.slice e)) (hi:P.info? e=some i) (hz:i.zero=some z)
  (hsize:i.size=size) (hby:i.bytes=bytes) (hzs:z.cells.size=size) (hsz:0<size)
  (v:Value) (n:Nat) (xs:List Value) (hs:a.eval s=v) (hown:w.ownsRow base e size v n xs)
  (ad:Addr) (m c:Nat) (news:List Value) (hx:a.eval x = .slice (some ad) m c) (hl:news.length=m*size) (hnews:∀j u,news[j]? = some u→w.cell? (ad.add j)=some u) (h1:∀u∈news,u.oneCell'=true)
  (h63:n+m≤maxLen) (hbytes:(n+m)*bytes≤140737488355328) (hbase:base≤w.heap.size)
  (h:∀v' w',w'.ownsRow base e size v' (n+m) (xs++news)→w.grownBy w' v.ownBlock→(v'.ownBlock=v.ownBlock∨v'.ownBlock=some w.heap.size)→K (a.put o.dst v') w'):o.wp P a w K Q:=by
 obtain⟨v',w',hr,h2,h3,h4,h5⟩:=run_append_own_at (P:=P) w base t o.type e i z size bytes ht hi hz hsize hby hzs hsz v n xs hown ad m c news hl hnews h1 h63 hbytes hbase
 unfold Oper.wp execOp
 simp only[ho,resolve,invoke,builtin,Sem.run_bind,Sem.run_pure,Result.andThen_ok,List.map_toArray,List.map_cons,List.map_nil,hs,hx,hr]
 exact h v' w' h2 h3 h5
section
variable {L:List TkD} {ao:Option Addr} {cap B:Nat}
def RnR (L:List TkD) (ao:Option Addr) (cap B D:Nat) (w:World) (b0:Nat) (K0:List (List UInt8)×List (List UInt8)→Nat→Rs (Tr QnD)) (G:Rs (Tr QnD)) (g:Nat) (W:World):Prop:=
 ∃cs ns ca cc na nc q,L.length+1≤q+g∧(rnL L g cs ns q).bind K0=G∧Psr L ao cap B q W∧BxT D (qnS.vals (qN 4 [] cs ca cc ns na nc (lfC CdD.zero) 0 0 0 0 none 0 [])) W∧BxT w.heap.size zeroQ W∧
  W.ownsRow b0 9 1 (.slice ca cs.length cc) cs.length (sv cs)∧W.ownsRow b0 9 1 (.slice na ns.length nc) ns.length (sv ns)∧(∀k,(Value.slice ca cs.length cc).ownBlock=some k→(Value.slice na ns.length nc).ownBlock≠some k)∧
  (∀x∈cs,nmQ x=true)∧(∀x∈ns,nmQ x=true)∧cs.length≤q∧ns.length≤q∧Frm (fun k=>k=B) w W∧b0≤W.heap.size
def RlR (L:List TkD) (ao:Option Addr) (cap B D:Nat) (w:World) (K0:Nat→Nat→Rs (Tr QnD)) (G:Rs (Tr QnD)) (g:Nat) (W:World):Prop:=
 ∃r q,L.length+1≤q+g∧(rlL L g r q).bind K0=G∧Psr L ao cap B q W∧BxT D (qnS.vals (qN 10 [] [] none 0 [] none 0 (lfC CdD.zero) (r:Int) 0 0 0 none 0 [])) W∧BxT w.heap.size zeroQ W∧Frm (fun k=>k=B) w W∧r<8192
theorem rlL_no {g r q:Nat} {u:TkD} (hu:L[q]? = some u) (h:¬(u.k=1∧(relP u.tx).isSome=true)):rlL L (g+1) r q = .bad u.ln u.cl 3:=by
 rw[rlL,pkP_at hu]
 show(match (if u.k=1 then relP u.tx else none)with|none=>wrP L 3 q|some z=>_:Rs Nat)=_
 have e:(if u.k=1 then relP u.tx else none)=none:=by
  by_cases h1:u.k=1
  ·rw[if_pos h1]
   cases h2:relP u.tx with
   | none=>rfl
   | some z=>exact absurd ⟨h1,by rw[h2];rfl⟩ h
  ·rw[if_neg h1]
 rw[e]
 exact wrP_at hu 3
theorem rlL_yes {g r q z:Nat} {u:TkD} (hu:L[q]? = some u) (h1:u.k=1) (h2:relP u.tx=some z):rlL L (g+1) r q=if isP L wCm (q+1)=true then rlL L g (r ||| 2 ^ z) (q+2)else .ok (r ||| 2 ^ z) (q+1):=by
 rw[rlL,pkP_at hu]
 show(match (if u.k=1 then relP u.tx else none)with|none=>wrP L 3 q|some z=>_:Rs Nat)=_
 rw[if_pos h1,h2]
theorem pow_13 {z:Nat} (h:z<13):2 ^ z<8192:=by
 have:=Nat.pow_lt_pow_right (a:=2) (by omega) h
 simpa using this
theorem naP_bs {i j:Nat} {s:List UInt8} (h:naP L i = .ok s j):Bs s:=by
 have:=nmQ_len (naP_ok h).2.1
 unfold Bs
 omega
theorem tmP_bi {i j:Nat} {n:Int} {w:World} (hP:Psr L ao cap B i w) (h:tmP L i = .ok n j):Bi n:=by
 unfold tmP at h
 cases hi:L[i]? with
 | none=>unfold pkP at h;rw[hi]at h;cases h
 | some t=>
   rw[pkP_at hi]at h
   have h:(if isP L wForever i=true then Rs.ok 253402300800 (i+1)else if t.k=2∧t.v.k=4 then Rs.ok t.v.n (i+1)else wrP L 3 i)=Rs.ok n j:=h
   split at h
   ·injection h with h _;rw[←h];unfold Bi;omega
   ·split at h
    ·injection h with h _;rw[←h];exact(hP.bdt hi).2.2.2.2
    ·exact(wrP_no h).elim
theorem fnP_bi (s:List UInt8):Bi (fnP s):=by
 unfold fnP Bi
 repeat (split;omega)
 omega
theorem grP_fn {i j:Nat} {g:List (List UInt8)×Int×List (List UInt8)} (h:grP L i = .ok g j):Bi g.2.1:=by
 unfold grP at h
 cases h1:pkP L i with
 | bad l c e=>rw[h1]at h;cases h
 | ok t i1=>
   rw[h1]at h
   simp only[Rs.ok_bind]at h
   cases h2:(if t.k≠1∨fnP t.tx=0 then nasP L i1 else .ok [] i1:Rs _)with
   | bad l c e=>rw[h2]at h;cases h
   | ok cs i2=>
     rw[h2]at h
     simp only[Rs.ok_bind]at h
     cases h3:pkP L i2 with
     | bad l c e=>rw[h3]at h;cases h
     | ok u i3=>
       rw[h3]at h
       simp only[Rs.ok_bind]at h
       split at h
       ·exact(wrP_no h).elim
       ·cases h4:(if fnP u.tx=1 then .ok [] (i3+1)else(naP L (i3+1)).bind fun s j=>.ok [s] j:Rs (List (List UInt8)))with
        | bad l c e=>rw[h4]at h;cases h
        | ok ns i4=>
          rw[h4]at h
          simp only[Rs.ok_bind]at h
          cases h5:exP L wAs i4 with
          | bad l c e=>rw[h5]at h;cases h
          | ok z i5=>
            rw[h5]at h
            simp only[Rs.ok_bind]at h
            cases h6:naP L i5 with
            | bad l c e=>rw[h6]at h;cases h
            | ok s i6=>
              rw[h6]at h
              injection h with h _
              rw[←h]
              exact fnP_bi _
theorem PR.endq {w W':World} {r:Rs (Tr QnD)} {n:Qry} {c:Tr QnD} {j:Nat} (hr:r = .ok c j) {W:World} (hP:Psr L ao cap B j W) (hF:Frm (fun k=>k=B) w W) (hB:B<w.heap.size) (hI:InQ (fun k=>w.heap.size<k) W n) (hm:mapT QnA.d n=c) (hF6:Frm (fun k=>k=w.heap.size) W W') :
  PR L ao cap B w (QyV w.heap.size) r (.returned (.agg (qnS.vals n).toArray)) W':=
 PR.fin hr ⟨hP.frm hF6 (fun x e=>by omega),hF.step hF6 (fun x h1 e=>by omega)⟩ (Ext.refl _) ⟨n,rfl,(hI.kp (Kp.frm hF6 (fun k h1 e=>by omega))).mono (fun k h1 _=>by omega),hm⟩
set_option maxRecDepth 100000 in
set_option maxHeartbeats 16000000 in
theorem query_A {k:Nat} {d:Int} (hQ:QrK L ao cap B k (d+1)) {i:Nat} {w:World} (h:Psr L ao cap B i w) (t:TkD) (hi:L[i]? = some t) (hk:t.k=1) {K:Int} (hn:kndP t.tx=K) (hKs:K=1∨K=3∨K=5∨K=6∨K=7∨K=8) (hd:1≤d∧d≤12) :
  Calls Tryz.prog 58 #[.pointer (some ⟨B,0,none⟩),.int .i64 d] w (PR L ao cap B w (QyV w.heap.size) (qrP L (k+1) i)):=by
 have hK0:K≠0:=by omega
 have hKz:(K==0)=false:=by rw[beq_eq_false_iff_ne];exact hK0
 obtain⟨G,hG⟩:∃G,qrP L (k+1) i=G:=⟨_,rfl⟩
 have hg:bdP L (qrP L k) K (i+1)=G:=by
  rw[←hG,qrP,pkP_at hi]
  show _=(if t.k≠1∨kndP t.tx=0 then wrP L 3 i else bdP L (qrP L k) (kndP t.tx) (i+1))
  rw[if_neg (by rw[hk,hn];simp[hK0]),hn]
 have HG:=Lib.hid hg
 rw[hG]
 clear hG hg
 have HP:=fun w' (hE:Ext w w')=>Lib.hid (peek_ok (h.ext hE) t hi)
 have HQ:=Lib.hid hQ
 have hBl:=h.hB
 have ht:=(h.bdt hi).1
 unfold Bs at ht
 have hil:=h.lt2 hi
 have hl7:=h.hl
 have k1:(t.k==1)=true:=by rw[hk];rfl
 have Hk:=Lib.hid hk
 have Hn:=Lib.hid hn
 have hd1:=hd.1
 have hd2:=hd.2
 have hx1:(i:Int)≤70000:=by omega
 have HKs:=Lib.hid hKs
 clear hi hk hn hd hQ hK0 hKs
 go_enter Tryz.func58,Tryz.ntmps58
 go_wp2_with (first
  | ((with_reducible show wpList _ _ _ (⟨some 4,.alloc _,_,_,_,_⟩::_) _ _);refine wpl_new rfl 32 zeroQ rfl alloc_q ?_;intro W1 hE1 hR1 hz1)
  | (go_at_call 107;(with_reducible refine(HP _ hE1).out.mono ?_);rintro x w2 ⟨rfl,hE2⟩)
  | ((with_reducible show wpList _ _ _ (⟨some 5,.alloc _,_,_,_,_⟩::_) _ _);refine wpl_new rfl 140 zeroT rfl alloc_t ?_;intro W3 hE3 hR3 hz3)
  | ((with_reducible show wpList _ _ _ (⟨none,.store _ (.tmp 5) _,_,_,_,_⟩::_) _ _);refine wpl_st rfl 140 _ _ rfl w2.heap.size zeroT (tkC t) rfl rfl hR3 rfl (info_t t) (vals_one_t t) ?_;intro W4 hF4 hR4;have ct0:=hR4.at 0 _ rfl)
  | ((with_reducible show wpList _ _ _ (⟨some 6,.alloc _,_,_,_,_⟩::_) _ _);refine wpl_new rfl 32 zeroQ rfl alloc_q ?_;intro W5 hE5 hR5 hz5)
  | ((with_reducible show wpList _ _ _ (⟨none,.store _ (.tmp 6) _,_,_,_,_⟩::_) _ _);refine wpl_st rfl 32 _ _ rfl W4.heap.size zeroQ (qnS.vals (gqA 0 [] none 0 [] none 0 0)) rfl rfl hR5 rfl (info_q (gqA 0 [] none 0 [] none 0 0)) (vals_one_q (gqA 0 [] none 0 [] none 0 0)) ?_;intro W6 hF6 hR6;have ct1:=(hR4.ext hE5).frm hF6 (fun e=>by have:=hR4.hD;omega);have ct0:=ct1.at 0 _ rfl))
 have hs2:=hE2.size
 have hs4:=hF4.size
 have hs6:=hF6.size
 generalize hDD:W4.heap.size=D at *
 generalize hTT:w2.heap.size=T5 at *
 have HT5:=Lib.hid ct1
 have hEx6:Ext w W6:=Frm.far ((Frm.far ((hE1.trans hE2).trans hE3) hF4 (fun k h1 e=>by omega)).trans hE5) hF6 (fun k h1 e=>by omega)
 have HE6:=Lib.hid hEx6
 have HR6:=Lib.hid hR6
 have HRes:Hid (BxT w.heap.size zeroQ W6):=((((hR1.ext hE2).ext hE3).frm hF4 (fun e=>by omega)).ext hE5).frm hF6 (fun e=>by omega)
 have hwD:w.heap.size<D:=by omega
 have hT5D:T5≠D:=by omega
 clear ct0 ct1 hR4 hR3 hR5 hR6 hF4 hF6 hE5 hE3 hE2 hEx6 hR1
 refine wp_region_grow [16,17,18,19,20] [KdO,fun x _=>x = .pointer (some ⟨T5,1,none⟩),fun x _=>x = .string ⟨t.tx.toArray⟩,fun x _=>x = .int .i64 K,fun x _=>x = .pointer (some ⟨D,0,none⟩)] 1 (by kernel_rfl) (by kernel_rfl) (by kernel_rfl) (by kernel_rfl) ?_ ?_ ?_
 ·intro Rl hRl
  simp only[List.mem_cons,List.not_mem_nil,or_false]at hRl
  rcases hRl with rfl|rfl|rfl|rfl|rfl
  all_goals first
   | exact fun _ _ _ h _=>h
   | exact fun _ _ _ h hE=>KdO.ext h hE
 ·refine⟨?_,?_,?_,?_,?_,trivial⟩
  all_goals intro a wv hE hF hD K hK
  ·refine gs_callZ rfl (yr_callZ rfl rfl (show(#[]:Array Operand).map a.eval = #[] by simp) (by kernel_rfl)) (kinds_c wv) ?_
   rintro e w' ⟨M,rfl,hM,hE2⟩
   exact .inl ⟨_,rfl,hK _ _ ⟨M,rfl,hM⟩ hE2⟩
  ·exact gs_valZ rfl (yr_fieldZ rfl ((hF 5 (fr_ofZ rfl)).trans rfl) (fa_t1 T5 wv)) (hK _ _ rfl (Ext.refl _))
  ·have u0:a.eval (.tmp 17) = .pointer (some ⟨T5,1,none⟩):=hD 1 (by kernel_rfl)
   exact gs_valZ rfl (yr_loadZ rfl u0 (ld_str T5 1 _ wv ((HT5.out.ext hE).at 1 _ rfl))) (hK _ _ rfl (Ext.refl _))
  ·obtain⟨M,u1,hM⟩:KdO (a.eval (.tmp 16)) wv:=hD 0 (by kernel_rfl)
   have u2:a.eval (.tmp 18) = .string ⟨t.tx.toArray⟩:=hD 2 (by kernel_rfl)
   exact gs_valZ rfl (yr_lookZ rfl u1 u2 (hM.look t.tx ht _ Hn.out)) (hK _ _ rfl (Ext.refl _))
  ·exact gs_valZ rfl (yr_fieldZ rfl ((hF 6 (fr_ofZ rfl)).trans rfl) (fa_q0 D wv)) (hK _ _ rfl (Ext.refl _))
 intro vals wz hEz hRz
 obtain⟨-,-,-,h3,h4,-⟩:=hRz
 have e19:vals 3 = .int .i64 K:=h3
 have e20:vals 4 = .pointer (some ⟨D,0,none⟩):=h4
 simp only[putF,Act.put,List.length_cons,List.length_nil,List.getD_cons_zero,List.getD_cons_succ,List.setIfInBounds_toArray,List.set_cons_zero,List.set_cons_succ,Nat.reduceAdd,e19,e20]
 clear e19 e20 h3 h4
 refine wpAny_opZ (i:=5) (by kernel_rfl) rfl (by rfl) ?_
 refine gs_st1Z rfl 3 _ _ rfl D 0 (qnS.vals (gqA 0 [] none 0 [] none 0 0)) (.int .i64 K) rfl rfl (HR6.out.ext hEz) (by show 0<16;omega) (st_int D 0 _) ?_
 intro W7 hF7 hR7
 refine wpAny_done (by kernel_rfl) ?_ _
 simp only[Act.put]
 have hzz:=hEz.size
 have hX7:=HE6.out.trans hEz
 have hP7:Psr L ao cap B i W7:=(h.ext hX7).frm hF7 (fun x e=>by omega)
 have HF7:Hid (Frm (fun k=>k=B) w W7):=(Frm.of_ext hX7).step hF7 (fun x h1 e=>by omega)
 have HR7:Hid (BxT D (qnS.vals (qN K [] [] none 0 [] none 0 (lfC CdD.zero) 0 0 0 0 none 0 [])) W7):=hR7
 have HE7:=Lib.hid ((HRes.out.ext hEz).frm hF7 (fun e=>by omega))
 have c0:=hR7.at 0 _ rfl
 have c1:=hP7.c1
 have f1:=hP7.f1
 have hB7:=hP7.hB
 have hne:¬D=B:=by omega
 have hne2:¬B=D:=by omega
 have hs7:=hF7.size
 have hD7:=hR7.hD
 have HG8:=Lib.hid (hP7.go (Ext.refl _) (j:=i+1) hil (x:=(i:Int)+1) (by omega))
 have hd3:¬(12:Int)<d:=by omega
 clear hX7 hEz hP7 hF7 hR7 HE6 HR6 HRes
 go_upto_if 46 with fail
 obtain⟨W8,hW8⟩:∃W8,W8=W7.setCell ⟨B,1,none⟩ (.int .i64 ((i:Int)+1)):=⟨_,rfl⟩
 have HG9:=HG8.out
 rw[←hW8]at HG9 ⊢
 obtain⟨hp8,hf8⟩:=HG9
 have HP8:=Lib.hid hp8
 have HF8:=Lib.hid (HF7.out.trans hf8)
 have HR8:=Lib.hid (HR7.out.frm hf8 (fun e=>by omega))
 have HE8:=Lib.hid (HE7.out.frm hf8 (fun e=>by omega))
 have hz8:=hf8.size
 clear hf8 hp8 hW8 HG8 c0 c1 f1 HR7 HF7 HE7 hd3
 rcases HKs.out with rfl|rfl|rfl|rfl|rfl|rfl
 all_goals clear HKs
 ·have hg:=HG.out
  unfold bdP at hg
  rw[if_pos (show(1:Int)=1 from rfl)]at hg
  have HG:=Lib.hid hg
  clear hg
  go_wp2_with fail
  (go_at_call 109;refine(pname_c HP8.out).mono ?_)
  rintro x w9 hp
  cases hx:naP L (i+1)with
  | bad l c e=>
    have hg:=HG.out
    rw[hx]at hp hg
    obtain⟨hF,rfl⟩:=hp
    exact⟨rfl,PR.no hg.symm (HF8.out.trans hF)⟩
  | ok s jz=>
    have hg:=HG.out
    rw[hx]at hp hg
    simp only[Rs.ok_bind]at hg
    have HG:=Lib.hid hg
    obtain⟨hFx,vx,rfl,rfl,hPx⟩:=hp
    have Hbs:Hid (Bs s):=naP_bs hx
    clear hx hg
    have hFx9:=Lib.hid hFx
    have HP9:=Lib.hid hPx
    have HR9:=Lib.hid (HR8.out.frm hFx (fun e=>by omega))
    have HE9:=Lib.hid (HE8.out.frm hFx (fun e=>by omega))
    have HF9:=Lib.hid (HF8.out.trans hFx)
    have hz9:=hFx.size
    clear HP8 HR8 HE8 HF8
    clear hFx hPx
    go_wp2_with (first
     | ((with_reducible show wpList _ _ _ (⟨none,.store _ (.tmp 50) _,_,_,_,_⟩::_) _ _);refine wpl_st1 rfl 9 _ _ rfl D 1 (qnS.vals (qN 1 [] [] none 0 [] none 0 (lfC CdD.zero) 0 0 0 0 none 0 [])) (.string ⟨s.toArray⟩) rfl rfl HR9.out (by show 1<16;omega) (st_str D 1 _) ?_;intro W10 hFy hRy;have hRq:BxT D (qnS.vals (qN 1 s [] none 0 [] none 0 (lfC CdD.zero) 0 0 0 0 none 0 [])) W10:=hRy;have hEq:=HE9.out.frm hFy (fun e=>by omega))
     | ((with_reducible show wpList _ _ _ (⟨some 167,.load _ _,_,_,_,_⟩::_) _ _);refine wpl_load rfl 32 _ rfl D 0 rfl (qnS.vals (qN 1 s [] none 0 [] none 0 (lfC CdD.zero) 0 0 0 0 none 0 [])) _ hRq.rd Tryz.underlying32 rfl (info_q (qN 1 s [] none 0 [] none 0 (lfC CdD.zero) 0 0 0 0 none 0 [])) ?_)
     | ((with_reducible show wpList _ _ _ (⟨none,.store _ (.tmp 4) _,_,_,_,_⟩::_) _ _);refine wpl_st rfl 32 _ _ rfl w.heap.size zeroQ (qnS.vals (qN 1 s [] none 0 [] none 0 (lfC CdD.zero) 0 0 0 0 none 0 [])) rfl rfl hEq rfl (info_q (qN 1 s [] none 0 [] none 0 (lfC CdD.zero) 0 0 0 0 none 0 [])) (vals_one_q (qN 1 s [] none 0 [] none 0 (lfC CdD.zero) 0 0 0 0 none 0 [])) ?_;intro WZ hFZ hRZ))
    refine bodyPost_ret (v:=.agg (qnS.vals (qN 1 s [] none 0 [] none 0 (lfC CdD.zero) 0 0 0 0 none 0 [])).toArray) (results_c9 rfl rfl (run_loadVar_mid WZ w.heap.size 0 32 _ _ hRZ.rd Tryz.underlying32 rfl (info_q (qN 1 s [] none 0 [] none 0 (lfC CdD.zero) 0 0 0 0 none 0 [])))) rfl ?_
    refine PR.endq HG.out.symm (HP9.out.frm hFy (fun x e=>by omega)) (HF9.out.step hFy (fun x h1 e=>by omega)) hBl ?_ ?_ hFZ
    ·exact InQ.qN (TxA.nil _ _) (TxA.nil _ _) (InC.leaf cd_zero_ok) (Hbs.out) (show Bi 1 by unfold Bi;omega) bi_zero bi_zero bi_zero bi_zero (RdT.nilQ _ _) (fun x hx=>by cases hx)
    ·rw[map_qN,map_leaf];rfl
 ·have hg:=HG.out
  unfold bdP at hg
  rw[if_neg (show ¬(3:Int)=1 by decide),if_neg (show ¬(3:Int)=2 by decide),if_pos (show(3:Int)=3 from rfl)]at hg
  have HG:=Lib.hid hg
  clear hg
  go_wp2_with fail
  (go_at_call 112;refine(pnames_c HP8.out).mono ?_)
  rintro x w9 hp
  cases hx:nasP L (i+1)with
  | bad l c e=>
    have hg:=HG.out
    rw[hx]at hp hg
    obtain⟨hF,rfl⟩:=hp
    exact⟨rfl,PR.no hg.symm (HF8.out.trans hF)⟩
  | ok s j=>
    have hg:=HG.out
    rw[hx]at hp hg
    simp only[Rs.ok_bind]at hg
    have HG:=Lib.hid hg
    obtain⟨hFx,vx,rfl,⟨ca,cc,rfl,hT⟩,hPx⟩:=hp
    clear hx hg
    have hFx9:=Lib.hid hFx
    have HP9:=Lib.hid hPx
    have HR9:=Lib.hid (HR8.out.frm hFx (fun e=>by omega))
    have HE9:=Lib.hid (HE8.out.frm hFx (fun e=>by omega))
    have HF9:=Lib.hid (HF8.out.trans hFx)
    have hz9:=hFx.size
    clear HP8 HR8 HE8 HF8
    clear hFx hPx
    have TX_9:=Lib.hid (show TxA (fun k=>w.heap.size<k∧k≠D) w9 ca cc s from hT.mono (fun k h1 h2=>⟨by omega,by omega⟩))
    go_wp2_with (first
     | ((with_reducible show wpList _ _ _ (⟨none,.store _ (.tmp 69) _,_,_,_,_⟩::_) _ _);refine wpl_st1 rfl 22 _ _ rfl D 2 (qnS.vals (qN 3 [] [] none 0 [] none 0 (lfC CdD.zero) 0 0 0 0 none 0 [])) (.slice ca s.length cc) rfl rfl HR9.out (by show 2<16;omega) (st_sl D 2 _ _ _) ?_;intro W10 hFy hRy))
    have HP10:=Lib.hid (HP9.out.frm hFy (fun x e=>by omega))
    have HR10:Hid (BxT D (qnS.vals (qN 3 [] s ca cc [] none 0 (lfC CdD.zero) 0 0 0 0 none 0 [])) W10):=hRy
    have HE10:=Lib.hid (HE9.out.frm hFy (fun e=>by omega))
    have HF10:Hid (Frm (fun k=>k=B) w W10):=HF9.out.step hFy (fun x h1 e=>by omega)
    have TX_10:=Lib.hid (TX_9.out.kp (Kp.frm hFy (fun k h1 e=>by omega)))
    have hz10:=hFy.size
    clear HP9 HR9 HE9 HF9 TX_9
    clear hFy hRy
    (go_at_call 111;refine(of_c HQ.out HP10.out).mono ?_)
    rintro x w11 hp
    cases hx:ofP L (qrP L k) j with
    | bad l c e=>
      have hg:=HG.out
      rw[hx]at hp hg
      obtain⟨hF,rfl⟩:=hp
      exact⟨rfl,PR.no hg.symm (HF10.out.trans hF)⟩
    | ok ql jz=>
      have hg:=HG.out
      rw[hx]at hp hg
      simp only[Rs.ok_bind]at hg
      have HG:=Lib.hid hg
      obtain⟨hFx,vx,rfl,⟨ts,qo,qc,rfl,hql⟩,hPx⟩:=hp
      clear hx hg
      have hFx11:=Lib.hid hFx
      have HP11:=Lib.hid hPx
      have HR11:=Lib.hid (HR10.out.frm hFx (fun e=>by omega))
      have HE11:=Lib.hid (HE10.out.frm hFx (fun e=>by omega))
      have HF11:=Lib.hid (HF10.out.trans hFx)
      have TX_11:=Lib.hid (TX_10.out.kp (Kp.frm hFx (fun k h1 e=>by omega)))
      have hz11:=hFx.size
      clear HP10 HR10 HE10 HF10 TX_10
      clear hFx hPx
      have HQL:Hid (QlB (fun k=>w.heap.size<k∧k≠D) ql ts qo qc w11):=hql.mono (fun k h1 h2=>⟨by omega,by omega⟩)
      go_wp2_with (first
       | ((with_reducible show wpList _ _ _ (⟨none,.store _ (.tmp 74) _,_,_,_,_⟩::_) _ _);refine wpl_st1 rfl 30 _ _ rfl D 15 (qnS.vals (qN 3 [] s ca cc [] none 0 (lfC CdD.zero) 0 0 0 0 none 0 [])) (.slice qo ts.length qc) rfl rfl HR11.out (by show 15<16;omega) (st_slq D 15 _ _ _) ?_;intro W12 hFy hRy;have hRq:BxT D (qnS.vals (qN 3 [] s ca cc [] none 0 (lfC CdD.zero) 0 0 0 0 qo qc ts)) W12:=hRy;have hEq:=HE11.out.frm hFy (fun e=>by omega))
       | ((with_reducible show wpList _ _ _ (⟨some 167,.load _ _,_,_,_,_⟩::_) _ _);refine wpl_load rfl 32 _ rfl D 0 rfl (qnS.vals (qN 3 [] s ca cc [] none 0 (lfC CdD.zero) 0 0 0 0 qo qc ts)) _ hRq.rd Tryz.underlying32 rfl (info_q (qN 3 [] s ca cc [] none 0 (lfC CdD.zero) 0 0 0 0 qo qc ts)) ?_)
       | ((with_reducible show wpList _ _ _ (⟨none,.store _ (.tmp 4) _,_,_,_,_⟩::_) _ _);refine wpl_st rfl 32 _ _ rfl w.heap.size zeroQ (qnS.vals (qN 3 [] s ca cc [] none 0 (lfC CdD.zero) 0 0 0 0 qo qc ts)) rfl rfl hEq rfl (info_q (qN 3 [] s ca cc [] none 0 (lfC CdD.zero) 0 0 0 0 qo qc ts)) (vals_one_q (qN 3 [] s ca cc [] none 0 (lfC CdD.zero) 0 0 0 0 qo qc ts)) ?_;intro WZ hFZ hRZ))
      refine bodyPost_ret (v:=.agg (qnS.vals (qN 3 [] s ca cc [] none 0 (lfC CdD.zero) 0 0 0 0 qo qc ts)).toArray) (results_c9 rfl rfl (run_loadVar_mid WZ w.heap.size 0 32 _ _ hRZ.rd Tryz.underlying32 rfl (info_q (qN 3 [] s ca cc [] none 0 (lfC CdD.zero) 0 0 0 0 qo qc ts)))) rfl ?_
      refine PR.endq HG.out.symm (HP11.out.frm hFy (fun x e=>by omega)) (HF11.out.step hFy (fun x h1 e=>by omega)) hBl ?_ ?_ hFZ
      ·refine InQ.qN ?_ ?_ ?_ ?_ ?_ ?_ ?_ ?_ ?_ ?_ ?_
       ·exact(TX_11.out.kp (Kp.frm hFy (fun k h1 e=>by omega))).mono (fun k h1 _=>h1.1)
       ·exact TxA.nil _ _
       ·exact InC.leaf cd_zero_ok
       ·exact bs_zero
       ·exact(show Bi 3 by unfold Bi;omega)
       ·exact bi_zero
       ·exact bi_zero
       ·exact bi_zero
       ·exact bi_zero
       ·exact(HQL.out.kp (Kp.frm hFy (fun k h1 e=>by omega))).rd.mono (fun k h1 _=>h1.1)
       ·exact fun x hx=>((HQL.out.kp (Kp.frm hFy (fun k h1 e=>by omega))).inn x hx).mono (fun k h1 _=>h1.1)
      ·rw[map_qN,map_leaf,HQL.out.eq];rfl
 ·have hg:=HG.out
  unfold bdP at hg
  rw[if_neg (show ¬(5:Int)=1 by decide),if_neg (show ¬(5:Int)=2 by decide),if_neg (show ¬(5:Int)=3 by decide),if_neg (show ¬(5:Int)=4 by decide),if_neg (show ¬(5:Int)=8 by decide),if_neg (show ¬(5:Int)=9 by decide),if_neg (show ¬(5:Int)=10 by decide)]at hg
  have HG:=Lib.hid hg
  clear hg
  go_wp2_with fail
  (go_at_call 117;refine(pair_c HQ.out HP8.out).mono ?_)
  rintro x w9 hp
  cases hx:prP L (qrP L k) (i+1)with
  | bad l c e=>
    have hg:=HG.out
    rw[hx]at hp hg
    obtain⟨hF,rfl⟩:=hp
    exact⟨rfl,PR.no hg.symm (HF8.out.trans hF)⟩
  | ok ql jz=>
    have hg:=HG.out
    rw[hx]at hp hg
    simp only[Rs.ok_bind]at hg
    have HG:=Lib.hid hg
    obtain⟨hFx,vx,rfl,⟨ts,qo,qc,rfl,hql⟩,hPx⟩:=hp
    clear hx hg
    have hFx9:=Lib.hid hFx
    have HP9:=Lib.hid hPx
    have HR9:=Lib.hid (HR8.out.frm hFx (fun e=>by omega))
    have HE9:=Lib.hid (HE8.out.frm hFx (fun e=>by omega))
    have HF9:=Lib.hid (HF8.out.trans hFx)
    have hz9:=hFx.size
    clear HP8 HR8 HE8 HF8
    clear hFx hPx
    have HQL:Hid (QlB (fun k=>w.heap.size<k∧k≠D) ql ts qo qc w9):=hql.mono (fun k h1 h2=>⟨by omega,by omega⟩)
    go_wp2_with (first
     | ((with_reducible show wpList _ _ _ (⟨none,.store _ (.tmp 45) _,_,_,_,_⟩::_) _ _);refine wpl_st1 rfl 30 _ _ rfl D 15 (qnS.vals (qN 5 [] [] none 0 [] none 0 (lfC CdD.zero) 0 0 0 0 none 0 [])) (.slice qo ts.length qc) rfl rfl HR9.out (by show 15<16;omega) (st_slq D 15 _ _ _) ?_;intro W10 hFy hRy;have hRq:BxT D (qnS.vals (qN 5 [] [] none 0 [] none 0 (lfC CdD.zero) 0 0 0 0 qo qc ts)) W10:=hRy;have hEq:=HE9.out.frm hFy (fun e=>by omega))
     | ((with_reducible show wpList _ _ _ (⟨some 167,.load _ _,_,_,_,_⟩::_) _ _);refine wpl_load rfl 32 _ rfl D 0 rfl (qnS.vals (qN 5 [] [] none 0 [] none 0 (lfC CdD.zero) 0 0 0 0 qo qc ts)) _ hRq.rd Tryz.underlying32 rfl (info_q (qN 5 [] [] none 0 [] none 0 (lfC CdD.zero) 0 0 0 0 qo qc ts)) ?_)
     | ((with_reducible show wpList _ _ _ (⟨none,.store _ (.tmp 4) _,_,_,_,_⟩::_) _ _);refine wpl_st rfl 32 _ _ rfl w.heap.size zeroQ (qnS.vals (qN 5 [] [] none 0 [] none 0 (lfC CdD.zero) 0 0 0 0 qo qc ts)) rfl rfl hEq rfl (info_q (qN 5 [] [] none 0 [] none 0 (lfC CdD.zero) 0 0 0 0 qo qc ts)) (vals_one_q (qN 5 [] [] none 0 [] none 0 (lfC CdD.zero) 0 0 0 0 qo qc ts)) ?_;intro WZ hFZ hRZ))
    refine bodyPost_ret (v:=.agg (qnS.vals (qN 5 [] [] none 0 [] none 0 (lfC CdD.zero) 0 0 0 0 qo qc ts)).toArray) (results_c9 rfl rfl (run_loadVar_mid WZ w.heap.size 0 32 _ _ hRZ.rd Tryz.underlying32 rfl (info_q (qN 5 [] [] none 0 [] none 0 (lfC CdD.zero) 0 0 0 0 qo qc ts)))) rfl ?_
    refine PR.endq HG.out.symm (HP9.out.frm hFy (fun x e=>by omega)) (HF9.out.step hFy (fun x h1 e=>by omega)) hBl ?_ ?_ hFZ
    ·refine InQ.qN ?_ ?_ ?_ ?_ ?_ ?_ ?_ ?_ ?_ ?_ ?_
     ·exact TxA.nil _ _
     ·exact TxA.nil _ _
     ·exact InC.leaf cd_zero_ok
     ·exact bs_zero
     ·exact(show Bi 5 by unfold Bi;omega)
     ·exact bi_zero
     ·exact bi_zero
     ·exact bi_zero
     ·exact bi_zero
     ·exact(HQL.out.kp (Kp.frm hFy (fun k h1 e=>by omega))).rd.mono (fun k h1 _=>h1.1)
     ·exact fun x hx=>((HQL.out.kp (Kp.frm hFy (fun k h1 e=>by omega))).inn x hx).mono (fun k h1 _=>h1.1)
    ·rw[map_qN,map_leaf,HQL.out.eq];rfl
 ·have hg:=HG.out
  unfold bdP at hg
  rw[if_neg (show ¬(6:Int)=1 by decide),if_neg (show ¬(6:Int)=2 by decide),if_neg (show ¬(6:Int)=3 by decide),if_neg (show ¬(6:Int)=4 by decide),if_neg (show ¬(6:Int)=8 by decide),if_neg (show ¬(6:Int)=9 by decide),if_neg (show ¬(6:Int)=10 by decide)]at hg
  have HG:=Lib.hid hg
  clear hg
  go_wp2_with fail
  (go_at_call 117;refine(pair_c HQ.out HP8.out).mono ?_)
  rintro x w9 hp
  cases hx:prP L (qrP L k) (i+1)with
  | bad l c e=>
    have hg:=HG.out
    rw[hx]at hp hg
    obtain⟨hF,rfl⟩:=hp
    exact⟨rfl,PR.no hg.symm (HF8.out.trans hF)⟩
  | ok ql jz=>
    have hg:=HG.out
    rw[hx]at hp hg
    simp only[Rs.ok_bind]at hg
    have HG:=Lib.hid hg
    obtain⟨hFx,vx,rfl,⟨ts,qo,qc,rfl,hql⟩,hPx⟩:=hp
    clear hx hg
    have hFx9:=Lib.hid hFx
    have HP9:=Lib.hid hPx
    have HR9:=Lib.hid (HR8.out.frm hFx (fun e=>by omega))
    have HE9:=Lib.hid (HE8.out.frm hFx (fun e=>by omega))
    have HF9:=Lib.hid (HF8.out.trans hFx)
    have hz9:=hFx.size
    clear HP8 HR8 HE8 HF8
    clear hFx hPx
    have HQL:Hid (QlB (fun k=>w.heap.size<k∧k≠D) ql ts qo qc w9):=hql.mono (fun k h1 h2=>⟨by omega,by omega⟩)
    go_wp2_with (first
     | ((with_reducible show wpList _ _ _ (⟨none,.store _ (.tmp 45) _,_,_,_,_⟩::_) _ _);refine wpl_st1 rfl 30 _ _ rfl D 15 (qnS.vals (qN 6 [] [] none 0 [] none 0 (lfC CdD.zero) 0 0 0 0 none 0 [])) (.slice qo ts.length qc) rfl rfl HR9.out (by show 15<16;omega) (st_slq D 15 _ _ _) ?_;intro W10 hFy hRy;have hRq:BxT D (qnS.vals (qN 6 [] [] none 0 [] none 0 (lfC CdD.zero) 0 0 0 0 qo qc ts)) W10:=hRy;have hEq:=HE9.out.frm hFy (fun e=>by omega))
     | ((with_reducible show wpList _ _ _ (⟨some 167,.load _ _,_,_,_,_⟩::_) _ _);refine wpl_load rfl 32 _ rfl D 0 rfl (qnS.vals (qN 6 [] [] none 0 [] none 0 (lfC CdD.zero) 0 0 0 0 qo qc ts)) _ hRq.rd Tryz.underlying32 rfl (info_q (qN 6 [] [] none 0 [] none 0 (lfC CdD.zero) 0 0 0 0 qo qc ts)) ?_)
     | ((with_reducible show wpList _ _ _ (⟨none,.store _ (.tmp 4) _,_,_,_,_⟩::_) _ _);refine wpl_st rfl 32 _ _ rfl w.heap.size zeroQ (qnS.vals (qN 6 [] [] none 0 [] none 0 (lfC CdD.zero) 0 0 0 0 qo qc ts)) rfl rfl hEq rfl (info_q (qN 6 [] [] none 0 [] none 0 (lfC CdD.zero) 0 0 0 0 qo qc ts)) (vals_one_q (qN 6 [] [] none 0 [] none 0 (lfC CdD.zero) 0 0 0 0 qo qc ts)) ?_;intro WZ hFZ hRZ))
    refine bodyPost_ret (v:=.agg (qnS.vals (qN 6 [] [] none 0 [] none 0 (lfC CdD.zero) 0 0 0 0 qo qc ts)).toArray) (results_c9 rfl rfl (run_loadVar_mid WZ w.heap.size 0 32 _ _ hRZ.rd Tryz.underlying32 rfl (info_q (qN 6 [] [] none 0 [] none 0 (lfC CdD.zero) 0 0 0 0 qo qc ts)))) rfl ?_
    refine PR.endq HG.out.symm (HP9.out.frm hFy (fun x e=>by omega)) (HF9.out.step hFy (fun x h1 e=>by omega)) hBl ?_ ?_ hFZ
    ·refine InQ.qN ?_ ?_ ?_ ?_ ?_ ?_ ?_ ?_ ?_ ?_ ?_
     ·exact TxA.nil _ _
     ·exact TxA.nil _ _
     ·exact InC.leaf cd_zero_ok
     ·exact bs_zero
     ·exact(show Bi 6 by unfold Bi;omega)
     ·exact bi_zero
     ·exact bi_zero
     ·exact bi_zero
     ·exact bi_zero
     ·exact(HQL.out.kp (Kp.frm hFy (fun k h1 e=>by omega))).rd.mono (fun k h1 _=>h1.1)
     ·exact fun x hx=>((HQL.out.kp (Kp.frm hFy (fun k h1 e=>by omega))).inn x hx).mono (fun k h1 _=>h1.1)
    ·rw[map_qN,map_leaf,HQL.out.eq];rfl
 ·have hg:=HG.out
  unfold bdP at hg
  rw[if_neg (show ¬(7:Int)=1 by decide),if_neg (show ¬(7:Int)=2 by decide),if_neg (show ¬(7:Int)=3 by decide),if_neg (show ¬(7:Int)=4 by decide),if_neg (show ¬(7:Int)=8 by decide),if_neg (show ¬(7:Int)=9 by decide),if_neg (show ¬(7:Int)=10 by decide)]at hg
  have HG:=Lib.hid hg
  clear hg
  go_wp2_with fail
  (go_at_call 117;refine(pair_c HQ.out HP8.out).mono ?_)
  rintro x w9 hp
  cases hx:prP L (qrP L k) (i+1)with
  | bad l c e=>
    have hg:=HG.out
    rw[hx]at hp hg
    obtain⟨hF,rfl⟩:=hp
    exact⟨rfl,PR.no hg.symm (HF8.out.trans hF)⟩
  | ok ql jz=>
    have hg:=HG.out
    rw[hx]at hp hg
    simp only[Rs.ok_bind]at hg
    have HG:=Lib.hid hg
    obtain⟨hFx,vx,rfl,⟨ts,qo,qc,rfl,hql⟩,hPx⟩:=hp
    clear hx hg
    have hFx9:=Lib.hid hFx
    have HP9:=Lib.hid hPx
    have HR9:=Lib.hid (HR8.out.frm hFx (fun e=>by omega))
    have HE9:=Lib.hid (HE8.out.frm hFx (fun e=>by omega))
    have HF9:=Lib.hid (HF8.out.trans hFx)
    have hz9:=hFx.size
    clear HP8 HR8 HE8 HF8
    clear hFx hPx
    have HQL:Hid (QlB (fun k=>w.heap.size<k∧k≠D) ql ts qo qc w9):=hql.mono (fun k h1 h2=>⟨by omega,by omega⟩)
    go_wp2_with (first
     | ((with_reducible show wpList _ _ _ (⟨none,.store _ (.tmp 45) _,_,_,_,_⟩::_) _ _);refine wpl_st1 rfl 30 _ _ rfl D 15 (qnS.vals (qN 7 [] [] none 0 [] none 0 (lfC CdD.zero) 0 0 0 0 none 0 [])) (.slice qo ts.length qc) rfl rfl HR9.out (by show 15<16;omega) (st_slq D 15 _ _ _) ?_;intro W10 hFy hRy;have hRq:BxT D (qnS.vals (qN 7 [] [] none 0 [] none 0 (lfC CdD.zero) 0 0 0 0 qo qc ts)) W10:=hRy;have hEq:=HE9.out.frm hFy (fun e=>by omega))
     | ((with_reducible show wpList _ _ _ (⟨some 167,.load _ _,_,_,_,_⟩::_) _ _);refine wpl_load rfl 32 _ rfl D 0 rfl (qnS.vals (qN 7 [] [] none 0 [] none 0 (lfC CdD.zero) 0 0 0 0 qo qc ts)) _ hRq.rd Tryz.underlying32 rfl (info_q (qN 7 [] [] none 0 [] none 0 (lfC CdD.zero) 0 0 0 0 qo qc ts)) ?_)
     | ((with_reducible show wpList _ _ _ (⟨none,.store _ (.tmp 4) _,_,_,_,_⟩::_) _ _);refine wpl_st rfl 32 _ _ rfl w.heap.size zeroQ (qnS.vals (qN 7 [] [] none 0 [] none 0 (lfC CdD.zero) 0 0 0 0 qo qc ts)) rfl rfl hEq rfl (info_q (qN 7 [] [] none 0 [] none 0 (lfC CdD.zero) 0 0 0 0 qo qc ts)) (vals_one_q (qN 7 [] [] none 0 [] none 0 (lfC CdD.zero) 0 0 0 0 qo qc ts)) ?_;intro WZ hFZ hRZ))
    refine bodyPost_ret (v:=.agg (qnS.vals (qN 7 [] [] none 0 [] none 0 (lfC CdD.zero) 0 0 0 0 qo qc ts)).toArray) (results_c9 rfl rfl (run_loadVar_mid WZ w.heap.size 0 32 _ _ hRZ.rd Tryz.underlying32 rfl (info_q (qN 7 [] [] none 0 [] none 0 (lfC CdD.zero) 0 0 0 0 qo qc ts)))) rfl ?_
    refine PR.endq HG.out.symm (HP9.out.frm hFy (fun x e=>by omega)) (HF9.out.step hFy (fun x h1 e=>by omega)) hBl ?_ ?_ hFZ
    ·refine InQ.qN ?_ ?_ ?_ ?_ ?_ ?_ ?_ ?_ ?_ ?_ ?_
     ·exact TxA.nil _ _
     ·exact TxA.nil _ _
     ·exact InC.leaf cd_zero_ok
     ·exact bs_zero
     ·exact(show Bi 7 by unfold Bi;omega)
     ·exact bi_zero
     ·exact bi_zero
     ·exact bi_zero
     ·exact bi_zero
     ·exact(HQL.out.kp (Kp.frm hFy (fun k h1 e=>by omega))).rd.mono (fun k h1 _=>h1.1)
     ·exact fun x hx=>((HQL.out.kp (Kp.frm hFy (fun k h1 e=>by omega))).inn x hx).mono (fun k h1 _=>h1.1)
    ·rw[map_qN,map_leaf,HQL.out.eq];rfl
 ·have hg:=HG.out
  unfold bdP at hg
  rw[if_neg (show ¬(8:Int)=1 by decide),if_neg (show ¬(8:Int)=2 by decide),if_neg (show ¬(8:Int)=3 by decide),if_neg (show ¬(8:Int)=4 by decide),if_pos (show(8:Int)=8 from rfl)]at hg
  have HG:=Lib.hid hg
  clear hg
  go_wp2_with fail
  (go_at_call 114;refine(ptime_c HP8.out).mono ?_)
  rintro x w9 hp
  cases hx:tmP L (i+1)with
  | bad l c e=>
    have hg:=HG.out
    rw[hx]at hp hg
    obtain⟨hF,rfl⟩:=hp
    exact⟨rfl,PR.no hg.symm (HF8.out.trans hF)⟩
  | ok f j=>
    have hg:=HG.out
    rw[hx]at hp hg
    simp only[Rs.ok_bind]at hg
    have HG:=Lib.hid hg
    obtain⟨hFx,vx,rfl,rfl,hPx⟩:=hp
    have Hbf:Hid (Bi f):=tmP_bi HP8.out hx
    clear hx hg
    have hFx9:=Lib.hid hFx
    have HP9:=Lib.hid hPx
    have HR9:=Lib.hid (HR8.out.frm hFx (fun e=>by omega))
    have HE9:=Lib.hid (HE8.out.frm hFx (fun e=>by omega))
    have HF9:=Lib.hid (HF8.out.trans hFx)
    have hz9:=hFx.size
    clear HP8 HR8 HE8 HF8
    clear hFx hPx
    go_wp2_with (first
     | ((with_reducible show wpList _ _ _ (⟨none,.store _ (.tmp 106) _,_,_,_,_⟩::_) _ _);refine wpl_st1 rfl 3 _ _ rfl D 13 (qnS.vals (qN 8 [] [] none 0 [] none 0 (lfC CdD.zero) 0 0 0 0 none 0 [])) (.int .i64 f) rfl rfl HR9.out (by show 13<16;omega) (st_int D 13 _) ?_;intro W10 hFy hRy))
    have HP10:=Lib.hid (HP9.out.frm hFy (fun x e=>by omega))
    have HR10:Hid (BxT D (qnS.vals (qN 8 [] [] none 0 [] none 0 (lfC CdD.zero) 0 0 f 0 none 0 [])) W10):=hRy
    have HE10:=Lib.hid (HE9.out.frm hFy (fun e=>by omega))
    have HF10:Hid (Frm (fun k=>k=B) w W10):=HF9.out.step hFy (fun x h1 e=>by omega)
    have hz10:=hFy.size
    clear HP9 HR9 HE9 HF9
    clear hFy hRy
    (go_at_call 110;refine(exp_c HP10.out wTo (by decide)).mono ?_)
    rintro x w11 hp
    cases hx:exP L wTo j with
    | bad l c e=>
      have hg:=HG.out
      rw[hx]at hp hg
      obtain⟨hF,rfl⟩:=hp
      exact⟨rfl,PR.no hg.symm (HF10.out.trans hF)⟩
    | ok u j2=>
      have hg:=HG.out
      rw[hx]at hp hg
      simp only[Rs.ok_bind]at hg
      have HG:=Lib.hid hg
      obtain⟨hFx,vx,rfl,rfl,hPx⟩:=hp
      clear hx hg
      have hFx11:=Lib.hid hFx
      have HP11:=Lib.hid hPx
      have HR11:=Lib.hid (HR10.out.frm hFx (fun e=>by omega))
      have HE11:=Lib.hid (HE10.out.frm hFx (fun e=>by omega))
      have HF11:=Lib.hid (HF10.out.trans hFx)
      have hz11:=hFx.size
      clear HP10 HR10 HE10 HF10
      clear hFx hPx
      go_wp2_with fail
      (go_at_call 114;refine(ptime_c HP11.out).mono ?_)
      rintro x w12 hp
      cases hx:tmP L j2 with
      | bad l c e=>
        have hg:=HG.out
        rw[hx]at hp hg
        obtain⟨hF,rfl⟩:=hp
        exact⟨rfl,PR.no hg.symm (HF11.out.trans hF)⟩
      | ok z j3=>
        have hg:=HG.out
        rw[hx]at hp hg
        simp only[Rs.ok_bind]at hg
        have HG:=Lib.hid hg
        obtain⟨hFx,vx,rfl,rfl,hPx⟩:=hp
        have Hbz:Hid (Bi z):=tmP_bi HP11.out hx
        clear hx hg
        have hFx12:=Lib.hid hFx
        have HP12:=Lib.hid hPx
        have HR12:=Lib.hid (HR11.out.frm hFx (fun e=>by omega))
        have HE12:=Lib.hid (HE11.out.frm hFx (fun e=>by omega))
        have HF12:=Lib.hid (HF11.out.trans hFx)
        have hz12:=hFx.size
        clear HP11 HR11 HE11 HF11
        clear hFx hPx
        go_wp2_with (first
         | ((with_reducible show wpList _ _ _ (⟨none,.store _ (.tmp 112) _,_,_,_,_⟩::_) _ _);refine wpl_st1 rfl 3 _ _ rfl D 14 (qnS.vals (qN 8 [] [] none 0 [] none 0 (lfC CdD.zero) 0 0 f 0 none 0 [])) (.int .i64 z) rfl rfl HR12.out (by show 14<16;omega) (st_int D 14 _) ?_;intro W13 hFy hRy))
        have HP13:=Lib.hid (HP12.out.frm hFy (fun x e=>by omega))
        have HR13:Hid (BxT D (qnS.vals (qN 8 [] [] none 0 [] none 0 (lfC CdD.zero) 0 0 f z none 0 [])) W13):=hRy
        have HE13:=Lib.hid (HE12.out.frm hFy (fun e=>by omega))
        have HF13:Hid (Frm (fun k=>k=B) w W13):=HF12.out.step hFy (fun x h1 e=>by omega)
        have hz13:=hFy.size
        clear HP12 HR12 HE12 HF12
        clear hFy hRy
        (go_at_call 111;refine(of_c HQ.out HP13.out).mono ?_)
        rintro x w14 hp
        cases hx:ofP L (qrP L k) j3 with
        | bad l c e=>
          have hg:=HG.out
          rw[hx]at hp hg
          obtain⟨hF,rfl⟩:=hp
          exact⟨rfl,PR.no hg.symm (HF13.out.trans hF)⟩
        | ok ql jz=>
          have hg:=HG.out
          rw[hx]at hp hg
          simp only[Rs.ok_bind]at hg
          have HG:=Lib.hid hg
          obtain⟨hFx,vx,rfl,⟨ts,qo,qc,rfl,hql⟩,hPx⟩:=hp
          clear hx hg
          have hFx14:=Lib.hid hFx
          have HP14:=Lib.hid hPx
          have HR14:=Lib.hid (HR13.out.frm hFx (fun e=>by omega))
          have HE14:=Lib.hid (HE13.out.frm hFx (fun e=>by omega))
          have HF14:=Lib.hid (HF13.out.trans hFx)
          have hz14:=hFx.size
          clear HP13 HR13 HE13 HF13
          clear hFx hPx
          have HQL:Hid (QlB (fun k=>w.heap.size<k∧k≠D) ql ts qo qc w14):=hql.mono (fun k h1 h2=>⟨by omega,by omega⟩)
          go_wp2_with (first
           | ((with_reducible show wpList _ _ _ (⟨none,.store _ (.tmp 117) _,_,_,_,_⟩::_) _ _);refine wpl_st1 rfl 30 _ _ rfl D 15 (qnS.vals (qN 8 [] [] none 0 [] none 0 (lfC CdD.zero) 0 0 f z none 0 [])) (.slice qo ts.length qc) rfl rfl HR14.out (by show 15<16;omega) (st_slq D 15 _ _ _) ?_;intro W15 hFy hRy;have hRq:BxT D (qnS.vals (qN 8 [] [] none 0 [] none 0 (lfC CdD.zero) 0 0 f z qo qc ts)) W15:=hRy;have hEq:=HE14.out.frm hFy (fun e=>by omega))
           | ((with_reducible show wpList _ _ _ (⟨some 167,.load _ _,_,_,_,_⟩::_) _ _);refine wpl_load rfl 32 _ rfl D 0 rfl (qnS.vals (qN 8 [] [] none 0 [] none 0 (lfC CdD.zero) 0 0 f z qo qc ts)) _ hRq.rd Tryz.underlying32 rfl (info_q (qN 8 [] [] none 0 [] none 0 (lfC CdD.zero) 0 0 f z qo qc ts)) ?_)
           | ((with_reducible show wpList _ _ _ (⟨none,.store _ (.tmp 4) _,_,_,_,_⟩::_) _ _);refine wpl_st rfl 32 _ _ rfl w.heap.size zeroQ (qnS.vals (qN 8 [] [] none 0 [] none 0 (lfC CdD.zero) 0 0 f z qo qc ts)) rfl rfl hEq rfl (info_q (qN 8 [] [] none 0 [] none 0 (lfC CdD.zero) 0 0 f z qo qc ts)) (vals_one_q (qN 8 [] [] none 0 [] none 0 (lfC CdD.zero) 0 0 f z qo qc ts)) ?_;intro WZ hFZ hRZ))
          refine bodyPost_ret (v:=.agg (qnS.vals (qN 8 [] [] none 0 [] none 0 (lfC CdD.zero) 0 0 f z qo qc ts)).toArray) (results_c9 rfl rfl (run_loadVar_mid WZ w.heap.size 0 32 _ _ hRZ.rd Tryz.underlying32 rfl (info_q (qN 8 [] [] none 0 [] none 0 (lfC CdD.zero) 0 0 f z qo qc ts)))) rfl ?_
          refine PR.endq HG.out.symm (HP14.out.frm hFy (fun x e=>by omega)) (HF14.out.step hFy (fun x h1 e=>by omega)) hBl ?_ ?_ hFZ
          ·refine InQ.qN ?_ ?_ ?_ ?_ ?_ ?_ ?_ ?_ ?_ ?_ ?_
           ·exact TxA.nil _ _
           ·exact TxA.nil _ _
           ·exact InC.leaf cd_zero_ok
           ·exact bs_zero
           ·exact(show Bi 8 by unfold Bi;omega)
           ·exact bi_zero
           ·exact bi_zero
           ·exact Hbf.out
           ·exact Hbz.out
           ·exact(HQL.out.kp (Kp.frm hFy (fun k h1 e=>by omega))).rd.mono (fun k h1 _=>h1.1)
           ·exact fun x hx=>((HQL.out.kp (Kp.frm hFy (fun k h1 e=>by omega))).inn x hx).mono (fun k h1 _=>h1.1)
          ·rw[map_qN,map_leaf,HQL.out.eq];rfl
end
end Go.Proofs.YtlmeinikknoeeaaGreatDoor
