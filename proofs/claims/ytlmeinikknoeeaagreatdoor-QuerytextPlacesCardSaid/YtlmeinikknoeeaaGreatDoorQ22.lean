/- Queries: the lexer in memory; a token. -/
import Derived.Test.YtlmeinikknoeeaaGreatDoorQ21
namespace Go.Proofs.YtlmeinikknoeeaaGreatDoor
set_option linter.unusedVariables false
set_option linter.unnecessarySimpa false
set_option linter.unusedSimpArgs false
open Go.RowKit
def tk7 (k:Int) (tx:List UInt8) (ln cl:Int):List Value:=[.int .i64 k,.string ⟨tx.toArray⟩,.int .i64 0,.int .i64 0,.string ⟨#[]⟩,.int .i64 ln,.int .i64 cl]
def NxP (s:List UInt8) (X i:Nat) (ln cl:Int) (v:Value) (w:World) (r:TkR) (e:Ending) (w':World):Prop:=
 Frm (fun k=>k=X) w w'∧match r with
  | .bad er=>∃t:TkD,t.ln=ln∧t.cl=cl∧e = .returned (.tuple #[.agg (tkC t).toArray,.int .i64 er])
  | .ok k tx vv n=>e = .returned (.tuple #[.agg (tkC ⟨k,tx,vv,ln,cl⟩).toArray,.int .i64 0])∧Lxr s X (i+n) ln (cl+n) v w'
structure NxS (s:List UInt8) (X:Nat) (v:Value) (w:World) (tk:List Value) (j:Nat) (l2 c2:Int) (wx:World):Prop where
 r:BxT w.heap.size (tk7 0 [] 0 0) wx
 t:BxT (w.heap.size+1) tk wx
 l:Lxr s X j l2 c2 v wx
 f:Frm (fun k=>k=X) w wx
 hX:X<w.heap.size
theorem NxS.new {s:List UInt8} {X i:Nat} {ln cl:Int} {v:Value} {w:World} (h:Lxr s X i ln cl v w) (t:TypeId) (n:Nat) :
  NxS s X v w (tk7 0 [] ln cl) i ln cl (((w.alloc (.cells (tk7 0 [] 0 0).toArray t)).alloc (.cells (tk7 0 [] ln cl).toArray t)).drewN n):=by
 have hE:Ext w (((w.alloc (.cells (tk7 0 [] 0 0).toArray t)).alloc (.cells (tk7 0 [] ln cl).toArray t)).drewN n):=(((Ext.refl w).alloc _).alloc _).drewN n
 refine⟨((BxT.new w _ t).ext ((Ext.refl _).alloc _)).ext ((Ext.refl _).drewN n),?_,h.ext hE,Frm.of_ext hE,h.hX⟩
 have:=BxT.new (w.alloc (.cells (tk7 0 [] 0 0).toArray t)) (tk7 0 [] ln cl) t
 rw[World.size_alloc]at this
 exact this.ext ((Ext.refl _).drewN n)
theorem Lxr.new0 {s:List UInt8} {X i:Nat} {ln cl:Int} {v:Value} {w:World} (h:Lxr s X i ln cl v w) (t:TypeId) (n:Nat) :
  NxS s X v w (tk7 0 [] ln cl) i ln cl (((w.alloc (.cells #[.int .i64 0,.string ⟨#[]⟩,.int .i64 0,.int .i64 0,.string ⟨#[]⟩,.int .i64 0,.int .i64 0] t)).alloc (.cells #[.int .i64 0,.string ⟨#[]⟩,.int .i64 0,.int .i64 0,.string ⟨#[]⟩,.int .i64 ln,.int .i64 cl] t)).drewN n):=NxS.new h t n
theorem Lxr.copy {s:List UInt8} {X i:Nat} {ln cl:Int} {v:Value} {w:World} (h:Lxr s X i ln cl v w):Lxr s X i ln cl v w:=h
theorem NxS.lex {s:List UInt8} {X j j2:Nat} {l2 c2 l3 c3:Int} {v:Value} {w:World} {tk:List Value} {wx w':World} (h:NxS s X v w tk j l2 c2 wx) (hl:Lxr s X j2 l3 c3 v w') (hF:Frm (fun k=>k=X) wx w'):NxS s X v w tk j2 l3 c3 w':=by
 have hX:=h.hX
 exact⟨h.r.frm hF (by omega),h.t.frm hF (by omega),hl,h.f.trans hF,hX⟩
theorem NxS.ext {s:List UInt8} {X j:Nat} {l2 c2:Int} {v:Value} {w:World} {tk:List Value} {wx w':World} (h:NxS s X v w tk j l2 c2 wx) (hE:Ext wx w'):NxS s X v w tk j l2 c2 w':=
 ⟨h.r.ext hE,h.t.ext hE,h.l.ext hE,h.f.trans (Frm.of_ext hE),h.hX⟩
theorem NxS.put {s:List UInt8} {X j:Nat} {l2 c2:Int} {v:Value} {w:World} {tk tk2:List Value} {wx w':World} (h:NxS s X v w tk j l2 c2 wx) (hF:Frm (fun k=>k=w.heap.size+1) wx w') (hB:BxT (w.heap.size+1) tk2 w'):NxS s X v w tk2 j l2 c2 w':=by
 have hX:=h.hX
 exact⟨h.r.frm hF (by omega),hB,h.l.frm hF (by omega),h.f.step hF (fun k h1 h2=>by omega),hX⟩
theorem NxS.fin {s:List UInt8} {X j:Nat} {l2 c2:Int} {v:Value} {w:World} {tk:List Value} {wx w':World} (h:NxS s X v w tk j l2 c2 wx) (hF:Frm (fun k=>k=w.heap.size) wx w'):Frm (fun k=>k=X) w w'∧Lxr s X j l2 c2 v w':=by
 have hX:=h.hX
 exact⟨h.f.step hF (fun k h1 h2=>by omega),h.l.frm hF (by omega)⟩
theorem adv_ln {p:UInt8→Bool} (hp:∀c,p c=true→c.toNat≠10):∀(T:List UInt8) (ln cl:Int),T.all p=true→lnL T ln=ln∧clL T cl=cl+T.length
 | [],ln,cl,_=>⟨rfl,by unfold clL;simp⟩
 | c::T,ln,cl,h=>by
   rw[List.all_cons,Bool.and_eq_true]at h
   have hc:=hp c h.1
   obtain⟨h1,h2⟩:=adv_ln hp T (ln1 c ln) (cl1 c cl) h.2
   constructor
   ·show lnL T (ln1 c ln)=ln
    rw[h1,ln1,if_neg hc]
   ·show clL T (cl1 c cl)=_
    rw[h2,cl1,if_neg hc]
    simp only[List.length_cons]
    omega
theorem wd_nl:∀c,wdC c=true→c.toNat≠10:=fun c h e=>by
 unfold wdC ltQ isDg at h
 rw[e]at h
 exact absurd h (by decide)
theorem cn_nl:∀c,cnB c=true→c.toNat≠10:=fun c h e=>by
 unfold cnB ltQ isDg at h
 rw[e]at h
 exact absurd h (by decide)
theorem idx_any (l:List UInt8) (c:UInt8):decide (0≤Lib.indexByte l c)=l.any (fun b=>b==c):=by
 induction l with
 | nil=>rfl
 | cons b l ih=>
   rw[List.any_cons,←ih]
   rw[show Lib.indexByte (b::l) c=if b==c then 0 else if Lib.indexByte l c == -1 then -1 else Lib.indexByte l c+1 from rfl]
   cases hb:b==c with
   | true=>simp
   | false=>
     have:=Lib.indexByte_ge l c
     rw[Bool.false_or,if_neg (by simp)]
     by_cases h:Lib.indexByte l c = -1
     ·rw[h];rfl
     ·rw[if_neg (by simpa using h),decide_eq_true (by omega),decide_eq_true (by omega)]
theorem idx5 (c:UInt8):decide (0≤Lib.indexByte [40,41,44,60,61] c)=syB c:=by
 unfold syB
 have key:∀n (k:UInt8),k.toNat=n→(decide (c.toNat=n)=(k==c)):=fun n k hk=>by
  subst hk
  by_cases e:c=k
  ·subst e;simp
  ·rw[decide_eq_false (fun q=>e (UInt8.toNat_inj.1 q))]
   symm
   rw[beq_eq_false_iff_ne]
   exact fun q=>e q.symm
 rw[key 40 40 rfl,key 41 41 rfl,key 44 44 rfl,key 60 60 rfl,key 61 61 rfl]
 rw[idx_any]
 simp only[List.any_cons,List.any_nil,Bool.or_false,Bool.or_assoc]
theorem ib_c (c:UInt8) (w:World):Calls Tryz.prog 156 #[.string ⟨#[40,41,44,60,61]⟩,.int .u8 (c.toNat:Int)] w fun e w'=>(∃z:Int,e = .returned (.int .i64 z)∧decide (0≤z)=syB c)∧w=w':=by
 refine(Tryz.strings_IndexByte ⟨#[40,41,44,60,61]⟩ (c.toNat:Int) w).mono ?_
 rintro e w' ⟨rfl,rfl⟩
 refine⟨⟨_,rfl,?_⟩,rfl⟩
 rw[show ((c.toNat:Int).toNat.toUInt8)=c by simp]
 exact idx5 c
theorem NxP.tok {s:List UInt8} {X i:Nat} {ln cl:Int} {v:Value} {w:World} {r:TkR} {k:Int} {tx:List UInt8} {n:Nat} {w':World} {l2 c2:Int} (h:r = .ok k tx ValD.zero n) (hF:Frm (fun k=>k=X) w w'∧Lxr s X (i+n) l2 c2 v w') (h1:l2=ln) (h2:c2=cl+n):NxP s X i ln cl v w r (.returned (.tuple #[.agg (tk7 k tx ln cl).toArray,.int .i64 0])) w':=by
 subst h h1 h2
 exact⟨hF.1,rfl,hF.2⟩
theorem NxP.bad {s:List UInt8} {X i j:Nat} {ln cl:Int} {v:Value} {w:World} {r:TkR} {k er:Int} {tx:List UInt8} {w':World} {l2 c2:Int} (h:r = .bad er) (hF:Frm (fun k=>k=X) w w'∧Lxr s X j l2 c2 v w'):NxP s X i ln cl v w r (.returned (.tuple #[.agg (tk7 k tx ln cl).toArray,.int .i64 er])) w':=by
 subst h
 exact⟨hF.1,⟨k,tx,ValD.zero,ln,cl⟩,rfl,rfl,rfl⟩
end Go.Proofs.YtlmeinikknoeeaaGreatDoor
namespace Go.Proofs.YtlmeinikknoeeaaGreatDoor
set_option maxRecDepth 100000
set_option maxHeartbeats 2000000
set_option linter.unusedVariables false
set_option linter.unnecessarySimpa false
set_option linter.unusedSimpArgs false
open Go.RowKit
theorem next_word {s:List UInt8} {X i:Nat} {ln cl:Int} {v:Value} {w:World} {c:UInt8} (h:Lxr s X i ln cl v w) (hc:s[i]? = some c) (hlt:ltQ c=true) :
  Calls Tryz.prog 191 #[.pointer (some ⟨X,0,none⟩)] w (NxP s X i ln cl v w (tkT untZ (s.drop i))):=by
 obtain⟨hlen,hcc0⟩:=List.getElem?_eq_some_iff.1 hc
 have hcc:=hcc0.symm
 have hb:=bget s i hlen c hcc
 have hX:=h.hX
 have hNn:=fun n=>Lib.hid (h.new0 140 n)
 obtain⟨-,q0,q1,q2,q3,-,-,-,-,-,-,-,-,-⟩:=h.copy
 clear hcc0
 have HG:Hid (tkT untZ (s.drop i) = .ok 1 ((s.drop i).takeWhile wdC) ValD.zero ((s.drop i).takeWhile wdC).length):=by
  rw[Hid,List.drop_eq_getElem_cons hlen,←hcc]
  unfold tkT
  exact if_pos hlt
 obtain⟨G,hG⟩:∃G,tkT untZ (s.drop i)=G:=⟨_,rfl⟩
 rw[hG]at HG ⊢
 have Hlt:=Lib.hid hlt
 clear h hc hcc hG hlt
 go_enter Tryz.func191,Tryz.ntmps191
 go_wp2_with fail
 go_quiet (fail)
 have hN:=hNn nq
 generalize ((w.alloc (.cells #[.int .i64 0,.string ⟨#[]⟩,.int .i64 0,.int .i64 0,.string ⟨#[]⟩,.int .i64 0,.int .i64 0] 140)).alloc (.cells #[.int .i64 0,.string ⟨#[]⟩,.int .i64 0,.int .i64 0,.string ⟨#[]⟩,.int .i64 ln,.int .i64 cl] 140)).drewN nq=W1 at hN ⊢
 clear hNn q0 q1 q2 q3
 go_wp2_with (first
  | (go_at_call 241;(with_reducible refine(qlet_c c _ _ Hlt.out).mono ?_);rintro e w1 ⟨rfl,rfl⟩)
  | (go_at_call 189;(with_reducible refine(while_c by_word hN.out.l).mono ?_);rintro e w2 ⟨T,hT,rfl,hL2,hF2⟩;have hN2:=Lib.hid (hN.out.lex hL2 hF2);have HT:=Lib.hid hT;clear hT)
           | ((with_reducible show wpList _ _ _ (⟨none,.store _ (.tmp 26) _,_,_,_,_⟩::_) _ _);refine wpl_st1 rfl 3 _ _ rfl (w.heap.size+1) 0 (tk7 0 [] ln cl) (.int .i64 1) rfl rfl hN2.out.t (by show 0<7;omega) (st_int _ 0 _) ?_;intro W6 hF6 hB6)
           | ((with_reducible show wpList _ _ _ (⟨none,.store _ (.tmp 27) _,_,_,_,_⟩::_) _ _);refine wpl_st1 rfl 9 _ _ rfl (w.heap.size+1) 1 (tk7 1 [] ln cl) (.string ⟨T.toArray⟩) rfl rfl hB6 (by show 1<7;omega) (st_str _ 1 _) ?_;intro W7 hF7 hB7;have hB9:BxT (w.heap.size+1) (tk7 1 T ln cl) W7:=hB7;have hN3:=Lib.hid ((hN2.out.put hF6 hB6).put hF7 hB9))
           | ((with_reducible show wpList _ _ _ (⟨_,.load 140 (.tmp 4),_,_,_,_⟩::_) _ _);refine wpl_load rfl 140 _ rfl (w.heap.size+1) 0 rfl (tk7 1 T ln cl) _ hN3.out.t.rd Tryz.underlying140 rfl tkI ?_)
           | ((with_reducible show wpList _ _ _ (⟨none,.store _ (.tmp 2) _,_,_,_,_⟩::_) _ _);refine wpl_st rfl 140 _ _ rfl w.heap.size (tk7 0 [] 0 0) (tk7 1 T ln cl) rfl rfl hN3.out.r rfl tkI rfl ?_;intro W8 hF8 hB8))
 refine bodyPost_ret (v:=.tuple #[.agg (tk7 1 T ln cl).toArray,.int .i64 0]) (results_ct rfl rfl (run_loadVar_mid W8 w.heap.size 0 140 _ _ hB8.rd Tryz.underlying140 rfl tkI) rfl) rfl ?_
 refine NxP.tok (HG.out.trans (by rw[←HT.out])) (hN3.out.fin hF8) ?_ ?_
 ·exact(adv_ln wd_nl T ln cl (by rw[HT.out];exact tw_all _ _)).1
 ·exact(adv_ln wd_nl T ln cl (by rw[HT.out];exact tw_all _ _)).2
theorem tk_num {c:UInt8} {r:List UInt8} (h1:ltQ c=false) (h2:(isDg c||decide (c.toNat=45))=true):tkT untZ (c::r)=match nmT untZ ((c::r).takeWhile cnB)with
  | .inl e=>.bad e
  | .inr v=>.ok 2 ((c::r).takeWhile cnB) v ((c::r).takeWhile cnB).length:=by
 unfold tkT
 exact(if_neg (by rw[h1];simp)).trans (if_pos h2)
theorem tk_str {c:UInt8} {r:List UInt8} (hc:c.toNat=34):tkT untZ (c::r)=match qtL r []with
  | none=>.bad 3
  | some (a,x)=>.ok 2 [] ⟨2,0,a⟩ ((c::r).length-x.length):=by
 have h1:ltQ c=false:=by unfold ltQ;rw[hc];rfl
 have h2:(isDg c||decide (c.toNat=45))=false:=by unfold isDg;rw[hc];rfl
 unfold tkT
 exact(if_neg (by rw[h1];simp)).trans ((if_neg (by rw[h2];simp)).trans (if_pos hc))
theorem tk_few {c:UInt8} {r:List UInt8} (h1:ltQ c=false) (h2:(isDg c||decide (c.toNat=45))=false) (h3:c.toNat≠34):tkT untZ (c::r)=if syB c=true then .ok 3 [c] ValD.zero 1 else .bad 3:=by
 unfold tkT
 exact(if_neg (by rw[h1];simp)).trans ((if_neg (by rw[h2];simp)).trans (if_neg h3))
theorem next_num {s:List UInt8} {X i:Nat} {ln cl:Int} {v:Value} {w:World} {c:UInt8} (h:Lxr s X i ln cl v w) (hc:s[i]? = some c) (hlt:ltQ c=false) (hdg:(isDg c||decide (c.toNat=45))=true) :
  Calls Tryz.prog 191 #[.pointer (some ⟨X,0,none⟩)] w (NxP s X i ln cl v w (tkT untZ (s.drop i))):=by
 obtain⟨hlen,hcc0⟩:=List.getElem?_eq_some_iff.1 hc
 have hcc:=hcc0.symm
 have hb:=bget s i hlen c hcc
 have hX:=h.hX
 have hNn:=fun n=>Lib.hid (h.new0 140 n)
 obtain⟨-,q0,q1,q2,q3,-,-,-,-,-,-,-,-,-⟩:=h.copy
 clear hcc0
 obtain⟨T,hT⟩:∃T,T=(s.drop i).takeWhile cnB:=⟨_,rfl⟩
 have HG:Hid (tkT untZ (s.drop i)=match nmT untZ T with
   | .inl e=>.bad e
   | .inr v=>.ok 2 T v T.length):=by
  rw[Hid,hT,List.drop_eq_getElem_cons hlen,←hcc]
  exact tk_num hlt hdg
 obtain⟨G,hG⟩:∃G,tkT untZ (s.drop i)=G:=⟨_,rfl⟩
 rw[hG]at HG ⊢
 have hTl:T.length≤65536:=by
  have:=tw_len cnB (s.drop i)
  rw[←hT,List.length_drop]at this
  have:=h.hs
  omega
 have hA:=adv_ln cn_nl T ln cl (by rw[hT];exact tw_all _ _)
 have HA:=Lib.hid hA
 have HT:=Lib.hid hT
 have Hlt:=Lib.hid hlt
 have HNm:=fun w'=>number_c T ln cl w' hTl
 have h45:isDg c=false→((c.toNat:Int)==45)=true:=fun q=>by
  rw[q,Bool.false_or,decide_eq_true_eq]at hdg
  rw[beq_iff_eq];omega
 have H45:=Lib.hid h45
 clear h hc hcc hG hlt hT hdg hA h45 hTl
 cases hm:nmT untZ T with
 | inr vv=>
   rw[hm]at HNm HG
   have HM:∀w',Hid (Calls Tryz.prog 253 #[.agg (tk7 2 T ln cl).toArray] w' fun e w''=>e = .returned (.tuple #[.agg #[.int .i64 2,.string ⟨T.toArray⟩,.int .i64 vv.k,.int .i64 vv.n,.string ⟨vv.s.toArray⟩,.int .i64 ln,.int .i64 cl],.int .i64 0])∧Ext w' w''):=fun w'=>(HNm w').mono fun e w'' q=>⟨q.2,q.1⟩
   clear HNm hm
   cases hd:isDg c
   all_goals
    have Hd:=Lib.hid hd
    first
     | have e45:=H45.out hd
     | skip
    clear hd
    go_enter Tryz.func191,Tryz.ntmps191
    go_wp2_with fail
    go_quiet (fail)
    have hN:=hNn nq
    generalize ((w.alloc (.cells #[.int .i64 0,.string ⟨#[]⟩,.int .i64 0,.int .i64 0,.string ⟨#[]⟩,.int .i64 0,.int .i64 0] 140)).alloc (.cells #[.int .i64 0,.string ⟨#[]⟩,.int .i64 0,.int .i64 0,.string ⟨#[]⟩,.int .i64 ln,.int .i64 cl] 140)).drewN nq=W1 at hN ⊢
    clear hNn q0 q1 q2 q3
    go_wp2_with (first
     | (go_at_call 241;(with_reducible refine(qlet_c c _ _ Hlt.out).mono ?_);rintro e w1 ⟨rfl,rfl⟩)
     | (go_at_call 242;(with_reducible refine(qdig_c c _ _ Hd.out).mono ?_);rintro e w1 ⟨rfl,rfl⟩)
     | (go_at_call 189;(with_reducible refine(while_c by_const hN.out.l).mono ?_);rintro e w2 ⟨T2,hT2,rfl,hL2,hF2⟩;obtain rfl:T=T2:=HT.out.trans hT2.symm;clear hT2;rw[HA.out.1,HA.out.2]at hL2;have hN2:=Lib.hid (hN.out.lex hL2 hF2))
     | (go_at_call 253;(with_reducible refine(HM _).out.mono ?_);rintro e w5 ⟨rfl,hE5⟩;have hN4:=Lib.hid (hN3.out.ext hE5))
     | ((with_reducible show wpList _ _ _ (⟨none,.store _ (.tmp 2) _,_,_,_,_⟩::_) _ _);refine wpl_st rfl 140 _ _ rfl w.heap.size (tk7 0 [] 0 0) (tkC ⟨2,T,vv,ln,cl⟩) rfl rfl hN4.out.r rfl tkI rfl ?_;intro W8 hF8 hB8)
             | ((with_reducible show wpList _ _ _ (⟨none,.store _ (.tmp 37) _,_,_,_,_⟩::_) _ _);refine wpl_st1 rfl 3 _ _ rfl (w.heap.size+1) 0 (tk7 0 [] ln cl) (.int .i64 2) rfl rfl hN2.out.t (by show 0<7;omega) (st_int _ 0 _) ?_;intro W6 hF6 hB6)
             | ((with_reducible show wpList _ _ _ (⟨none,.store _ (.tmp 38) _,_,_,_,_⟩::_) _ _);refine wpl_st1 rfl 9 _ _ rfl (w.heap.size+1) 1 (tk7 2 [] ln cl) (.string ⟨T.toArray⟩) rfl rfl hB6 (by show 1<7;omega) (st_str _ 1 _) ?_;intro W7 hF7 hB7;have hB9:BxT (w.heap.size+1) (tk7 2 T ln cl) W7:=hB7;have hN3:=Lib.hid ((hN2.out.put hF6 hB6).put hF7 hB9))
     | ((with_reducible show wpList _ _ _ (⟨_,.load 140 (.tmp 4),_,_,_,_⟩::_) _ _);refine wpl_load rfl 140 _ rfl (w.heap.size+1) 0 rfl (tk7 2 T ln cl) _ hN3.out.t.rd Tryz.underlying140 rfl tkI ?_))
    refine bodyPost_ret (v:=.tuple #[.agg (tkC ⟨2,T,vv,ln,cl⟩).toArray,.int .i64 0]) (results_ct rfl rfl (run_loadVar_mid W8 w.heap.size 0 140 _ _ hB8.rd Tryz.underlying140 rfl tkI) rfl) rfl ?_
    rw[HG.out]
    exact⟨(hN4.out.fin hF8).1,rfl,(hN4.out.fin hF8).2⟩
 | inl er=>
   rw[hm]at HNm HG
   have HM:∀w',Hid (Calls Tryz.prog 253 #[.agg (tk7 2 T ln cl).toArray] w' fun e w''=>(∃vk vn,e = .returned (.tuple #[.agg #[.int .i64 2,.string ⟨T.toArray⟩,.int .i64 vk,.int .i64 vn,.string ⟨#[]⟩,.int .i64 ln,.int .i64 cl],.int .i64 er]))∧Ext w' w''):=fun w'=>(HNm w').mono fun e w'' q=>⟨q.2,q.1⟩
   clear HNm hm
   cases hd:isDg c
   all_goals
    have Hd:=Lib.hid hd
    first
     | have e45:=H45.out hd
     | skip
    clear hd
    go_enter Tryz.func191,Tryz.ntmps191
    go_wp2_with fail
    go_quiet (fail)
    have hN:=hNn nq
    generalize ((w.alloc (.cells #[.int .i64 0,.string ⟨#[]⟩,.int .i64 0,.int .i64 0,.string ⟨#[]⟩,.int .i64 0,.int .i64 0] 140)).alloc (.cells #[.int .i64 0,.string ⟨#[]⟩,.int .i64 0,.int .i64 0,.string ⟨#[]⟩,.int .i64 ln,.int .i64 cl] 140)).drewN nq=W1 at hN ⊢
    clear hNn q0 q1 q2 q3
    go_wp2_with (first
     | (go_at_call 241;(with_reducible refine(qlet_c c _ _ Hlt.out).mono ?_);rintro e w1 ⟨rfl,rfl⟩)
     | (go_at_call 242;(with_reducible refine(qdig_c c _ _ Hd.out).mono ?_);rintro e w1 ⟨rfl,rfl⟩)
     | (go_at_call 189;(with_reducible refine(while_c by_const hN.out.l).mono ?_);rintro e w2 ⟨T2,hT2,rfl,hL2,hF2⟩;obtain rfl:T=T2:=HT.out.trans hT2.symm;clear hT2;have hN2:=Lib.hid (hN.out.lex hL2 hF2))
     | (go_at_call 253;(with_reducible refine(HM _).out.mono ?_);rintro e w5 ⟨⟨vk,vn,rfl⟩,hE5⟩;have hN4:=Lib.hid (hN3.out.ext hE5))
     | ((with_reducible show wpList _ _ _ (⟨none,.store _ (.tmp 2) _,_,_,_,_⟩::_) _ _);refine wpl_st rfl 140 _ _ rfl w.heap.size (tk7 0 [] 0 0) (tkC ⟨2,T,⟨vk,vn,[]⟩,ln,cl⟩) rfl rfl hN4.out.r rfl tkI rfl ?_;intro W8 hF8 hB8)
             | ((with_reducible show wpList _ _ _ (⟨none,.store _ (.tmp 37) _,_,_,_,_⟩::_) _ _);refine wpl_st1 rfl 3 _ _ rfl (w.heap.size+1) 0 (tk7 0 [] ln cl) (.int .i64 2) rfl rfl hN2.out.t (by show 0<7;omega) (st_int _ 0 _) ?_;intro W6 hF6 hB6)
             | ((with_reducible show wpList _ _ _ (⟨none,.store _ (.tmp 38) _,_,_,_,_⟩::_) _ _);refine wpl_st1 rfl 9 _ _ rfl (w.heap.size+1) 1 (tk7 2 [] ln cl) (.string ⟨T.toArray⟩) rfl rfl hB6 (by show 1<7;omega) (st_str _ 1 _) ?_;intro W7 hF7 hB7;have hB9:BxT (w.heap.size+1) (tk7 2 T ln cl) W7:=hB7;have hN3:=Lib.hid ((hN2.out.put hF6 hB6).put hF7 hB9))
     | ((with_reducible show wpList _ _ _ (⟨_,.load 140 (.tmp 4),_,_,_,_⟩::_) _ _);refine wpl_load rfl 140 _ rfl (w.heap.size+1) 0 rfl (tk7 2 T ln cl) _ hN3.out.t.rd Tryz.underlying140 rfl tkI ?_))
    refine bodyPost_ret (v:=.tuple #[.agg (tkC ⟨2,T,⟨vk,vn,[]⟩,ln,cl⟩).toArray,.int .i64 er]) (results_ct rfl rfl (run_loadVar_mid W8 w.heap.size 0 140 _ _ hB8.rd Tryz.underlying140 rfl tkI) rfl) rfl ?_
    rw[HG.out]
    exact⟨(hN4.out.fin hF8).1,⟨2,T,⟨vk,vn,[]⟩,ln,cl⟩,rfl,rfl,rfl⟩
end Go.Proofs.YtlmeinikknoeeaaGreatDoor
