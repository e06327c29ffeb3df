/- Queries: the lexer in memory; the walk of next, the rest. -/
import Derived.Test.YtlmeinikknoeeaaGreatDoorQ22
namespace Go.Proofs.YtlmeinikknoeeaaGreatDoor
set_option maxRecDepth 100000
set_option maxHeartbeats 4000000
set_option linter.unusedVariables false
set_option linter.unnecessarySimpa false
set_option linter.unusedSimpArgs false
open Go.RowKit
theorem enc_cQ (c:UInt8) (h:c.toNat<128):Utf8.encode (c.toNat:Int)=⟨#[c]⟩:=by
 unfold Utf8.encode
 have hv:Utf8.valid (c.toNat:Int)=true:=by simp[Utf8.valid];omega
 simp only[hv,if_true,Int.toNat_natCast]
 rw[if_pos (by omega)]
 simp
theorem next_str {s:List UInt8} {X i:Nat} {ln cl:Int} {v:Value} {w:World} {c:UInt8} (h:Lxr s X i ln cl v w) (hc:s[i]? = some c) (h34:c.toNat=34) :
  Calls Tryz.prog 191 #[.pointer (some ⟨X,0,none⟩)] w (NxP s X i ln cl v w (tkT untZ (s.drop i))):=by
 obtain⟨hlen,hcc0⟩:=List.getElem?_eq_some_iff.1 hc
 have hcc:=hcc0.symm
 have hb:=bget s i hlen c hcc
 have hX:=h.hX
 have hNn:=fun n=>Lib.hid (h.new0 140 n)
 obtain⟨-,q0,q1,q2,q3,-,-,-,-,-,-,-,-,-⟩:=h.copy
 clear hcc0
 have hlt:ltQ c=false:=by unfold ltQ;rw[h34];rfl
 have hd:isDg c=false:=by unfold isDg;rw[h34];rfl
 have HG:Hid (tkT untZ (s.drop i)=match qtL (s.drop (i+1)) []with
   | none=>.bad 3
   | some (a,x)=>.ok 2 [] ⟨2,0,a⟩ (s.length-i-x.length)):=by
  rw[Hid,List.drop_eq_getElem_cons hlen,←hcc,tk_str h34]
  simp only[List.length_cons,List.length_drop]
  rw[show s.length-(i+1)+1=s.length-i by omega]
  cases qtL (s.drop (i+1)) []with
  | none=>rfl
  | some q=>rfl
 obtain⟨G,hG⟩:∃G,tkT untZ (s.drop i)=G:=⟨_,rfl⟩
 rw[hG]at HG ⊢
 have Hlt:=Lib.hid hlt
 have Hd:=Lib.hid hd
 have e45:((c.toNat:Int)==45)=false:=by rw[beq_eq_false_iff_ne];omega
 have e34:((c.toNat:Int)==34)=true:=by rw[beq_iff_eq];omega
 have HC:Hid (s[i]? = some 34):=by rw[Hid,hc];exact congrArg some (UInt8.toNat_inj.1 h34)
 have hcl:=h.hc
 clear h hc hcc hG hlt hd h34
 cases hq:qtL (s.drop (i+1)) []with
 | none=>
   rw[hq]at HG
   have HQ:∀w',Lxr s X i ln cl v w'→Hid (Calls Tryz.prog 254 #[.pointer (some ⟨X,0,none⟩),.agg (tk7 0 [] ln cl).toArray] w' fun e w''=>e = .returned (.tuple #[.agg (qbC 2 [] 0 ln cl).toArray,.int .i64 3])∧Frm (fun k=>k=X) w' w''):=fun w' hl=>by
    have:=quoted_c hl HC.out
    rw[hq]at this
    exact this.mono fun e w'' q=>⟨q.2,q.1⟩
   clear hq
   go_enter Tryz.func191,Tryz.ntmps191
   go_wp2_with fail
   go_quiet (fail)
   have hN:=hNn nq
   generalize ((w.alloc (.cells #[.int .i64 0,.string ⟨#[]⟩,.int .i64 0,.int .i64 0,.string ⟨#[]⟩,.int .i64 0,.int .i64 0] 140)).alloc (.cells #[.int .i64 0,.string ⟨#[]⟩,.int .i64 0,.int .i64 0,.string ⟨#[]⟩,.int .i64 ln,.int .i64 cl] 140)).drewN nq=W1 at hN ⊢
   clear hNn q0 q1 q2 q3
   go_wp2_with (first
    | (go_at_call 241;(with_reducible refine(qlet_c c _ _ Hlt.out).mono ?_);rintro e w1 ⟨rfl,rfl⟩)
    | (go_at_call 242;(with_reducible refine(qdig_c c _ _ Hd.out).mono ?_);rintro e w1 ⟨rfl,rfl⟩)
    | (go_at_call 254;(with_reducible refine(HQ _ hN.out.l).out.mono ?_);rintro e w5 ⟨rfl,hF5⟩;have hR5:=hN.out.r.frm hF5 (by omega))
    | ((with_reducible show wpList _ _ _ (⟨_,.load 140 (.tmp 4),_,_,_,_⟩::_) _ _);refine wpl_load rfl 140 _ rfl (w.heap.size+1) 0 rfl (tk7 0 [] ln cl) _ hN.out.t.rd Tryz.underlying140 rfl tkI ?_)
    | ((with_reducible show wpList _ _ _ (⟨none,.store _ (.tmp 2) _,_,_,_,_⟩::_) _ _);refine wpl_st rfl 140 _ _ rfl w.heap.size (tk7 0 [] 0 0) (qbC 2 [] 0 ln cl) rfl rfl hR5 rfl tkI rfl ?_;intro W8 hF8 hB8))
   refine bodyPost_ret (v:=.tuple #[.agg (qbC 2 [] 0 ln cl).toArray,.int .i64 3]) (results_ct rfl rfl (run_loadVar_mid W8 w.heap.size 0 140 _ _ hB8.rd Tryz.underlying140 rfl tkI) rfl) rfl ?_
   rw[HG.out]
   exact⟨(hN.out.f.trans hF5).step hF8 (fun k h1 h2=>by omega),⟨2,[],ValD.zero,ln,cl⟩,rfl,rfl,rfl⟩
 | some q=>
   obtain⟨a,x⟩:=q
   rw[hq]at HG
   have hxl:=qtL_len _ _ _ _ _ rfl hq
   rw[List.length_drop]at hxl
   have HQ:∀w',Lxr s X i ln cl v w'→Hid (Calls Tryz.prog 254 #[.pointer (some ⟨X,0,none⟩),.agg (tk7 0 [] ln cl).toArray] w' fun e w''=>e = .returned (.tuple #[.agg (qbC 2 a 2 ln cl).toArray,.int .i64 0])∧Frm (fun k=>k=X) w' w''∧Lxr s X (s.length-x.length) ln (cl+(s.length-x.length-i:Nat)) v w''):=fun w' hl=>by
    have:=quoted_c hl HC.out
    rw[hq]at this
    exact this.mono fun e w'' q=>⟨q.2.1,q.1,q.2.2⟩
   clear hq
   go_enter Tryz.func191,Tryz.ntmps191
   go_wp2_with fail
   go_quiet (fail)
   have hN:=hNn nq
   generalize ((w.alloc (.cells #[.int .i64 0,.string ⟨#[]⟩,.int .i64 0,.int .i64 0,.string ⟨#[]⟩,.int .i64 0,.int .i64 0] 140)).alloc (.cells #[.int .i64 0,.string ⟨#[]⟩,.int .i64 0,.int .i64 0,.string ⟨#[]⟩,.int .i64 ln,.int .i64 cl] 140)).drewN nq=W1 at hN ⊢
   clear hNn q0 q1 q2 q3
   go_wp2_with (first
    | (go_at_call 241;(with_reducible refine(qlet_c c _ _ Hlt.out).mono ?_);rintro e w1 ⟨rfl,rfl⟩)
    | (go_at_call 242;(with_reducible refine(qdig_c c _ _ Hd.out).mono ?_);rintro e w1 ⟨rfl,rfl⟩)
    | (go_at_call 254;(with_reducible refine(HQ _ hN.out.l).out.mono ?_);rintro e w5 ⟨rfl,hF5,hL5⟩;have hN5:=Lib.hid (hN.out.lex hL5 hF5))
    | ((with_reducible show wpList _ _ _ (⟨_,.load 140 (.tmp 4),_,_,_,_⟩::_) _ _);refine wpl_load rfl 140 _ rfl (w.heap.size+1) 0 rfl (tk7 0 [] ln cl) _ hN.out.t.rd Tryz.underlying140 rfl tkI ?_)
    | ((with_reducible show wpList _ _ _ (⟨none,.store _ (.tmp 2) _,_,_,_,_⟩::_) _ _);refine wpl_st rfl 140 _ _ rfl w.heap.size (tk7 0 [] 0 0) (qbC 2 a 2 ln cl) rfl rfl hN5.out.r rfl tkI rfl ?_;intro W8 hF8 hB8))
   refine bodyPost_ret (v:=.tuple #[.agg (qbC 2 a 2 ln cl).toArray,.int .i64 0]) (results_ct rfl rfl (run_loadVar_mid W8 w.heap.size 0 140 _ _ hB8.rd Tryz.underlying140 rfl tkI) rfl) rfl ?_
   rw[HG.out]
   have hz:=hN5.out.fin hF8
   refine⟨hz.1,rfl,?_⟩
   have h2:=hz.2
   rw[show i+(s.length-i-x.length)=s.length-x.length by omega,show s.length-i-x.length=s.length-x.length-i by omega]
   exact h2
theorem next_bad {s:List UInt8} {X i:Nat} {ln cl:Int} {v:Value} {w:World} {c:UInt8} (h:Lxr s X i ln cl v w) (hc:s[i]? = some c) (hlt:ltQ c=false) (hdg:(isDg c||decide (c.toNat=45))=false) (h34:c.toNat≠34) (hsy:syB c=false) :
  Calls Tryz.prog 191 #[.pointer (some ⟨X,0,none⟩)] w (NxP s X i ln cl v w (tkT untZ (s.drop i))):=by
 obtain⟨hlen,hcc0⟩:=List.getElem?_eq_some_iff.1 hc
 have hcc:=hcc0.symm
 have hb:=bget s i hlen c hcc
 have hX:=h.hX
 have hNn:=fun n=>Lib.hid (h.new0 140 n)
 obtain⟨-,q0,q1,q2,q3,-,-,-,-,-,-,-,-,-⟩:=h.copy
 clear hcc0
 have HG:Hid (tkT untZ (s.drop i) = .bad 3):=by
  rw[Hid,List.drop_eq_getElem_cons hlen,←hcc,tk_few hlt hdg h34,if_neg (by rw[hsy];simp)]
 obtain⟨G,hG⟩:∃G,tkT untZ (s.drop i)=G:=⟨_,rfl⟩
 rw[hG]at HG ⊢
 rw[Bool.or_eq_false_iff,decide_eq_false_iff_not]at hdg
 have Hlt:=Lib.hid hlt
 have Hd:=Lib.hid hdg.1
 have HI:=fun w'=>Lib.hid (ib_c c w')
 rw[hsy]at HI
 have e45:((c.toNat:Int)==45)=false:=by rw[beq_eq_false_iff_ne];omega
 have e34:((c.toNat:Int)==34)=false:=by rw[beq_eq_false_iff_ne];omega
 clear h hc hcc hG hlt hdg h34 hsy
 go_enter Tryz.func191,Tryz.ntmps191
 go_wp2_with fail
 go_quiet (fail)
 have hN:=hNn nq
 generalize ((w.alloc (.cells #[.int .i64 0,.string ⟨#[]⟩,.int .i64 0,.int .i64 0,.string ⟨#[]⟩,.int .i64 0,.int .i64 0] 140)).alloc (.cells #[.int .i64 0,.string ⟨#[]⟩,.int .i64 0,.int .i64 0,.string ⟨#[]⟩,.int .i64 ln,.int .i64 cl] 140)).drewN nq=W1 at hN ⊢
 clear hNn q0 q1 q2 q3
 go_wp2_with (first
  | (go_at_call 241;(with_reducible refine(qlet_c c _ _ Hlt.out).mono ?_);rintro e w1 ⟨rfl,rfl⟩)
  | (go_at_call 242;(with_reducible refine(qdig_c c _ _ Hd.out).mono ?_);rintro e w1 ⟨rfl,rfl⟩)
  | (go_at_call 156;(with_reducible refine(HI _).out.mono ?_);rintro e w5 ⟨⟨z,rfl,hz⟩,rfl⟩)
           | ((with_reducible show wpList _ _ _ (⟨_,.load 140 (.tmp 4),_,_,_,_⟩::_) _ _);refine wpl_load rfl 140 _ rfl (w.heap.size+1) 0 rfl (tk7 0 [] ln cl) _ hN.out.t.rd Tryz.underlying140 rfl tkI ?_)
           | ((with_reducible show wpList _ _ _ (⟨none,.store _ (.tmp 2) _,_,_,_,_⟩::_) _ _);refine wpl_st rfl 140 _ _ rfl w.heap.size (tk7 0 [] 0 0) (tk7 0 [] ln cl) rfl rfl hN.out.r rfl tkI rfl ?_;intro W8 hF8 hB8))
 refine bodyPost_ret (v:=.tuple #[.agg (tk7 0 [] ln cl).toArray,.int .i64 3]) (results_ct rfl rfl (run_loadVar_mid W8 w.heap.size 0 140 _ _ hB8.rd Tryz.underlying140 rfl tkI) rfl) rfl ?_
 exact NxP.bad HG.out (hN.out.fin hF8)
theorem next_sym {s:List UInt8} {X i:Nat} {ln cl:Int} {v:Value} {w:World} {c:UInt8} (h:Lxr s X i ln cl v w) (hc:s[i]? = some c) (hsy:syB c=true) :
  Calls Tryz.prog 191 #[.pointer (some ⟨X,0,none⟩)] w (NxP s X i ln cl v w (tkT untZ (s.drop i))):=by
 have hcs:c=40∨c=41∨c=44∨c=60∨c=61:=by
  unfold syB at hsy
  simp only[Bool.or_eq_true,decide_eq_true_eq]at hsy
  rcases hsy with(((q|q)|q)|q)|q
  ·exact .inl (UInt8.toNat_inj.1 q)
  ·exact .inr (.inl (UInt8.toNat_inj.1 q))
  ·exact .inr (.inr (.inl (UInt8.toNat_inj.1 q)))
  ·exact .inr (.inr (.inr (.inl (UInt8.toNat_inj.1 q))))
  ·exact .inr (.inr (.inr (.inr (UInt8.toNat_inj.1 q))))
 obtain⟨hlen,hcc0⟩:=List.getElem?_eq_some_iff.1 hc
 have hcc:=hcc0.symm
 have hb:=bget s i hlen c hcc
 have hX:=h.hX
 have hNn:=fun n=>Lib.hid (h.new0 140 n)
 obtain⟨-,q0,q1,q2,q3,-,-,-,-,-,-,-,-,-⟩:=h.copy
 clear hcc0
 have hlt:ltQ c=false:=by rcases hcs with rfl|rfl|rfl|rfl|rfl<;>rfl
 have hdg:(isDg c||decide (c.toNat=45))=false:=by rcases hcs with rfl|rfl|rfl|rfl|rfl<;>rfl
 have h34:c.toNat≠34:=by rcases hcs with rfl|rfl|rfl|rfl|rfl<;>decide
 have h10:c.toNat≠10:=by rcases hcs with rfl|rfl|rfl|rfl|rfl<;>decide
 have HG:Hid (tkT untZ (s.drop i) = .ok 3 [c] ValD.zero 1):=by
  rw[Hid,List.drop_eq_getElem_cons hlen,←hcc,tk_few hlt hdg h34,if_pos hsy]
 obtain⟨G,hG⟩:∃G,tkT untZ (s.drop i)=G:=⟨_,rfl⟩
 rw[hG]at HG ⊢
 rw[Bool.or_eq_false_iff,decide_eq_false_iff_not]at hdg
 have Hlt:=Lib.hid hlt
 have Hd:=Lib.hid hdg.1
 have HI:=fun w'=>Lib.hid (ib_c c w')
 rw[hsy]at HI
 have HC:=Lib.hid hc
 have e45:((c.toNat:Int)==45)=false:=by rw[beq_eq_false_iff_ne];omega
 have e34:((c.toNat:Int)==34)=false:=by rw[beq_eq_false_iff_ne];omega
 have henc:=enc_cQ c (by rcases hcs with rfl|rfl|rfl|rfl|rfl<;>decide)
 have H10:=Lib.hid h10
 clear h hc hcc hG hlt hdg h34 hsy hcs h10
 go_enter Tryz.func191,Tryz.ntmps191
 go_wp2_with fail
 go_quiet (fail)
 have hN:=hNn nq
 generalize ((w.alloc (.cells #[.int .i64 0,.string ⟨#[]⟩,.int .i64 0,.int .i64 0,.string ⟨#[]⟩,.int .i64 0,.int .i64 0] 140)).alloc (.cells #[.int .i64 0,.string ⟨#[]⟩,.int .i64 0,.int .i64 0,.string ⟨#[]⟩,.int .i64 ln,.int .i64 cl] 140)).drewN nq=W1 at hN ⊢
 clear hNn q0 q1 q2 q3
 go_wp2_with (first
  | (go_at_call 241;(with_reducible refine(qlet_c c _ _ Hlt.out).mono ?_);rintro e w1 ⟨rfl,rfl⟩)
  | (go_at_call 242;(with_reducible refine(qdig_c c _ _ Hd.out).mono ?_);rintro e w1 ⟨rfl,rfl⟩)
  | (go_at_call 156;(with_reducible refine(HI _).out.mono ?_);rintro e w5 ⟨⟨z,rfl,hz⟩,rfl⟩)
  | (go_at_call 250;(with_reducible refine(step_c hN3.out.l HC.out).mono ?_);rintro e w9 ⟨rfl,hL9,hF9⟩;have hN9:=Lib.hid (hN3.out.lex hL9 hF9))
           | ((with_reducible show wpList _ _ _ (⟨none,.store _ (.tmp 57) _,_,_,_,_⟩::_) _ _);refine wpl_st1 rfl 3 _ _ rfl (w.heap.size+1) 0 (tk7 0 [] ln cl) (.int .i64 3) rfl rfl hN.out.t (by show 0<7;omega) (st_int _ 0 _) ?_;intro W6 hF6 hB6)
           | ((with_reducible show wpList _ _ _ (⟨none,.store _ (.tmp 58) _,_,_,_,_⟩::_) _ _);refine wpl_st1 rfl 9 _ _ rfl (w.heap.size+1) 1 (tk7 3 [] ln cl) (.string ⟨[c].toArray⟩) rfl rfl hB6 (by show 1<7;omega) (st_str _ 1 _) ?_;intro W7 hF7 hB7;have hB9:BxT (w.heap.size+1) (tk7 3 [c] ln cl) W7:=hB7;have hN3:=Lib.hid ((hN.out.put hF6 hB6).put hF7 hB9))
           | ((with_reducible show wpList _ _ _ (⟨_,.load 140 (.tmp 4),_,_,_,_⟩::_) _ _);refine wpl_load rfl 140 _ rfl (w.heap.size+1) 0 rfl (tk7 3 [c] ln cl) _ hN9.out.t.rd Tryz.underlying140 rfl tkI ?_)
           | ((with_reducible show wpList _ _ _ (⟨none,.store _ (.tmp 2) _,_,_,_,_⟩::_) _ _);refine wpl_st rfl 140 _ _ rfl w.heap.size (tk7 0 [] 0 0) (tk7 3 [c] ln cl) rfl rfl hN9.out.r rfl tkI rfl ?_;intro W8 hF8 hB8))
 refine bodyPost_ret (v:=.tuple #[.agg (tk7 3 [c] ln cl).toArray,.int .i64 0]) (results_ct rfl rfl (run_loadVar_mid W8 w.heap.size 0 140 _ _ hB8.rd Tryz.underlying140 rfl tkI) rfl) rfl ?_
 refine NxP.tok HG.out (hN9.out.fin hF8) ?_ ?_
 ·rw[ln1,if_neg H10.out]
 ·rw[cl1,if_neg H10.out];rfl
end Go.Proofs.YtlmeinikknoeeaaGreatDoor
namespace Go.Proofs.YtlmeinikknoeeaaGreatDoor
set_option linter.unusedVariables false
set_option linter.unnecessarySimpa false
set_option linter.unusedSimpArgs false
open Go.RowKit
theorem next_c {s:List UInt8} {X i:Nat} {ln cl:Int} {v:Value} {w:World} (h:Lxr s X i ln cl v w) (hi:i<s.length) :
  Calls Tryz.prog 191 #[.pointer (some ⟨X,0,none⟩)] w (NxP s X i ln cl v w (tkT untZ (s.drop i))):=by
 obtain⟨c,hc⟩:∃c,s[i]? = some c:=⟨_,List.getElem?_eq_getElem hi⟩
 cases hlt:ltQ c with
 | true=>exact next_word h hc hlt
 | false=>
   cases hdg:isDg c||decide (c.toNat=45)with
   | true=>exact next_num h hc hlt hdg
   | false=>
     by_cases h34:c.toNat=34
     ·exact next_str h hc h34
     ·cases hsy:syB c with
      | true=>exact next_sym h hc hsy
      | false=>exact next_bad h hc hlt hdg h34 hsy
theorem lexL_blank {mom:List UInt8→Option Int}:∀(T r:List UInt8) (f:Nat) (ln cl:Int) (acc:List TkD),T.all blB=true→lexL mom (T.length+f) (T++r) ln cl acc=lexL mom f r (lnL T ln) (clL T cl) acc
 | [],r,f,ln,cl,acc,_=>by
   rw[List.length_nil,Nat.zero_add];rfl
 | c::T,r,f,ln,cl,acc,h=>by
   rw[List.all_cons,Bool.and_eq_true]at h
   have ih:=fun l c=>lexL_blank (mom:=mom) T r f l c acc h.2
   rw[List.cons_append,List.length_cons,show T.length+1+f=(T.length+f)+1 by omega,lexL]
   show _=lexL mom f r (lnL T (ln1 c ln)) (clL T (cl1 c cl)) acc
   by_cases e:c.toNat=10
   ·rw[if_pos e,ih,ln1,cl1,if_pos e,if_pos e]
   ·rw[if_neg e,if_pos h.1,ih,ln1,cl1,if_neg e,if_neg e]
theorem lexL_tok {mom:List UInt8→Option Int} {c:UInt8} {r:List UInt8} {f:Nat} {ln cl:Int} {acc:List TkD} (hb:blB c=false):lexL mom (f+1) (c::r) ln cl acc=match tkT mom (c::r)with
  | .bad e=>.bad ln cl e
  | .ok k tx v n=>lexL mom f ((c::r).drop n) ln (cl+n) (acc ++ [⟨k,tx,v,ln,cl⟩]):=by
 rw[lexL]
 have h10:c.toNat≠10:=fun e=>by unfold blB at hb;rw[e]at hb;exact absurd hb (by decide)
 rw[if_neg h10,if_neg (by rw[hb];simp)]
 rfl
theorem tw_next {p:UInt8→Bool} {s:List UInt8} {j:Nat} {T:List UInt8} (hT:T=(s.drop j).takeWhile p) (c:UInt8) (hc:s[j+T.length]? = some c):p c=false:=by
 have h1:s.drop j=T++(s.drop j).dropWhile p:=by rw[hT];exact(List.takeWhile_append_dropWhile).symm
 have h2:s.drop (j+T.length)=(s.drop j).dropWhile p:=by
  rw[←List.drop_drop,h1,List.drop_left]
  rw[←h1]
 have h3:((s.drop j).dropWhile p).head? = some c:=by
  rw[←h2,List.head?_drop];exact hc
 have:=List.head?_dropWhile_not p (s.drop j)
 rw[h3]at this
 simpa using this
theorem tw_drop {p:UInt8→Bool} {s:List UInt8} {j:Nat} {T:List UInt8} (hT:T=(s.drop j).takeWhile p):s.drop j=T++s.drop (j+T.length):=by
 have h1:s.drop j=T++(s.drop j).dropWhile p:=by rw[hT];exact(List.takeWhile_append_dropWhile).symm
 have h2:s.drop (j+T.length)=(s.drop j).dropWhile p:=by
  rw[←List.drop_drop,h1,List.drop_left]
  rw[←h1]
 rw[h2]
 exact h1
theorem lexL_go {mom:List UInt8→Option Int} {s:List UInt8} {j:Nat} {ln cl:Int} {acc:List TkD} {T:List UInt8} (hT:T=(s.drop j).takeWhile blB) (hj:j≤s.length) :
  lexL mom (s.length-j) (s.drop j) ln cl acc=if j+T.length<s.length then match tkT mom (s.drop (j+T.length))with
   | .bad e=>.bad (lnL T ln) (clL T cl) e
   | .ok k tx v n=>lexL mom (s.length-(j+T.length+n)) (s.drop (j+T.length+n)) (lnL T ln) (clL T cl+n) (acc ++ [⟨k,tx,v,lnL T ln,clL T cl⟩])
  else .ok acc:=by
 have h1:=tw_drop hT
 have hl:T.length≤s.length-j:=by
  have:=congrArg List.length h1
  rw[List.length_append,List.length_drop]at this
  omega
 have hall:T.all blB=true:=by rw[hT];exact tw_all _ _
 rw[h1,show s.length-j=T.length+(s.length-(j+T.length)) by omega,lexL_blank T _ _ _ _ _ hall]
 by_cases hlt:j+T.length<s.length
 ·rw[if_pos hlt,List.drop_eq_getElem_cons hlt]
  have hb:=tw_next hT s[j+T.length] (List.getElem?_eq_getElem hlt)
  rw[show s.length-(j+T.length)=(s.length-(j+T.length+1))+1 by omega,lexL_tok hb]
  cases hk:tkT mom (s[j+T.length]::s.drop (j+T.length+1))with
  | bad e=>rfl
  | ok k tx v n=>
    have hn:=tkT_n hk
    simp only
    rw[←List.drop_eq_getElem_cons hlt,List.drop_drop]
    refine lexL_fuel _ _ _ _ _ _ ?_ ?_
    ·rw[List.length_drop];omega
    ·rw[List.length_drop];omega
 ·rw[if_neg hlt,List.drop_eq_nil_of_le (by omega),show s.length-(j+T.length)=0 by omega]
  rfl
end Go.Proofs.YtlmeinikknoeeaaGreatDoor
