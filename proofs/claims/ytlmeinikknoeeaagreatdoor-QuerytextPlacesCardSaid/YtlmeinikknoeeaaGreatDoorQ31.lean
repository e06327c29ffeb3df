/- Queries: read. -/
import Derived.Test.YtlmeinikknoeeaaGreatDoorQ30
namespace Go.Proofs.YtlmeinikknoeeaaGreatDoor
set_option linter.unusedVariables false
set_option linter.unnecessarySimpa false
set_option linter.unusedSimpArgs false
open Go.RowKit
def WhV {α:Type} (L:List TkD) (ao:Option Addr) (cap Bp C:Nat) (w1:World) (V:α→World→Prop) (r:Rs α) (e:Ending) (w2:World):Prop:=
 Frm (fun k=>k=Bp∨k=C) w1 w2∧match r with
  | .ok a j=>e = .returned (.tuple #[])∧V a w2∧Psr L ao cap Bp j w2
  | .bad l c er=>e = .panicked [{v:=flV l c er,recovered:=false}]
def RdP {α:Type} (C:Nat) (w:World) (V:α→World→Prop) (r:Rs α) (e:Ending) (w':World):Prop:=
 Frm (fun k=>k=C) w w'∧match r with
  | .ok a _=>e = .returned (.tuple #[.agg #[.int .i64 0,.int .i64 0],.int .i64 0])∧V a w'
  | .bad l c er=>e = .returned (.tuple #[.agg #[.int .i64 l,.int .i64 c],.int .i64 er])
theorem lexL_bad:∀(f:Nat) (s:List UInt8) (ln cl:Int) (acc:List TkD) (l c er:Int),lexL untZ f s ln cl acc = .bad l c er→er=3∨er=9
 | 0,s,ln,cl,acc,l,c,er,h=>by rw[lexL]at h;cases h
 | f+1,[],ln,cl,acc,l,c,er,h=>by rw[lexL]at h;cases h
 | f+1,d::r,ln,cl,acc,l,c,er,h=>by
   rw[lexL]at h
   split at h
   ·exact lexL_bad f r _ _ acc l c er h
   ·split at h
    ·exact lexL_bad f r _ _ acc l c er h
    ·split at h
     ·rename_i e hk
      injection h with h1 h2 h3
      rw[←h3]
      exact tkT_bad hk
     ·exact lexL_bad f _ _ _ _ l c er h
theorem lexT_bad {s:List UInt8} {l c er:Int} (h:lexT untZ s = .bad l c er):er=3∨er=9∨er=5:=by
 unfold lexT at h
 split at h
 ·injection h with h1 h2 h3
  exact .inr (.inr h3.symm)
 ·rcases lexL_bad _ _ _ _ _ _ _ _ h with q|q
  ·exact .inl q
  ·exact .inr (.inl q)
theorem rd0 (w:World):BxT w.heap.size [.int .i64 0,.int .i64 0] ((w.alloc (.cells #[.int .i64 0,.int .i64 0] 50)).alloc (.cells #[.int .i64 0] 37))∧BxT (w.heap.size+1) [.int .i64 0] ((w.alloc (.cells #[.int .i64 0,.int .i64 0] 50)).alloc (.cells #[.int .i64 0] 37))∧Ext w ((w.alloc (.cells #[.int .i64 0,.int .i64 0] 50)).alloc (.cells #[.int .i64 0] 37)):=by
 have h:=BxT.new (w.alloc (.cells #[.int .i64 0,.int .i64 0] 50)) [.int .i64 0] 37
 rw[World.size_alloc]at h
 exact⟨(BxT.new w [.int .i64 0,.int .i64 0] 50).ext ((Ext.refl _).alloc _),h,((Ext.refl w).alloc _).alloc _⟩
theorem st_er (D o:Nat) (n:Int) (w:World) (h1:(w.cell? ⟨D,o,none⟩).isSome=true) (h2:w.frozen? ⟨D,o,none⟩=false):(Instr.storeAt 37 (.pointer (some ⟨D,o,none⟩)) (.int .i64 n)).run Tryz.prog w = .ok () (w.setCell ⟨D,o,none⟩ (.int .i64 n)):=by
 obtain⟨u,hu⟩:=Option.isSome_iff_exists.1 h1
 simp[go_sem,hu,h2]
theorem ext_frm {w w':World} (h:Frm (fun _=>False) w w'):Ext w w':=⟨h.os,h.tape,h.output,h.size,fun k hk=>h.block k hk id⟩
theorem results_cc {fn:Func} {tmps:Array Value} {w:World} {a b:Tmp} {t u:TypeId} {x y:Value} {p q:Addr} (h:fn.results = #[.cell a t,.cell b u]) (hp:tmps.getD a undef = .pointer (some p)) (h1:(loadVar t p).run Tryz.prog w = .ok x w) (hq:tmps.getD b undef = .pointer (some q)) (h2:(loadVar u q).run Tryz.prog w = .ok y w):(results fn tmps).run Tryz.prog w = .ok (.tuple #[x,y]) w:=by
 unfold results
 rw[h]
 have hp2:tmps[a]?.getD undef = .pointer (some p):=by rw[←hp];simp
 have hq2:tmps[b]?.getD undef = .pointer (some q):=by rw[←hq];simp
 simp[hp2,h1,hq2,h2,asAddr,Result.andThen]
theorem ld_er (D o:Nat) (v:Value) (w:World) (h:w.cell? ⟨D,o,none⟩=some v):(loadVar 37 ⟨D,o,none⟩).run Tryz.prog w = .ok v w:=by simp[go_sem,loadVar,h]
theorem rd_fin {w W:World} {l c er l0 c0 er0:Int} (hA:BxT w.heap.size [.int .i64 l0,.int .i64 c0] W) (hB:BxT (w.heap.size+1) [.int .i64 er0] W) :
  BxT w.heap.size [.int .i64 l,.int .i64 c] ((((W.setCell ⟨w.heap.size,0,none⟩ (.int .i64 l)).setCell ⟨w.heap.size,1,none⟩ (.int .i64 c)).setCell ⟨w.heap.size+1,0,none⟩ (.int .i64 er)).drew)∧BxT (w.heap.size+1) [.int .i64 er] ((((W.setCell ⟨w.heap.size,0,none⟩ (.int .i64 l)).setCell ⟨w.heap.size,1,none⟩ (.int .i64 c)).setCell ⟨w.heap.size+1,0,none⟩ (.int .i64 er)).drew)∧Frm (fun k=>k=w.heap.size∨k=w.heap.size+1) W ((((W.setCell ⟨w.heap.size,0,none⟩ (.int .i64 l)).setCell ⟨w.heap.size,1,none⟩ (.int .i64 c)).setCell ⟨w.heap.size+1,0,none⟩ (.int .i64 er)).drew):=by
 have q1:=(hA.set 0 (.int .i64 l) (by simp)).set 1 (.int .i64 c) (by simp)
 have fA:Frm (fun k=>k=w.heap.size) W ((W.setCell ⟨w.heap.size,0,none⟩ (.int .i64 l)).setCell ⟨w.heap.size,1,none⟩ (.int .i64 c)):=((Frm.refl (fun k=>k=w.heap.size) W).setCell (p:=⟨w.heap.size,0,none⟩) (.inl rfl) _).setCell (p:=⟨w.heap.size,1,none⟩) (.inl rfl) _
 have q2:=(hB.frm fA (by omega)).set 0 (.int .i64 er) (by simp)
 have fB:Frm (fun k=>k=w.heap.size+1) ((W.setCell ⟨w.heap.size,0,none⟩ (.int .i64 l)).setCell ⟨w.heap.size,1,none⟩ (.int .i64 c)) (((W.setCell ⟨w.heap.size,0,none⟩ (.int .i64 l)).setCell ⟨w.heap.size,1,none⟩ (.int .i64 c)).setCell ⟨w.heap.size+1,0,none⟩ (.int .i64 er)):=(Frm.refl (fun k=>k=w.heap.size+1) _).setCell (p:=⟨w.heap.size+1,0,none⟩) (.inl rfl) _
 have q3:=q1.frm fB (by omega)
 have hE:∀X:World,Ext X X.drew:=fun X=>(Ext.refl X).drew
 exact⟨q3.ext (hE _),q2.ext (hE _),((fA.mono (fun x _ h=>.inl h)).trans (fB.mono (fun x _ h=>.inr h))).trans (Frm.of_ext (hE _))⟩
set_option maxRecDepth 100000 in
set_option maxHeartbeats 2000000 in
theorem read_bad {α:Type} (p:List TkD→Nat→Rs α) (V:α→World→Prop) (C:Nat) (fv:Value) (s:List UInt8) (w:World) (hs:s.length≤9223372036854775807) (l c er:Int) (hL:lexT untZ s = .bad l c er) :
  Calls Tryz.prog 56 #[.string ⟨s.toArray⟩,fv] w (RdP C w V (reP untZ (fun L=>p L) s)):=by
 have HG:Hid (reP untZ (fun L=>p L) s = .bad l c er):=by rw[Hid];unfold reP;rw[hL]
 have her:=lexT_bad hL
 have e1:(er != 0)=true:=by rw[bne_iff_ne];omega
 obtain⟨G,hG⟩:∃G,reP untZ (fun L=>p L) s=G:=⟨_,rfl⟩
 rw[hG]at HG ⊢
 have HT:=fun w'=>tokens_c s w' hs
 rw[hL]at HT
 have HTk:=fun w'=>Lib.hid (HT w')
 clear hG hL HT her
 have HZ:=Lib.hid (rd0 w)
 go_enter_defers Tryz.func56,Tryz.ntmps56
 go_wp2_with (first
  | (go_at_call 104;(with_reducible refine(HTk _).out.mono ?_);rintro x w1 ⟨hE1,rfl⟩;have h1:=HZ.out.1.ext hE1;have h2:=HZ.out.2.1.ext hE1)
           | ((with_reducible show wpList _ _ _ (⟨none,.store _ (.tmp 4) _,_,_,_,_⟩::_) _ _);refine wpl_st rfl 50 _ _ rfl w.heap.size [.int .i64 0,.int .i64 0] [.int .i64 l,.int .i64 c] rfl rfl h1 rfl poI rfl ?_;intro W2 hF2 hB2)
           | ((with_reducible show wpList _ _ _ (⟨none,.store _ (.tmp 5) _,_,_,_,_⟩::_) _ _);refine wpl_st1 rfl 37 _ _ rfl (w.heap.size+1) 0 [.int .i64 0] (.int .i64 er) rfl rfl (h2.frm hF2 (fun e=>by omega)) (by simp) (st_er _ 0 _) ?_;intro W3 hF3 hB3;have hP3:=hB2.frm hF3 (fun e=>by omega);have a0:=hP3.at 0 _ rfl;have a1:=hP3.at 1 _ rfl;have b0:=hB3.at 0 _ rfl;have fa0:=hP3.fz 0 (by simp);have fa1:=hP3.fz 1 (by simp);have fb0:=hB3.fz 0 (by simp);have hsa:=hP3.hD;have hsb:=hB3.hD;have hFx:=Lib.hid (ext_frm (((Frm.of_ext (HZ.out.2.2.trans hE1)).step hF2 (fun k h1 h2=>by omega)).step hF3 (fun k h1 h2=>by omega)));have hF23:=Lib.hid ((hF2.mono (fun x _ h=>(.inl h:x=w.heap.size∨x=w.heap.size+1))).trans (hF3.mono (fun x _ h=>.inr h)));have HP3:=Lib.hid hP3;have HB3:=Lib.hid hB3;clear hP3 hB3 hB2 hF2 hF3 h1 h2))
 skip
 go_wp2_with fail
 go_region
 all_goals
  go_wp2_with fail
  have fin:=rd_fin (l:=l) (c:=c) (er:=er) HP3.out HB3.out
  refine⟨.tuple #[.agg #[.int .i64 l,.int .i64 c],.int .i64 er],results_cc rfl rfl (run_loadVar_mid _ w.heap.size 0 50 _ _ fin.1.rd Tryz.underlying50 rfl poI) rfl (ld_er _ 0 _ _ (fin.2.1.at 0 _ rfl)),?_⟩
  rw[HG.out]
  exact⟨(Frm.of_ext hFx.out).step fin.2.2 (fun k h1 h2=>by omega),rfl⟩
end Go.Proofs.YtlmeinikknoeeaaGreatDoor
namespace Go.Proofs.YtlmeinikknoeeaaGreatDoor
set_option linter.unusedVariables false
set_option linter.unnecessarySimpa false
set_option linter.unusedSimpArgs false
open Go.RowKit
theorem TkS.frm {b:Nat} {L:List TkD} {ao:Option Addr} {cap:Nat} {S:Nat→Prop} {w w':World} (h:TkS b L ao cap w) (hF:Frm S w w') (hS:∀k,S k→k<b):TkS b L ao cap w':=
 ⟨h.1,h.2.1,fun j hj=>by
   obtain⟨R,e1,e2,e3,e4⟩:=h.2.2 j hj
   exact⟨R,e1,e2,hF.lt e3,fun k u hu=>(hF.cel e3 (fun e=>by have:=hS _ e;omega) _).trans (e4 k u hu)⟩⟩
set_option maxRecDepth 100000 in
set_option maxHeartbeats 4000000 in
theorem read_ok {α:Type} (p:List TkD→Nat→Rs α) (V:α→World→Prop) (C:Nat) (fid:FuncId) (cv:Value) (s:List UInt8) (w:World) (hs:s.length≤9223372036854775807) (L:List TkD) (hL:lexT untZ s = .ok L)
  (hr:RsvB w.heap.size w) (hC:C<w.heap.size) (hcf:∀(xs:Array Value) (w':World),(callFunc fid xs).run Tryz.prog w' = .ok (.enter fid xs) w')
  (hW:∀ao cp Bp w1,Psr L ao cp Bp 0 w1→TkS (w.heap.size+2) L ao cp w1→Ext w w1→w.heap.size+2≤Bp→Calls Tryz.prog fid #[.pointer (some ⟨Bp,0,none⟩),cv] w1 (WhV L ao cp Bp C w1 V (p L 0)))
  (hV:∀a w1 w2,V a w1→Frm (fun k=>k=w.heap.size∨k=w.heap.size+1) w1 w2→V a w2) :
  Calls Tryz.prog 56 #[.string ⟨s.toArray⟩,.func (.func fid) #[] #[cv]] w (RdP C w V (reP untZ p s)):=by
 have hmf:∀(fn:Fn) (first cap:Array Value) (w:World),(Instr.makeFunc fn first cap).run Tryz.prog w = .ok (.func fn first cap) w:=fun _ _ _ _=>rfl
 have HG:Hid (reP untZ p s=alP L (p L 0)):=by rw[Hid];unfold reP;rw[hL]
 obtain⟨G,hG⟩:∃G,reP untZ p s=G:=⟨_,rfl⟩
 rw[hG]at HG ⊢
 have HLx:=Lib.hid hL
 have HT:=fun w'=>tokens_c s w' hs
 rw[hL]at HT
 have HTk:∀w',Hid (Calls Tryz.prog 104 #[.string ⟨s.toArray⟩] w' fun e w''=>(∃ao cap,e = .returned (.tuple #[.slice ao L.length cap,.agg #[.int .i64 0,.int .i64 0],.int .i64 0])∧TkS w'.heap.size L ao cap w'')∧Ext w' w''):=fun w'=>(HT w').mono fun e w'' q=>⟨q.2,q.1⟩
 have HR:=Lib.hid hr
 have HW:=Lib.hid hW
 have HV:=Lib.hid hV
 clear hG hL HT hr hW hV
 have HZ:=Lib.hid (rd0 w)
 go_enter_defers Tryz.func56,Tryz.ntmps56
 go_wp2_with (first
  | (go_at_call 104;(with_reducible refine(HTk _).out.mono ?_);rintro x w1 ⟨⟨ao,cap,rfl,hTS⟩,hE1⟩;have h1:=HZ.out.1.ext hE1;have h2:=HZ.out.2.1.ext hE1;have HTS:=Lib.hid hTS;have HE1:=Lib.hid hE1;clear hTS)
           | ((with_reducible show wpList _ _ _ (⟨none,.store _ (.tmp 4) _,_,_,_,_⟩::_) _ _);refine wpl_st rfl 50 _ _ rfl w.heap.size [.int .i64 0,.int .i64 0] [.int .i64 0,.int .i64 0] rfl rfl h1 rfl poI rfl ?_;intro W2 hF2 hB2)
           | ((with_reducible show wpList _ _ _ (⟨none,.store _ (.tmp 5) _,_,_,_,_⟩::_) _ _);refine wpl_st1 rfl 37 _ _ rfl (w.heap.size+1) 0 [.int .i64 0] (.int .i64 0) rfl rfl (h2.frm hF2 (fun e=>by omega)) (by simp) (st_er _ 0 _) ?_;intro W3 hF3 hB3;have hP3:=hB2.frm hF3 (fun e=>by omega);have a0:=hP3.at 0 _ rfl;have a1:=hP3.at 1 _ rfl;have b0:=hB3.at 0 _ rfl;have fa0:=hP3.fz 0 (by simp);have fa1:=hP3.fz 1 (by simp);have fb0:=hB3.fz 0 (by simp);have hsa:=hP3.hD;have hsb:=hB3.hD;have hFx:=Lib.hid (ext_frm (((Frm.of_ext (HZ.out.2.2.trans hE1)).step hF2 (fun k h1 h2=>by omega)).step hF3 (fun k h1 h2=>by omega)));have hF23:=Lib.hid ((hF2.mono (fun x _ h=>(.inl h:x=w.heap.size∨x=w.heap.size+1))).trans (hF3.mono (fun x _ h=>.inr h)));have HP3:=Lib.hid hP3;have HB3:=Lib.hid hB3;clear hP3 hB3 hB2 hF2 hF3 h1 h2))
 have hPs:Psr L ao cap W3.heap.size 0 (W3.alloc (.cells #[.slice ao L.length cap,.int .i64 0] 137)):=Psr.new HLx.out (HTS.out.frm hF23.out (fun k e=>by simp only[World.size_alloc];omega)) ((HR.out.ext hFx.out).up hFx.out.size) _
 have hEA:Ext w (W3.alloc (.cells #[.slice ao L.length cap,.int .i64 0] 137)):=hFx.out.alloc _
 have hsz:w.heap.size+2≤W3.heap.size:=by omega
 have hTW:TkS (w.heap.size+2) L ao cap (W3.alloc (.cells #[.slice ao L.length cap,.int .i64 0] 137)):=by
  have:=(HTS.out.frm hF23.out (fun k e=>by simp only[World.size_alloc];omega)).ext ((Ext.refl W3).alloc (.cells #[.slice ao L.length cap,.int .i64 0] 137))
  simp only[World.size_alloc]at this
  exact this
 have hPA:BxT w.heap.size [.int .i64 0,.int .i64 0] (W3.alloc (.cells #[.slice ao L.length cap,.int .i64 0] 137)):=HP3.out.ext ((Ext.refl _).alloc _)
 have hPB:BxT (w.heap.size+1) [.int .i64 0] (W3.alloc (.cells #[.slice ao L.length cap,.int .i64 0] 137)):=HB3.out.ext ((Ext.refl _).alloc _)
 refine(HW.out ao cap W3.heap.size _ hPs hTW hEA hsz).mono ?_
 rintro x w4 ⟨hF4,hx⟩
 have HA4:=Lib.hid (hPA.frm hF4 (by omega))
 have HB4:=Lib.hid (hPB.frm hF4 (by omega))
 have HF4:=Lib.hid ((Frm.of_ext hEA:Frm (fun k=>k=C) w _).step hF4 (fun k h1 h2=>by omega))
 clear hPs hTW hEA hPA hPB hF4 HW HP3 HB3 HTS HR hF23 HTk HZ a0 a1 b0 fa0 fa1 fb0 hE1 HE1
 cases hp:p L 0 with
 | bad l c er=>
   rw[hp]at hx HG
   subst hx
   go_wp2_with fail
   refine leaves_cons (f:=105) (args:=#[.pointer (some ⟨w.heap.size,0,none⟩),.pointer (some ⟨w.heap.size+1,0,none⟩)]) (by simp) (by simp[go_sem]) ?_
   refine(rec_panic w.heap.size (w.heap.size+1) l c er 0 0 0 _ (by omega) HA4.out HB4.out).mono ?_
   rintro e u' w5 ⟨rfl,rfl,h5,h6,hF5⟩
   refine⟨.tuple #[.agg #[.int .i64 l,.int .i64 c],.int .i64 er],results_cc rfl rfl (run_loadVar_mid w5 w.heap.size 0 50 _ _ h5.rd Tryz.underlying50 rfl poI) rfl (ld_er _ 0 _ _ (h6.at 0 _ rfl)),?_⟩
   rw[HG.out]
   exact⟨HF4.out.step hF5 (fun k h1 h2=>by omega),rfl⟩
 | ok a j=>
   rw[hp]at hx HG
   obtain⟨rfl,hVa,hPj⟩:=hx
   have hVa':=Lib.hid hVa
   have HPj:=Lib.hid hPj
   obtain⟨y0,y1,y2,-,hjl,-,-,-,-,-⟩:=hPj
   by_cases hlt:j<L.length
   ·have ht:L[j]? = some L[j]:=List.getElem?_eq_getElem hlt
    have HGb:Hid (G = .bad L[j].ln L[j].cl 3):=by
     rw[Hid,HG.out]
     show(if j<L.length then wrP L 3 j else _)=_
     rw[if_pos hlt,wrP_at ht]
    have HWr:=fun w' (h:Psr L ao cap W3.heap.size j w')=>Lib.hid (wrong_ok 3 h L[j] ht)
    obtain⟨t,htt⟩:∃t,t=L[j]:=⟨_,rfl⟩
    rw[←htt]at HGb HWr
    have e2:(j:Int)<(L.length:Int):=by omega
    clear htt ht hVa
    go_wp2_with (go_at_call 106;(with_reducible refine(HWr _ HPj.out).out.mono ?_);rintro x w5 ⟨rfl,hE5⟩)
    refine leaves_cons (f:=105) (args:=#[.pointer (some ⟨w.heap.size,0,none⟩),.pointer (some ⟨w.heap.size+1,0,none⟩)]) (by simp) (by simp[go_sem]) ?_
    refine(rec_panic w.heap.size (w.heap.size+1) t.ln t.cl 3 0 0 0 _ (by omega) (HA4.out.ext hE5) (HB4.out.ext hE5)).mono ?_
    rintro e u' w6 ⟨rfl,rfl,h5,h6,hF5⟩
    refine⟨.tuple #[.agg #[.int .i64 t.ln,.int .i64 t.cl],.int .i64 3],results_cc rfl rfl (run_loadVar_mid w6 w.heap.size 0 50 _ _ h5.rd Tryz.underlying50 rfl poI) rfl (ld_er _ 0 _ _ (h6.at 0 _ rfl)),?_⟩
    rw[HGb.out]
    exact⟨(HF4.out.trans (Frm.of_ext hE5)).step hF5 (fun k h1 h2=>by omega),rfl⟩
   ·have HGo:Hid (G = .ok a j):=by
     rw[Hid,HG.out]
     show(if j<L.length then wrP L 3 j else _)=_
     rw[if_neg hlt]
    clear hVa
    go_wp2_with (first
     | ((with_reducible show wpList _ _ _ (⟨none,.store _ (.tmp 4) _,_,_,_,_⟩::_) _ _);refine wpl_st rfl 50 _ _ rfl w.heap.size [.int .i64 0,.int .i64 0] [.int .i64 0,.int .i64 0] rfl rfl HA4.out rfl poI rfl ?_;intro W6 hF6 hB6)
     | ((with_reducible show wpList _ _ _ (⟨none,.store _ (.tmp 5) _,_,_,_,_⟩::_) _ _);refine wpl_st1 rfl 37 _ _ rfl (w.heap.size+1) 0 [.int .i64 0] (.int .i64 0) rfl rfl (HB4.out.frm hF6 (fun e=>by omega)) (by simp) (st_er _ 0 _) ?_;intro W7 hF7 hB7))
    refine leaves_cons (f:=105) (args:=#[.pointer (some ⟨w.heap.size,0,none⟩),.pointer (some ⟨w.heap.size+1,0,none⟩)]) (by simp) (by simp[go_sem]) ?_
    refine(rec_idle w.heap.size (w.heap.size+1) _).mono ?_
    rintro e u' w8 ⟨rfl,rfl,rfl⟩
    have h5:=hB6.frm hF7 (fun e=>by omega)
    refine⟨.tuple #[.agg #[.int .i64 0,.int .i64 0],.int .i64 0],results_cc rfl rfl (run_loadVar_mid _ w.heap.size 0 50 _ _ h5.rd Tryz.underlying50 rfl poI) rfl (ld_er _ 0 _ _ (hB7.at 0 _ rfl)),?_⟩
    rw[HGo.out]
    exact⟨(HF4.out.step hF6 (fun k h1 h2=>by omega)).step hF7 (fun k h1 h2=>by omega),rfl,HV.out a _ _ hVa'.out ((hF6.mono (fun x _ h=>.inl h)).trans (hF7.mono (fun x _ h=>.inr h)))⟩
end Go.Proofs.YtlmeinikknoeeaaGreatDoor
