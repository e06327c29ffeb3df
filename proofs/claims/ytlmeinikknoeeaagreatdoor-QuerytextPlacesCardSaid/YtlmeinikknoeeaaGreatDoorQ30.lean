/- Queries: the lexer in memory; tokens: the parts. -/
import Derived.Test.YtlmeinikknoeeaaGreatDoorQ23
import Derived.Test.YtlmeinikknoeeaaGreatDoorQ29
import Derived.Deep.LoopGhost
import Derived.Defers
import Derived.Recover
namespace Go.Proofs.YtlmeinikknoeeaaGreatDoor
set_option linter.unusedVariables false
set_option linter.unnecessarySimpa false
set_option linter.unusedSimpArgs false
open Go.RowKit
def tkL (L:List TkD):List Value:=L.flatMap tkC
theorem tkL_app (L:List TkD) (t:TkD):tkL (L ++ [t])=tkL L++tkC t:=by
 unfold tkL
 rw[List.flatMap_append]
 simp
theorem tkL_get:∀(L:List TkD) (j:Nat) (h:j<L.length) (k:Nat) (u:Value),(tkC L[j])[k]? = some u→(tkL L)[j*7+k]? = some u
 | [],j,h,_,_,_=>absurd h (by simp)
 | t::L,0,h,k,u,hu=>by
   show(tkC t++tkL L)[0*7+k]? = some u
   have hk:k<(tkC t).length:=(List.getElem?_eq_some_iff.1 hu).1
   rw[Nat.zero_mul,Nat.zero_add,List.getElem?_append_left hk]
   exact hu
 | t::L,j+1,h,k,u,hu=>by
   show(tkC t++tkL L)[(j+1)*7+k]? = some u
   have hl:(tkC t).length=7:=rfl
   rw[List.getElem?_append_right (by rw[hl];omega),hl,show(j+1)*7+k-7=j*7+k by omega]
   exact tkL_get L j (by simpa using h) k u (by simpa using hu)
def TkS (b:Nat) (L:List TkD) (ao:Option Addr) (cap:Nat) (w:World):Prop:=
 L.length≤cap∧cap≤maxLen∧∀j (h:j<L.length),∃R,ao=some ⟨R,0,none⟩∧b≤R∧R<w.heap.size∧w.rangeAt R (j*7) (tkC L[j])
theorem TkS.of_own {b:Nat} {L:List TkD} {ao:Option Addr} {cap:Nat} {w:World} (h:w.ownsRow b 140 7 (.slice ao L.length cap) L.length (tkL L)):TkS b L ao cap w:=by
 obtain⟨h1,h2⟩:=h
 rcases h2 with⟨h3,h4⟩|⟨g,c,cur,h3,h4,h5,h6,h7,h8,h9⟩
 ·injection h3 with e1 e2 e3
  refine⟨by omega,by unfold maxLen;omega,fun j hj=>absurd hj (by omega)⟩
 ·injection h3 with e1 e2 e3
  subst e1 e3
  have hg:g<w.heap.size:=by
   rcases Nat.lt_or_ge g w.heap.size with q|q
   ·exact q
   ·rw[Array.getElem?_eq_none q]at h5;cases h5
  refine⟨h6,h7,fun j hj=>⟨g,rfl,h4,hg,fun k u hu=>?_⟩⟩
  have h10:=tkL_get L j hj k u hu
  rw[←h9,List.getElem?_take]at h10
  split at h10
  ·rw[Lib.cell_of_heap h5]
   rw[←Array.getElem?_toList]
   exact h10
  ·cases h10
theorem TkS.ext {b:Nat} {L:List TkD} {ao:Option Addr} {cap:Nat} {w w':World} (h:TkS b L ao cap w) (hE:Ext w w'):TkS b L ao cap w':=
 ⟨h.1,h.2.1,fun j hj=>by
   obtain⟨R,e1,e2,e3,e4⟩:=h.2.2 j hj
   exact⟨R,e1,e2,hE.lt e3,fun k u hu=>(hE.cells _ _ e3).trans (e4 k u hu)⟩⟩
def LxP (w:World) (r:LxR) (e:Ending) (w':World):Prop:=
 Ext w w'∧match r with
  | .bad l c er=>e = .returned (.tuple #[.slice none 0 0,.agg #[.int .i64 l,.int .i64 c],.int .i64 er])
  | .ok L=>∃ao cap,e = .returned (.tuple #[.slice ao L.length cap,.agg #[.int .i64 0,.int .i64 0],.int .i64 0])∧TkS w.heap.size L ao cap w'
theorem results_tct {fn:Func} {tmps:Array Value} {w:World} {a b c:Tmp} {t:TypeId} {u v x:Value} {p:Addr} (h:fn.results = #[.tmp c,.cell a t,.tmp b]) (hp:tmps.getD a undef = .pointer (some p)) (h1:(loadVar t p).run Tryz.prog w = .ok v w) (hb:tmps.getD b undef=u) (hc:tmps.getD c undef=x):(results fn tmps).run Tryz.prog w = .ok (.tuple #[x,v,u]) w:=by
 unfold results
 rw[h]
 have hp2:tmps[a]?.getD undef = .pointer (some p):=by rw[←hp];simp
 have hb2:tmps[b]?.getD undef=u:=by rw[←hb];simp
 have hc2:tmps[c]?.getD undef=x:=by rw[←hc];simp
 simp[hp2,h1,hb2,hc2,asAddr,Result.andThen]
theorem poI:(Tryz.prog.info? 50).map (·.size)=some 2:=by kernel_rfl
theorem infoTk:(Tryz.prog.info? 140).map (fun i=>(i.zero,i.size,i.bytes))=some (some (.agg (tk7 0 [] 0 0).toArray),7,72):=by kernel_rfl
end Go.Proofs.YtlmeinikknoeeaaGreatDoor
namespace Go.Proofs.YtlmeinikknoeeaaGreatDoor
set_option maxRecDepth 100000
set_option maxHeartbeats 4000000
set_option linter.unusedVariables false
set_option linter.unnecessarySimpa false
set_option linter.unusedSimpArgs false
open Go.RowKit
structure TkR2 (s:List UInt8) (w:World) (G:LxR) (acc:List TkD) (j:Nat) (ln cl:Int) (ao:Option Addr) (cap:Nat) (wx:World):Prop where
 g:lexL untZ (s.length-j) (s.drop j) ln cl acc=G
 l:Lxr s (w.heap.size+1) j ln cl (.slice ao acc.length cap) wx
 o:wx.ownsRow (w.heap.size+2) 140 7 (.slice ao acc.length cap) acc.length (tkL acc)
 p:BxT w.heap.size [.int .i64 0,.int .i64 0] wx
 e:Ext w wx
theorem TkR2.new {s:List UInt8} {w:World} {G:LxR} (hG:lexL untZ s.length s 1 1 []=G) (hs:s.length≤65536):TkR2 s w G [] 0 1 1 none 0 ((w.alloc (.cells #[.int .i64 0,.int .i64 0] 50)).alloc (.cells #[.string ⟨s.toArray⟩,.int .i64 0,.int .i64 1,.int .i64 1,.slice none 0 0] 221)):=by
 have hz:(w.alloc (.cells #[.int .i64 0,.int .i64 0] 50)).heap.size=w.heap.size+1:=by simp
 have hb:=BxT.new (w.alloc (.cells #[.int .i64 0,.int .i64 0] 50)) [.string ⟨s.toArray⟩,.int .i64 0,.int .i64 1,.int .i64 1,.slice none 0 0] 221
 rw[hz]at hb
 refine⟨hG,⟨hb.hD,hb.at 0 _ rfl,hb.at 1 _ rfl,hb.at 2 _ rfl,hb.at 3 _ rfl,hb.at 4 _ rfl,hb.fz 1 (by simp),hb.fz 2 (by simp),hb.fz 3 (by simp),hb.fz 4 (by simp),by omega,hs,by omega,by omega⟩,World.ownsRow_nil _ _ _ _,(BxT.new w [.int .i64 0,.int .i64 0] 50).ext ((Ext.refl _).alloc _),((Ext.refl w).alloc _).alloc _⟩
structure TkR3 (s:List UInt8) (w:World) (acc:List TkD) (j:Nat) (ln cl:Int) (ao:Option Addr) (cap:Nat) (wx:World):Prop where
 l:Lxr s (w.heap.size+1) j ln cl (.slice ao acc.length cap) wx
 o:wx.ownsRow (w.heap.size+2) 140 7 (.slice ao acc.length cap) acc.length (tkL acc)
 p:BxT w.heap.size [.int .i64 0,.int .i64 0] wx
 e:Ext w wx
theorem ext_put {w wx w':World} {F:Nat→Prop} (h:Ext w wx) (hF:Frm F wx w') (hn:∀k,F k→w.heap.size≤k:=by intro k e;omega):Ext w w':=by
 have h1:Frm (fun _=>False) w w':=(Frm.of_ext h).step hF (fun k h1 h2=>by have:=hn k h2;omega)
 exact⟨h1.os,h1.tape,h1.output,h1.size,fun k hk=>h1.block k hk (fun e=>e)⟩
theorem TkR2.lex {s:List UInt8} {w:World} {G:LxR} {acc:List TkD} {j j2:Nat} {ln cl l2 c2:Int} {ao:Option Addr} {cap:Nat} {wx w':World} (h:TkR2 s w G acc j ln cl ao cap wx) (hl:Lxr s (w.heap.size+1) j2 l2 c2 (.slice ao acc.length cap) w') (hF:Frm (fun k=>k=w.heap.size+1) wx w'):TkR3 s w acc j2 l2 c2 ao cap w':=
 ⟨hl,own_frmZ h.o hF (fun k h1 _ e=>by omega),h.p.frm hF (by omega),ext_put h.e hF⟩
theorem TkR3.lex {s:List UInt8} {w:World} {acc:List TkD} {j j2:Nat} {ln cl l2 c2:Int} {ao:Option Addr} {cap:Nat} {wx w':World} (h:TkR3 s w acc j ln cl ao cap wx) (hl:Lxr s (w.heap.size+1) j2 l2 c2 (.slice ao acc.length cap) w') (hF:Frm (fun k=>k=w.heap.size+1) wx w'):TkR3 s w acc j2 l2 c2 ao cap w':=
 ⟨hl,own_frmZ h.o hF (fun k h1 _ e=>by omega),h.p.frm hF (by omega),ext_put h.e hF⟩
theorem TkR3.fr2 {s:List UInt8} {w:World} {acc:List TkD} {j:Nat} {ln cl:Int} {ao:Option Addr} {cap:Nat} {wx w':World} (h:TkR3 s w acc j ln cl ao cap wx) (hF:Frm (fun k=>k=w.heap.size+1) wx w'):BxT w.heap.size [.int .i64 0,.int .i64 0] w'∧Ext w w':=
 ⟨h.p.frm hF (by omega),ext_put h.e hF⟩
theorem TkR3.done {s:List UInt8} {w:World} {acc:List TkD} {j:Nat} {ln cl:Int} {ao:Option Addr} {cap:Nat} {wx w':World} (h:TkR3 s w acc j ln cl ao cap wx) (hF:Frm (fun k=>k=w.heap.size) wx w'):TkS w.heap.size acc ao cap w':=by
 have:=TkS.of_own (own_frmZ h.o hF (fun k h1 _ e=>by omega))
 exact⟨this.1,this.2.1,fun j hj=>by
  obtain⟨R,e1,e2,e3⟩:=this.2.2 j hj
  exact⟨R,e1,by omega,e3⟩⟩
theorem TkR3.ext {s:List UInt8} {w:World} {acc:List TkD} {j:Nat} {ln cl:Int} {ao:Option Addr} {cap:Nat} {wx w':World} (h:TkR3 s w acc j ln cl ao cap wx) (hE:Ext wx w'):TkR3 s w acc j ln cl ao cap w':=
 ⟨h.l.ext hE,own_frmZ (F:=fun _=>False) h.o (Frm.of_ext hE) (fun k h1 _ e=>e),h.p.ext hE,h.e.trans hE⟩
def TkA (b:Nat) (t:TkD) (x:Value) (w:World):Prop:=∃Y,x = .slice (some ⟨Y,0,none⟩) 1 1∧b≤Y∧BxT Y (tkC t) w
def TkB (base n:Nat) (cs:List Value) (x:Value) (w:World):Prop:=∃no nc,x = .slice no n nc∧w.ownsRow base 140 7 (.slice no n nc) n cs
theorem TkA.frm {b:Nat} {t:TkD} {x:Value} {S:Nat→Prop} {w w':World} (h:TkA b t x w) (hF:Frm S w w') (hS:∀k,S k→k<b):TkA b t x w':=by
 obtain⟨Y,h1,h2,h3⟩:=h
 exact⟨Y,h1,h2,h3.frm hF (fun e=>by have:=hS _ e;omega)⟩
theorem TkB.frm {base n:Nat} {cs:List Value} {x:Value} {S:Nat→Prop} {w w':World} (h:TkB base n cs x w) (hF:Frm S w w') (hS:∀k,¬S k):TkB base n cs x w':=by
 obtain⟨no,nc,h1,h2⟩:=h
 exact⟨no,nc,h1,own_frmZ h2 hF (fun k _ _=>hS k)⟩
theorem TkB.mk {base n:Nat} {cs:List Value} {v:Value} {w:World} (h:w.ownsRow base 140 7 v n cs):TkB base n cs v w:=by
 obtain⟨no,nc,rfl⟩:=own_slice h
 exact⟨no,nc,rfl,h⟩
theorem bs1_t (t:TkD) (w:World):(Instr.buildSlice 131 1 #[(0,.agg (tkC t).toArray)]).run Tryz.prog w = .ok (.slice (some ⟨w.heap.size,0,none⟩) 1 1) (w.alloc (.cells (tkC t).toArray 140)):=by kernel_rfl
theorem fa_l3 (D:Nat) (w:World):(Instr.fieldAt 221 (.pointer (some ⟨D,0,none⟩)) 3).run Tryz.prog w = .ok (.pointer (some ⟨D,4,none⟩)) w:=by kernel_rfl
theorem ld_slt (D o:Nat) (v:Value) (w:World) (h:w.cell? ⟨D,o,none⟩=some v):(Instr.loadAt 131 (.pointer (some ⟨D,o,none⟩))).run Tryz.prog w = .ok v w:=by simp[go_sem,h]
theorem st_slt (D o:Nat) (so:Option Addr) (n c:Nat) (w:World) (h1:(w.cell? ⟨D,o,none⟩).isSome=true) (h2:w.frozen? ⟨D,o,none⟩=false):(Instr.storeAt 131 (.pointer (some ⟨D,o,none⟩)) (.slice so n c)).run Tryz.prog w = .ok () (w.setCell ⟨D,o,none⟩ (.slice so n c)):=by
 obtain⟨u,hu⟩:=Option.isSome_iff_exists.1 h1
 simp[go_sem,hu,h2]
theorem tk_one (t:TkD):∀u∈tkC t,u.oneCell'=true:=by
 intro u hu
 unfold tkC at hu
 simp only[List.mem_cons,List.not_mem_nil,or_false]at hu
 rcases hu with rfl|rfl|rfl|rfl|rfl|rfl|rfl<;>rfl
theorem TkR3.put {s:List UInt8} {w:World} {acc:List TkD} {t:TkD} {j:Nat} {ln cl:Int} {u:Value} {no:Option Addr} {nc:Nat} {wz:World} (hl:Lxr s (w.heap.size+1) j ln cl u wz) (ho:wz.ownsRow (w.heap.size+2) 140 7 (.slice no (acc.length+1) nc) (acc.length+1) (tkL (acc ++ [t]))) (hp:BxT w.heap.size [.int .i64 0,.int .i64 0] wz) (he:Ext w wz) :
  TkR3 s w (acc ++ [t]) j ln cl no nc (wz.setCell ⟨w.heap.size+1,4,none⟩ (.slice no (acc.length+1) nc)):=by
 have hF:Frm (fun k=>k=w.heap.size+1) wz (wz.setCell ⟨w.heap.size+1,4,none⟩ (.slice no (acc.length+1) nc)):=(Frm.refl (fun k=>k=w.heap.size+1) wz).setCell (p:=⟨w.heap.size+1,4,none⟩) (.inl rfl) _
 have hle:(acc ++ [t]).length=acc.length+1:=by simp
 obtain⟨q0,q1,q2,q3,q4,q5,g1,g2,g3,g4,z1,z2,z3,z4⟩:=hl
 refine⟨⟨hF.lt q0,?_,?_,?_,?_,?_,?_,?_,?_,?_,z1,z2,z3,z4⟩,?_,hp.frm hF (by omega),ext_put he hF⟩
 ·rw[World.cell?_setCell_other _ _ _ _ (by simp)];exact q1
 ·rw[World.cell?_setCell_other _ _ _ _ (by simp)];exact q2
 ·rw[World.cell?_setCell_other _ _ _ _ (by simp)];exact q3
 ·rw[World.cell?_setCell_other _ _ _ _ (by simp)];exact q4
 ·rw[hle];exact World.cell?_setCell_same _ _ _ q5
 ·rw[World.frozen?_setCell];exact g1
 ·rw[World.frozen?_setCell];exact g2
 ·rw[World.frozen?_setCell];exact g3
 ·rw[World.frozen?_setCell];exact g4
 ·rw[hle]
  exact own_frmZ ho hF (fun k h1 _ e=>by omega)
theorem TkR3.back {s:List UInt8} {w:World} {G:LxR} {acc:List TkD} {j:Nat} {ln cl:Int} {ao:Option Addr} {cap:Nat} {wx:World} (h:TkR3 s w acc j ln cl ao cap wx) (hG:G=lexL untZ (s.length-j) (s.drop j) ln cl acc):TkR2 s w G acc j ln cl ao cap wx:=⟨hG.symm,h.l,h.o,h.p,h.e⟩
theorem tokens_long (s:List UInt8) (w:World) (hs:65536<s.length) :
  Calls Tryz.prog 104 #[.string ⟨s.toArray⟩] w (LxP w (lexT untZ s)):=by
 have HG:Hid (lexT untZ s = .bad 0 0 5):=if_pos hs
 have e1:decide ((65536:Int)<(s.length:Int))=true:=by rw[decide_eq_true_eq];omega
 obtain⟨G,hG⟩:∃G,lexT untZ s=G:=⟨_,rfl⟩
 rw[hG]at HG ⊢
 clear hG
 go_enter Tryz.func104,Tryz.ntmps104
 go_wp2_with fail
 refine bodyPost_ret (v:=.tuple #[.slice none 0 0,.agg #[.int .i64 0,.int .i64 0],.int .i64 5]) (results_tct rfl rfl (run_loadVar_mid (w.alloc (.cells #[.int .i64 0,.int .i64 0] 50)) w.heap.size 0 50 _ _ (BxT.new w [.int .i64 0,.int .i64 0] 50).rd Tryz.underlying50 rfl poI) rfl rfl) rfl ?_
 rw[HG.out]
 exact⟨(Ext.refl w).alloc _,rfl⟩
theorem tokens_few (s:List UInt8) (w:World) (hs:s.length≤65536) :
  Calls Tryz.prog 104 #[.string ⟨s.toArray⟩] w (LxP w (lexT untZ s)):=by
 obtain⟨G,hG⟩:∃G,lexT untZ s=G:=⟨_,rfl⟩
 have HG:Hid (lexL untZ s.length s 1 1 []=G):=by rw[Hid,←hG];exact(if_neg (by omega)).symm
 rw[hG]
 have e1:decide ((65536:Int)<(s.length:Int))=false:=by rw[decide_eq_false_iff_not];omega
 clear hG
 go_enter Tryz.func104,Tryz.ntmps104
 go_wp2_with fail
 go_loopg [17] s.length (fun g _ wx=>∃(acc:List TkD) (j:Nat) (ln cl:Int) (ao:Option Addr) (cap:Nat),j≤s.length∧s.length≤j+g∧acc.length≤j∧Hid (TkR2 s w G acc j ln cl ao cap wx))
 case atStart=>exact⟨[],0,1,1,none,0,by omega,by omega,by simp,TkR2.new HG.out hs⟩
 case round=>
  obtain⟨acc,j,ln,cl,ao,cap,hj,hg,hal,hR⟩:=hrel
  clear HG
  go_wp2_with fail
  (go_at_call 189;refine(while_c by_blank hR.out.l).mono ?_)
  rintro x w1 ⟨T,hT,rfl,hL1,hF1⟩
  have hgo:=lexL_go (mom:=untZ) (ln:=ln) (cl:=cl) (acc:=acc) hT hj
  rw[hR.out.g]at hgo
  have hR1:=Lib.hid (hR.out.lex hL1 hF1)
  have hTl:=hL1.hi
  obtain⟨j2,hj2⟩:∃j2,j2=j+T.length:=⟨_,rfl⟩
  have hjj:j≤j2:=by omega
  obtain⟨l2,hl2⟩:∃l2,l2=lnL T ln:=⟨_,rfl⟩
  obtain⟨c2,hc2⟩:∃c2,c2=clL T cl:=⟨_,rfl⟩
  rw[←hj2,←hl2,←hc2]at hR1
  rw[←hj2,←hl2,←hc2]at hgo
  rw[←hj2]at hTl
  have HGo:=Lib.hid hgo
  clear hT hL1 hF1 hgo hR hj2 hl2 hc2
  obtain⟨y0,y1,y2,-,-,y5,-,-,-,-,-,-,-,-⟩:=hR1.out.l
  by_cases hlt:j2<s.length
  ·have e2:((j2:Int)==(s.length:Int))=false:=by rw[beq_eq_false_iff_ne];omega
   have HG2:Hid (G=match tkT untZ (s.drop j2)with
    | .bad e=>.bad l2 c2 e
    | .ok k tx v n=>lexL untZ (s.length-(j2+n)) (s.drop (j2+n)) l2 (c2+n) (acc ++ [(TkD.mk k tx v l2 c2)])):=by
    rw[Hid,HGo.out,if_pos hlt]
    cases tkT untZ (s.drop j2)<;>rfl
   clear HGo
   go_wp2_with fail
   (go_at_call 191;refine(next_c hR1.out.l hlt).mono ?_)
   rintro x w2 hx
   cases hk:tkT untZ (s.drop j2)with
   | bad er=>
     rw[hk]at HG2 hx
     obtain⟨hF2,t,ht1,ht2,hx3⟩:=hx
     unfold tkC at hx3
     subst hx3
     have her:=tkT_bad hk
     have e3:(er != 0)=true:=by rw[bne_iff_ne];omega
     have hE2:=Lib.hid (hR1.out.fr2 hF2)
     subst ht1 ht2
     clear hk her hR1
     have hb2:=hE2.out.1
     have p0:=hb2.at 0 _ rfl
     have p1:=hb2.at 1 _ rfl
     have f0:=hb2.fz 0 (by simp)
     have f1:=hb2.fz 1 (by simp)
     have hD:=hb2.hD
     have HB2:=Lib.hid hb2
     clear hb2
     go_wp2_with fail
     go_region
     all_goals
      go_wp2_with fail
      refine bodyPost_ret (v:=.tuple #[.slice none 0 0,.agg #[.int .i64 t.ln,.int .i64 t.cl],.int .i64 er]) (results_tct rfl rfl (run_loadVar_mid _ w.heap.size 0 50 _ _ (((HB2.out.set 0 (.int .i64 t.ln) (by simp)).set 1 (.int .i64 t.cl) (by simp)).ext (by first|exact(Ext.refl _).alloc _|exact((Ext.refl _).alloc _).drew)).rd Tryz.underlying50 rfl poI) rfl rfl) rfl ?_
      rw[HG2.out]
      have hA:=hE2.out.2
      exact⟨by(repeat (with_reducible (first|assumption|exact Ext.refl _|refine Ext.alloc ?_ _|refine Ext.setCell ?_ (by simp) _|refine Ext.setCell ?_ (by simp;omega) _|refine Ext.drewN ?_ _|refine Ext.drew ?_))),rfl⟩
   | ok k tx v n=>
     rw[hk]at HG2 hx
     obtain⟨hF2,hx3,hL2⟩:=hx
     unfold tkC at hx3
     subst hx3
     have hR2:=Lib.hid (hR1.out.lex hL2 hF2)
     have hn:=tkT_n hk
     rw[List.length_drop]at hn
     obtain⟨g',rfl⟩:∃g',gk=g'+1:=⟨gk-1,by omega⟩
     clear hR1 hF2 hL2 hk
     go_wp2_with fail
     have hT6:=BxT.new w2 (tkC (TkD.mk k tx v l2 c2)) 140
     have hR3:=Lib.hid (hR2.out.ext ((Ext.refl w2).alloc (.cells (tkC (TkD.mk k tx v l2 c2)).toArray 140)))
     have HT6:=Lib.hid hT6
     have hz6:w2.heap.size+1=(w2.alloc (.cells (tkC (TkD.mk k tx v l2 c2)).toArray 140)).heap.size:=by simp
     have hw2:w.heap.size+2≤w2.heap.size:=by have:=hR2.out.l.hX;omega
     have hbk:∀q,(Value.slice ao acc.length cap).ownBlock=some q→w.heap.size+2≤q∧q<w2.heap.size:=fun q e=>hR2.out.o.lt q e
     have Hbk:=Lib.hid hbk
     obtain⟨i0,hi0,hz0,hz1,hz2⟩:=info_parts infoTk
     have Hi:=Lib.hid hi0;have Hz0:=Lib.hid hz0;have Hz1:=Lib.hid hz1;have Hz2:=Lib.hid hz2
     clear hT6 hR2 hbk hi0 hz0 hz1 hz2
     generalize hW:w2.alloc (.cells (tkC (TkD.mk k tx v l2 c2)).toArray 140)=W at hR3 HT6 hz6
     have hW':w2.alloc (.cells #[.int .i64 k,.string ⟨tx.toArray⟩,.int .i64 v.k,.int .i64 v.n,.string ⟨v.s.toArray⟩,.int .i64 l2,.int .i64 c2] 140)=W:=hW
     rw[hW']
     clear hW hW'
     obtain⟨X,hX⟩:∃X,X=w.heap.size+1:=⟨_,rfl⟩
     refine wp_region_growX [some 40,some 41,some 42,some 43,some 44,some 45,some 46,some 47,some 48,some 49] [fun x _=>x = .pointer (some ⟨w.heap.size+1,0,none⟩),fun x _=>x = .pointer (some ⟨w.heap.size+1,0,none⟩),fun x _=>x = .pointer (some ⟨w.heap.size+1,0,none⟩),fun x _=>x = .pointer (some ⟨w.heap.size+1,4,none⟩),fun x _=>x = .slice ao acc.length cap,fun x _=>x = .agg (tkC (TkD.mk k tx v l2 c2)).toArray,TkA W.heap.size (TkD.mk k tx v l2 c2),TkB (w.heap.size+2) (acc.length+1) (tkL (acc ++ [(TkD.mk k tx v l2 c2)])),fun x _=>x = .pointer (some ⟨w.heap.size+1,0,none⟩),fun x _=>x = .pointer (some ⟨w.heap.size+1,4,none⟩)] (fun y z=>y=7∧(Value.slice ao acc.length cap).ownBlock=some z) 1 (by kernel_rfl) (by kernel_rfl) (by kernel_rfl) (by kernel_rfl) ?_ ?_ ?_
     ·refine⟨?_,?_,?_,?_,?_,?_,?_,?_,?_,?_,trivial⟩
      ·exact fun _ _ _ h _=>h
      ·exact fun _ _ _ h _=>h
      ·exact fun _ _ _ h _=>h
      ·exact fun _ _ _ h _=>h
      ·exact fun _ _ _ h _=>h
      ·exact fun _ _ _ h _=>h
      ·exact fun u w1 w2 h hF=>TkA.frm h hF (fun q ⟨y,h1,h2,h3⟩=>by have:=Hbk.out q h3;omega)
      ·exact fun u w1 w2 h hF=>TkB.frm h hF (fun q ⟨y,h1,h2,h3⟩=>h1 h2)
      ·exact fun _ _ _ h _=>h
      ·exact fun _ _ _ h _=>h
     ·refine⟨?_,?_,?_,?_,?_,?_,?_,?_,?_,?_,trivial⟩
      ·intro a wv hE hdf hF hD K hK
       exact gs_valZ rfl (yr_moveZ rfl ((hF 5 (fr_ofOZ rfl)).trans rfl)) (hK _ _ rfl (Frm.refl _ _))
      ·intro a wv hE hdf hF hD K hK
       exact gs_valZ rfl (yr_moveZ rfl ((hF 5 (fr_ofOZ rfl)).trans rfl)) (hK _ _ rfl (Frm.refl _ _))
      ·intro a wv hE hdf hF hD K hK
       have u:a.eval (.tmp 41) = .pointer (some ⟨w.heap.size+1,0,none⟩):=hD 1 (by kernel_rfl)
       exact gs_valZ rfl (yr_nilZ rfl u) (hK _ _ rfl (Frm.refl _ _))
      ·intro a wv hE hdf hF hD K hK
       have u:a.eval (.tmp 42) = .pointer (some ⟨w.heap.size+1,0,none⟩):=hD 2 (by kernel_rfl)
       exact gs_valZ rfl (yr_fieldZ rfl u (fa_l3 _ wv)) (hK _ _ rfl (Frm.refl _ _))
      ·intro a wv hE hdf hF hD K hK
       have u:a.eval (.tmp 43) = .pointer (some ⟨w.heap.size+1,4,none⟩):=hD 3 (by kernel_rfl)
       have hl:=hR3.out.l.frm hE (fun⟨y,h1,h2,h3⟩=>by have:=Hbk.out _ h3;omega)
       exact gs_valZ rfl (yr_loadZ rfl u (ld_slt _ 4 _ wv hl.c4)) (hK _ _ rfl (Frm.refl _ _))
      ·intro a wv hE hdf hF hD K hK
       have hl:=HT6.out.frm hE (fun⟨y,h1,h2,h3⟩=>by have:=Hbk.out _ h3;omega)
       exact wp_load_mid 140 _ rfl w2.heap.size 0 ((hF 6 (fr_ofOZ rfl)).trans rfl) (tkC (TkD.mk k tx v l2 c2)) _ hl.rd Tryz.underlying140 rfl tkI (hK _ _ rfl (Frm.refl _ _))
      ·intro a wv hE hdf hF hD K hK
       have u:a.eval (.tmp 45) = .agg (tkC (TkD.mk k tx v l2 c2)).toArray:=hD 5 (by kernel_rfl)
       have hz:=hE.size
       exact gs_mkEZ rfl (yr_bs1Z rfl u (bs1_t (TkD.mk k tx v l2 c2) wv)) (hK _ _ ⟨wv.heap.size,rfl,hz,BxT.new wv (tkC (TkD.mk k tx v l2 c2)) 140⟩ (Frm.of_ext ((Ext.refl _).alloc _)))
      ·intro a wv hE hdf hF hD K hK
       have u1:a.eval (.tmp 44) = .slice ao acc.length cap:=hD 4 (by kernel_rfl)
       obtain⟨Y,u2,hY1,hY2⟩:TkA W.heap.size (TkD.mk k tx v l2 c2) (a.eval (.tmp 46)) wv:=hD 6 (by kernel_rfl)
       have hown:wv.ownsRow (w.heap.size+2) 140 7 (.slice ao acc.length cap) acc.length (tkL acc):=own_frmZ hR3.out.o hE (fun q h5 h6 ⟨y,h1,h2,h3⟩=>h1 h2)
       have hz:=hE.size
       refine wp_append_own _ (.tmp 44) (.tmp 46) 131 rfl (w.heap.size+2) 140 i0 (.agg (tk7 0 [] 0 0).toArray) 7 72 Tryz.underlying131 Hi.out Hz0.out Hz1.out Hz2.out rfl (by decide) _ _ _ u1 hown ⟨Y,0,none⟩ 1 1 (tkC (TkD.mk k tx v l2 c2)) u2 rfl (fun q u hu=>by rw[Addr.add_mid,Nat.zero_add];exact hY2.at q u hu) (tk_one _) (by unfold maxLen;omega) (by omega) (by omega) ?_
       intro v' w' hown' hgrow hnil
       exact hK _ _ (TkB.mk (by rw[tkL_app];exact hown')) ⟨hgrow.os,hgrow.tape,hgrow.output,hgrow.size,fun q h1 h2=>hgrow.block q h1 (fun e=>h2 ⟨rfl,e.symm⟩)⟩
      ·intro a wv hE hdf hF hD K hK
       have u:a.eval (.tmp 40) = .pointer (some ⟨w.heap.size+1,0,none⟩):=hD 0 (by kernel_rfl)
       exact gs_valZ rfl (yr_nilZ rfl u) (hK _ _ rfl (Frm.refl _ _))
      ·intro a wv hE hdf hF hD K hK
       have u:a.eval (.tmp 48) = .pointer (some ⟨w.heap.size+1,0,none⟩):=hD 8 (by kernel_rfl)
       exact gs_valZ rfl (yr_fieldZ rfl u (fa_l3 _ wv)) (hK _ _ rfl (Frm.refl _ _))
     ·intro vals wz hEz hRz
      obtain⟨-,-,-,-,-,-,-,hr,-,hl,-⟩:=hRz
      obtain⟨no2,nc2,er,hr2⟩:TkB (w.heap.size+2) (acc.length+1) (tkL (acc ++ [(TkD.mk k tx v l2 c2)])) (vals 7) wz:=hr
      have el:vals 9 = .pointer (some ⟨w.heap.size+1,4,none⟩):=hl
      have hlz:=hR3.out.l.frm hEz (fun⟨y,h1,h3⟩=>by have:=Hbk.out _ h3;omega)
      have hpz:=hR3.out.p.frm hEz (fun⟨y,h1,h3⟩=>by have:=Hbk.out _ h3;omega)
      have hez:=ext_put hR3.out.e hEz (fun q ⟨y,h1,h3⟩=>by have:=Hbk.out _ h3;omega)
      simp only[putG,putD,Act.put,List.length_cons,List.length_nil,List.getD_cons_zero,List.getD_cons_succ,List.setIfInBounds_toArray,List.set_cons_zero,List.set_cons_succ,Nat.reduceAdd,er,el]
      refine wpAny_opZ (i:=10) (by kernel_rfl) rfl (by rfl) ?_
      refine gs_storeOZ rfl rfl rfl rfl (st_slt _ 4 no2 (acc.length+1) nc2 wz (by rw[hlz.c4];rfl) hlz.f4) ?_
      refine wpAny_done (by kernel_rfl) ?_ _
      simp only[Act.put]
      have hfin:=Lib.hid (TkR3.put hlz hr2 hpz hez)
      clear hlz hpz hez hr2 er el hl hEz
      go_wp2_with fail
      go_roundg g'
      case measure=>omega
      case rel=>exact⟨acc ++ [(TkD.mk k tx v l2 c2)],j2+n,l2,c2+n,no2,nc2,by omega,by omega,by rw[List.length_append];simp;omega,TkR3.back hfin.out HG2.out⟩
  ·have HN:Hid (G = .ok acc):=by rw[Hid,HGo.out,if_neg hlt]
   have e2:((j2:Int)==(s.length:Int))=true:=by rw[beq_iff_eq];omega
   clear HGo
   go_wp2_with (first
    | ((with_reducible show wpList _ _ _ (⟨none,.store _ (.tmp 3) _,_,_,_,_⟩::_) _ _);refine wpl_st rfl 50 _ _ rfl w.heap.size [.int .i64 0,.int .i64 0] [.int .i64 0,.int .i64 0] rfl rfl hR1.out.p rfl poI rfl ?_;intro W8 hF8 hB8))
   refine bodyPost_ret (v:=.tuple #[.slice ao acc.length cap,.agg #[.int .i64 0,.int .i64 0],.int .i64 0]) (results_tct rfl rfl (run_loadVar_mid W8 w.heap.size 0 50 _ _ hB8.rd Tryz.underlying50 rfl poI) rfl rfl) rfl ?_
   rw[HN.out]
   exact⟨ext_put hR1.out.e hF8,ao,cap,rfl,hR1.out.done hF8⟩
end Go.Proofs.YtlmeinikknoeeaaGreatDoor
namespace Go.Proofs.YtlmeinikknoeeaaGreatDoor
set_option linter.unusedVariables false
set_option linter.unnecessarySimpa false
set_option linter.unusedSimpArgs false
open Go.RowKit
theorem tokens_c (s:List UInt8) (w:World) (hs:s.length≤9223372036854775807) :
  Calls Tryz.prog 104 #[.string ⟨s.toArray⟩] w (LxP w (lexT untZ s)):=by
 by_cases h:s.length≤65536
 ·exact tokens_few s w h
 ·exact tokens_long s w (by omega)
end Go.Proofs.YtlmeinikknoeeaaGreatDoor
namespace Go.Proofs.YtlmeinikknoeeaaGreatDoor
set_option maxRecDepth 100000
set_option maxHeartbeats 1000000
set_option linter.unusedVariables false
set_option linter.unnecessarySimpa false
set_option linter.unusedSimpArgs false
open Go.RowKit
theorem rec_idle (A B:Nat) (w:World) :
  CallsD Tryz.prog 105 #[.pointer (some ⟨A,0,none⟩),.pointer (some ⟨B,0,none⟩)] .returning w fun e u' w'=>e = .returned (.tuple #[])∧u' = .returning∧w'=w:=by
 refine callsD_of_wpS Tryz.func105 rfl fun c₀ cs hu=>?_
 apply wpS_seq
 apply wpS_region
 simp[wpOpsS,go_sem,recoverD,hu,Tryz.ntmps105,Exit.thenS]
 refine wpS_of_wp ?_
 go_wp2_with fail
 cases c₀
 simp_all [bodyPostS,results,Tryz.results105]
theorem rec_panic (A B:Nat) (l c e a0 a1 b0:Int) (w:World) (hAB:A≠B) (hA:BxT A [.int .i64 a0,.int .i64 a1] w) (hB:BxT B [.int .i64 b0] w) :
  CallsD Tryz.prog 105 #[.pointer (some ⟨A,0,none⟩),.pointer (some ⟨B,0,none⟩)] (.panicking [{v:=flV l c e,recovered:=false}]) w fun x u' w'=>x = .returned (.tuple #[])∧u' = .panicking [{v:=flV l c e,recovered:=true}]∧BxT A [.int .i64 l,.int .i64 c] w'∧BxT B [.int .i64 e] w'∧Frm (fun k=>k=A∨k=B) w w':=by
 refine callsD_of_wpS Tryz.func105 rfl fun c₀ cs hu=>?_
 apply wpS_seq
 apply wpS_region
 simp[wpOpsS,go_sem,recoverD,hu,Tryz.ntmps105,Exit.thenS,flV]
 have hta:∀w:World,(Instr.typeAssert (.iface 135 (.agg #[.int .i64 l,.int .i64 c,.int .i64 e])) 20 135 true).run Tryz.prog w = .ok (.tuple #[.agg #[.int .i64 l,.int .i64 c,.int .i64 e],.bool true]) w:=fun w=>by kernel_rfl
 have a0':=hA.at 0 _ rfl
 have a1':=hA.at 1 _ rfl
 have b0':=hB.at 0 _ rfl
 have fa0:=hA.fz 0 (by simp)
 have fa1:=hA.fz 1 (by simp)
 have fb0:=hB.fz 0 (by simp)
 have hAs:=hA.hD
 have hBs:=hB.hD
 have HA:=Lib.hid hA
 have HB:=Lib.hid hB
 clear hA hB
 refine wpS_of_wp ?_
 show Code.wp Tryz.prog _ _ ⟨#[.pointer (some ⟨A,0,none⟩),.pointer (some ⟨B,0,none⟩),undef,undef,undef,.iface 135 (.agg #[.int .i64 l,.int .i64 c,.int .i64 e]),undef,undef,undef,undef,undef,undef,undef,undef,undef],[]⟩ w
 go_wp2_with fail
 go_region
 all_goals
  go_wp2_with fail
  have q1:=(HA.out.set 0 (.int .i64 l) (by simp)).set 1 (.int .i64 c) (by simp)
  have f1:Frm (fun k=>k=A∨k=B) w ((w.setCell ⟨A,0,none⟩ (.int .i64 l)).setCell ⟨A,1,none⟩ (.int .i64 c)):=((Frm.refl (fun k=>k=A∨k=B) w).setCell (p:=⟨A,0,none⟩) (.inl (.inl rfl)) _).setCell (p:=⟨A,1,none⟩) (.inl (.inl rfl)) _
  have fA:Frm (fun k=>k=A) w ((w.setCell ⟨A,0,none⟩ (.int .i64 l)).setCell ⟨A,1,none⟩ (.int .i64 c)):=((Frm.refl (fun k=>k=A) w).setCell (p:=⟨A,0,none⟩) (.inl rfl) _).setCell (p:=⟨A,1,none⟩) (.inl rfl) _
  have q2:=(HB.out.frm fA (fun e=>hAB e.symm)).set 0 (.int .i64 e) (by simp)
  have fB:Frm (fun k=>k=B) ((w.setCell ⟨A,0,none⟩ (.int .i64 l)).setCell ⟨A,1,none⟩ (.int .i64 c)) (((w.setCell ⟨A,0,none⟩ (.int .i64 l)).setCell ⟨A,1,none⟩ (.int .i64 c)).setCell ⟨B,0,none⟩ (.int .i64 e)):=(Frm.refl (fun k=>k=B) _).setCell (p:=⟨B,0,none⟩) (.inl rfl) _
  have q3:=q1.frm fB hAB
  have f3:=f1.trans (fB.mono (fun x _ h=>.inr h))
  have hEn:∀(W:World) (o:Obj),Ext W ((W.alloc o).drew):=fun W o=>((Ext.refl W).alloc o).drew
  have fin:=fun o=>And.intro (q3.ext (hEn _ o)) (And.intro (q2.ext (hEn _ o)) (f3.trans (Frm.of_ext (hEn _ o))))
  clear q1 f1 fA q2 fB q3 f3 hEn HA HB
  exact⟨rfl,_,rfl,_,results_none rfl _ _ _,rfl,rfl,fin _⟩
end Go.Proofs.YtlmeinikknoeeaaGreatDoor
namespace Go.Proofs.YtlmeinikknoeeaaGreatDoor
set_option linter.unusedVariables false
set_option linter.unnecessarySimpa false
set_option linter.unusedSimpArgs false
open Go.RowKit
theorem bi_of {n:Int} (h : -9223372036854775808≤n∧n≤9223372036854775807):Bi n:=h
theorem untZ_bi {v:List UInt8} {n:Int} (h:untZ v=some n):Bi n:=by
 unfold untZ at h
 split at h
 ·rename_i q
  injection h with h
  have h1:=dn_bd q.2.1
  have h2:=tm_iff.1 q.2.2
  unfold inst secs at h
  unfold Bi
  omega
 ·cases h
theorem nmT_bi {t:List UInt8} {v:ValD} (h:nmT untZ t = .inr v):Bs v.s∧Bi v.k∧Bi v.n:=by
 unfold nmT at h
 split at h
 ·rename_i n hn
  injection h with h
  subst h
  exact⟨by unfold Bs;simp,show Bi 4 from bi_of (by decide),untZ_bi hn⟩
 ·split at h
  ·cases h
  ·split at h
   ·rename_i q
    injection h with h
    subst h
    refine⟨by unfold Bs;simp,show Bi 1 from bi_of (by decide),?_⟩
    unfold Bi
    exact q
   ·cases h
theorem qtL_out:∀(n:Nat) (l acc a x:List UInt8),l.length=n→qtL l acc=some (a,x)→a.length≤acc.length+l.length
 | n,[],acc,a,x,_,h=>by unfold qtL at h;cases h
 | n,c::r,acc,a,x,hn,h=>by
   unfold qtL at h
   split at h
   ·injection h with h
    rw[←(Prod.mk.inj h).1]
    simp
   ·split at h
    ·cases h
    ·split at h
     ·cases r with
      | nil=>cases h
      | cons d r'=>
        simp only at h
        split at h
        ·have:=qtL_out (n-2) r' _ a x (by simp at hn;omega) h
         rw[List.length_append,List.length_singleton]at this
         simp only[List.length_cons]
         omega
        ·cases h
     ·have:=qtL_out (n-1) r _ a x (by simp at hn;omega) h
      rw[List.length_append,List.length_singleton]at this
      simp only[List.length_cons]
      omega
def TkB2 (t:TkD):Prop:=Bs t.tx∧Bs t.v.s∧Bi t.k∧Bi t.v.k∧Bi t.v.n
theorem tkT_b {s:List UInt8} (hs:s.length≤65536) {k:Int} {tx:List UInt8} {v:ValD} {n:Nat} (h:tkT untZ s = .ok k tx v n) (l c:Int):TkB2 ⟨k,tx,v,l,c⟩:=by
 have hz:Bs ValD.zero.s∧Bi ValD.zero.k∧Bi ValD.zero.n:=⟨by unfold Bs ValD.zero;simp,bi_of (by decide),bi_of (by decide)⟩
 cases s with
 | nil=>cases h
 | cons d r=>
   rw[tkT]at h
   split at h
   ·injection h with h1 h2 h3 h4
    subst h1 h2 h3
    have:=tw_len wdC (d::r)
    exact⟨by unfold Bs;show(List.takeWhile wdC (d::r)).length≤_;omega,hz.1,by unfold Bi;show -9223372036854775808≤(1:Int)∧(1:Int)≤_;omega,hz.2⟩
   ·split at h
    ·split at h
     ·cases h
     ·rename_i v' hv
      injection h with h1 h2 h3 h4
      subst h1 h2 h3
      have:=tw_len cnB (d::r)
      obtain⟨q1,q2,q3⟩:=nmT_bi hv
      exact⟨by unfold Bs;show(List.takeWhile cnB (d::r)).length≤_;omega,q1,by unfold Bi;show -9223372036854775808≤(2:Int)∧(2:Int)≤_;omega,q2,q3⟩
    ·split at h
     ·split at h
      ·cases h
      ·rename_i a x hq
       injection h with h1 h2 h3 h4
       subst h1 h2 h3
       have:=qtL_out _ _ _ _ _ rfl hq
       simp only[List.length_nil,List.length_cons]at this hs
       exact⟨by unfold Bs;simp,by unfold Bs;show a.length≤_;omega,by unfold Bi;show -9223372036854775808≤(2:Int)∧(2:Int)≤_;omega,by unfold Bi;show -9223372036854775808≤(2:Int)∧(2:Int)≤_;omega,by unfold Bi;show -9223372036854775808≤(0:Int)∧(0:Int)≤_;omega⟩
     ·split at h
      ·injection h with h1 h2 h3 h4
       subst h1 h2 h3
       exact⟨by unfold Bs;simp,hz.1,by unfold Bi;show -9223372036854775808≤(3:Int)∧(3:Int)≤_;omega,hz.2⟩
      ·cases h
theorem lexL_b:∀(f:Nat) (s:List UInt8) (ln cl:Int) (acc L:List TkD),s.length≤65536→(∀t∈acc,TkB2 t)→lexL untZ f s ln cl acc = .ok L→L.length≤acc.length+f∧∀t∈L,TkB2 t
 | 0,s,ln,cl,acc,L,_,ha,h=>by
   rw[lexL]at h
   injection h with h
   subst h
   exact⟨by omega,ha⟩
 | f+1,[],ln,cl,acc,L,_,ha,h=>by
   rw[lexL]at h
   injection h with h
   subst h
   exact⟨by omega,ha⟩
 | f+1,c::r,ln,cl,acc,L,hs,ha,h=>by
   simp only[List.length_cons]at hs
   rw[lexL]at h
   split at h
   ·obtain⟨h1,h2⟩:=lexL_b f r _ _ acc L (by omega) ha h
    exact⟨by omega,h2⟩
   ·split at h
    ·obtain⟨h1,h2⟩:=lexL_b f r _ _ acc L (by omega) ha h
     exact⟨by omega,h2⟩
    ·split at h
     ·cases h
     ·rename_i k tx v n hk
      have hb:=tkT_b (by simp only[List.length_cons];omega) hk ln cl
      obtain⟨h1,h2⟩:=lexL_b f _ _ _ _ L (by rw[List.length_drop];simp only[List.length_cons];omega) (fun t ht=>by
       rcases List.mem_append.1 ht with q|q
       ·exact ha t q
       ·rw[List.mem_singleton.1 q];exact hb) h
      rw[List.length_append,List.length_singleton]at h1
      exact⟨by omega,h2⟩
theorem lexT_b {s:List UInt8} {L:List TkD} (h:lexT untZ s = .ok L):s.length≤65536∧L.length≤65536∧∀t∈L,TkB2 t:=by
 unfold lexT at h
 split at h
 ·cases h
 ·obtain⟨h1,h2⟩:=lexL_b s.length s 1 1 [] L (by omega) (fun t ht=>by cases ht) h
  simp only[List.length_nil]at h1
  exact⟨by omega,by omega,h2⟩
theorem Psr.new {s:List UInt8} {L:List TkD} {ao:Option Addr} {cap b:Nat} {w:World} (hL:lexT untZ s = .ok L) (hT:TkS b L ao cap w) (hr:RsvB w.heap.size w) (t:TypeId):Psr L ao cap w.heap.size 0 (w.alloc (.cells #[.slice ao L.length cap,.int .i64 0] t)):=by
 have hb:=BxT.new w [.slice ao L.length cap,.int .i64 0] t
 obtain⟨h1,h2,h3⟩:=lexT_b hL
 have hE:Ext w (w.alloc (.cells #[.slice ao L.length cap,.int .i64 0] t)):=(Ext.refl w).alloc _
 refine⟨hb.hD,hb.at 0 _ rfl,hb.at 1 _ rfl,hb.fz 1 (by simp),by omega,by omega,⟨hT.1,hT.2.1⟩,fun j hj=>?_,h3,hr.ext hE⟩
 obtain⟨R,e1,e2,e3,e4⟩:=hT.2.2 j hj
 exact⟨R,e1,e3,hE.lt e3,fun k u hu=>(hE.cells _ _ e3).trans (e4 k u hu)⟩
theorem RsvB.up {B B':Nat} {w:World} (h:RsvB B w) (hB:B≤B'):RsvB B' w:=by
 obtain⟨R,off,h1,h2,h3,h4,h5⟩:=h
 exact⟨R,off,h1,h2,h3,by omega,by omega⟩
end Go.Proofs.YtlmeinikknoeeaaGreatDoor
