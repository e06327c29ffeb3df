/- strings.Builder's String over this translation, with the frame of XBld. -/
import Derived.Test.YtlmeinikknoeeaaGreatDoorQ18
import Derived.Test.YtlmeinikknoeeaaGreatDoorQ07
namespace Go.Proofs.YtlmeinikknoeeaaGreatDoor
set_option maxRecDepth 100000
set_option maxHeartbeats 2000000
open Go.RowKit
theorem unsafeString_none (W:World) (q:Option Addr):(Builtin.unsafeString_ #[249,3] 9 #[.pointer q,.int .i64 0]).run Tryz.prog W = .ok (.string .empty) W:=
 Lib.run_unsafeString_none W _ _ _ q
theorem bstr_some (b lo hi:Nat) (l:List UInt8) (w:World) (h:Bld b lo hi (Lib.byteCells l) w) (h0:l≠[]) :
  Calls Tryz.prog 153 #[.pointer (some ⟨b,0,none⟩)] w fun e w'=>e = .returned (.string ⟨l.toArray⟩)∧Frm (fun k=>lo≤k∧k<hi) w w':=by
 obtain⟨h1,h2,p,v,hp,hbk,hown,hk⟩:=h
 have hl0:l.length≠0:=by simpa using h0
 rw[Lib.byteCells_length]at hown
 obtain⟨g,cap,cur,rfl,hbg,hg,hnc,hcm,hcs,htake⟩:∃g cap cur,v = .slice (some ⟨g,0,none⟩) l.length cap∧lo≤g∧w.heap[g]? = some (.cells cur 5 (0,0))∧l.length≤cap∧cap≤maxLen∧cur.size=cap*1∧cur.toList.take (l.length*1)=Lib.byteCells l:=by
  rcases hown.2 with⟨_,hz⟩|⟨g,cap,cur,hv,r⟩
  ·exact absurd hz hl0
  ·exact⟨g,cap,cur,hv,r⟩
 have hgh:g<hi:=hk g rfl
 have c1:w.drew.cell? ⟨b,1,none⟩=some (.slice (some ⟨g,0,none⟩) l.length cap):=by
  have:w.drew.heap[b]? = some (.cells #[p,.slice (some ⟨g,0,none⟩) l.length cap] 186 (0,0)):=hbk
  rw[Lib.cell_of_heap this];rfl
 have hSD:(Builtin.unsafeSliceData_ #[184] 249 #[.slice (some ⟨g,0,none⟩) l.length cap]).run Tryz.prog w.drew = .ok (.pointer (some ⟨g,0,none⟩)) w.drew:=
  Lib.run_unsafeSliceData_row _ _ _ _ _ _ (by omega)
 have hUS:(Builtin.unsafeString_ #[249,3] 9 #[.pointer (some ⟨g,0,none⟩),.int .i64 l.length]).run Tryz.prog w.drew = .ok (.string ⟨l.toArray⟩) (w.drew.freeze ⟨g,0,none⟩ l.length):=by
  refine Lib.run_unsafeString_row w.drew 249 3 9 5 Tryz.underlying249 cellsByte g cur.size (by have hg':w.drew.heap[g]? = some (.cells cur 5 (0,0)):=hg;simp[World.shape?,hg']) l h0 (by omega) (by unfold maxLen at hcm;omega) ?_
  intro j x hx
  have:=hown.cells (g:=g) rfl j (.int .u8 x.toNat) (by simp[Lib.byteCells,hx])
  exact this
 go_enter Tryz.func153,Tryz.ntmps153
 go_wp2
 go_region
 all_goals (go_wp2;go_ret;exact⟨rfl,frm_freeze ((Frm.refl _ w).drew) (p:=⟨g,0,none⟩) ⟨hbg,hgh⟩ _⟩)
theorem bstr_nil (b:Nat) (p:Value) (w:World) (hbk:w.heap[b]? = some (.cells #[p,.slice none 0 0] 186 (0,0))) :
  Calls Tryz.prog 153 #[.pointer (some ⟨b,0,none⟩)] w fun e w'=>e = .returned (.string ⟨#[]⟩)∧Ext w w':=by
 have hUS:=unsafeString_none
 have c1:w.drew.cell? ⟨b,1,none⟩=some (.slice none 0 0):=by
  have:w.drew.heap[b]? = some (.cells #[p,.slice none 0 0] 186 (0,0)):=hbk
  rw[Lib.cell_of_heap this];rfl
 have hSD:(Builtin.unsafeSliceData_ #[184] 249 #[.slice none 0 0]).run Tryz.prog w.drew = .ok (.pointer none) w.drew:=rfl
 go_enter Tryz.func153,Tryz.ntmps153
 go_wp2
 go_region
 all_goals (go_wp2;go_ret;exact⟨rfl,(Ext.refl w).drew⟩)
theorem bstr_noroom (b g:Nat) (p:Value) (cur:Array Value) (w:World) (hbk:w.heap[b]? = some (.cells #[p,.slice (some ⟨g,0,none⟩) 0 0] 186 (0,0))) (hg:w.heap[g]? = some (.cells cur 5 (0,0))) :
  Calls Tryz.prog 153 #[.pointer (some ⟨b,0,none⟩)] w fun e w'=>e = .returned (.string ⟨#[]⟩)∧Ext w w':=by
 have hUS:=unsafeString_none
 have hlt:b<w.heap.size:=by
  rcases Nat.lt_or_ge b w.heap.size with h'|h'
  ·exact h'
  ·simp[Array.getElem?_eq_none h']at hbk
 have c1:w.drew.cell? ⟨b,1,none⟩=some (.slice (some ⟨g,0,none⟩) 0 0):=by
  have:w.drew.heap[b]? = some (.cells #[p,.slice (some ⟨g,0,none⟩) 0 0] 186 (0,0)):=hbk
  rw[Lib.cell_of_heap this];rfl
 have hSD:(Builtin.unsafeSliceData_ #[184] 249 #[.slice (some ⟨g,0,none⟩) 0 0]).run Tryz.prog w.drew = .ok (.pointer (some ⟨w.drew.heap.size,0,none⟩)) (w.drew.alloc (.view ⟨g,0,none⟩ 5)):=
  Lib.run_unsafeSliceData_zero w.drew _ _ 5 Tryz.underlying249 ⟨g,0,none⟩ 0 (5,cur.size) (by have hg':w.drew.heap[g]? = some (.cells cur 5 (0,0)):=hg;simp[World.shape?,hg'])
 have c2:(w.drew.alloc (.view ⟨g,0,none⟩ 5)).cell? ⟨b,1,none⟩=some (.slice (some ⟨g,0,none⟩) 0 0):=by
  have:(w.drew.alloc (.view ⟨g,0,none⟩ 5)).heap[b]? = _:=(Lib.alloc_old w.drew _ b hlt).trans hbk
  rw[Lib.cell_of_heap this];rfl
 have c3:(w.alloc (.view ⟨g,0,none⟩ 5)).drew.cell? ⟨b,1,none⟩=some (.slice (some ⟨g,0,none⟩) 0 0):=c2
 have c0:w.cell? ⟨b,1,none⟩=some (.slice (some ⟨g,0,none⟩) 0 0):=c1
 go_enter Tryz.func153,Tryz.ntmps153
 go_wp2
 go_region
 all_goals (go_wp2;go_ret;exact⟨rfl,((Ext.refl w).drew).alloc _⟩)
theorem bstr_room (b g cap:Nat) (p:Value) (w:World) (hc0:cap≠0) (hbk:w.heap[b]? = some (.cells #[p,.slice (some ⟨g,0,none⟩) 0 cap] 186 (0,0))) :
  Calls Tryz.prog 153 #[.pointer (some ⟨b,0,none⟩)] w fun e w'=>e = .returned (.string ⟨#[]⟩)∧Ext w w':=by
 have hUS:=unsafeString_none
 have c1:w.drew.cell? ⟨b,1,none⟩=some (.slice (some ⟨g,0,none⟩) 0 cap):=by
  have:w.drew.heap[b]? = some (.cells #[p,.slice (some ⟨g,0,none⟩) 0 cap] 186 (0,0)):=hbk
  rw[Lib.cell_of_heap this];rfl
 have hSD:(Builtin.unsafeSliceData_ #[184] 249 #[.slice (some ⟨g,0,none⟩) 0 cap]).run Tryz.prog w.drew = .ok (.pointer (some ⟨g,0,none⟩)) w.drew:=
  Lib.run_unsafeSliceData_row _ _ _ _ _ _ hc0
 clear hc0
 go_enter Tryz.func153,Tryz.ntmps153
 go_wp2
 go_region
 all_goals (go_wp2;go_ret;exact⟨rfl,(Ext.refl w).drew⟩)
theorem bstr_c (b lo hi:Nat) (l:List UInt8) (w:World) (h:Bld b lo hi (Lib.byteCells l) w) :
  Calls Tryz.prog 153 #[.pointer (some ⟨b,0,none⟩)] w fun e w'=>e = .returned (.string ⟨l.toArray⟩)∧Frm (fun k=>lo≤k∧k<hi) w w':=by
 by_cases h0:l = []
 ·subst h0
  obtain⟨h1,h2,p,v,hp,hbk,hown,hk⟩:=h
  rcases hown.2 with⟨rfl,_⟩|⟨g,cap,cur,rfl,hbg,hg,_,_,_,_⟩
  ·exact(bstr_nil b p w hbk).mono fun _ _ ⟨a,c⟩=>⟨a,Frm.of_ext c⟩
  ·by_cases hc0:cap=0
   ·subst hc0
    exact(bstr_noroom b g p cur w hbk hg).mono fun _ _ ⟨a,c⟩=>⟨a,Frm.of_ext c⟩
   ·exact(bstr_room b g cap p w hc0 hbk).mono fun _ _ ⟨a,c⟩=>⟨a,Frm.of_ext c⟩
 ·exact bstr_some b lo hi l w h h0
theorem byteCells_app (a b:List UInt8):Lib.byteCells (a++b)=Lib.byteCells a++Lib.byteCells b:=by simp[Lib.byteCells]
theorem byteCells_one (c:UInt8):Lib.byteCells [c] = [.int .u8 c.toNat]:=by simp[Lib.byteCells]
end Go.Proofs.YtlmeinikknoeeaaGreatDoor
namespace Go.Proofs.YtlmeinikknoeeaaGreatDoor
set_option linter.unusedVariables false
set_option linter.unnecessarySimpa false
set_option linter.unusedSimpArgs false
open Go.RowKit
def qbC (k:Int) (a:List UInt8) (vk:Int) (ln cl:Int):List Value:=[.int .i64 k,.string ⟨#[]⟩,.int .i64 vk,.int .i64 0,.string ⟨a.toArray⟩,.int .i64 ln,.int .i64 cl]
def QuP (s:List UInt8) (X i:Nat) (ln cl:Int) (v:Value) (w:World) (r:Option (List UInt8×List UInt8)) (e:Ending) (w':World):Prop:=
 Frm (fun k=>k=X) w w'∧match r with
  | none=>e = .returned (.tuple #[.agg (qbC 2 [] 0 ln cl).toArray,.int .i64 3])
  | some (a,x)=>e = .returned (.tuple #[.agg (qbC 2 a 2 ln cl).toArray,.int .i64 0])∧Lxr s X (s.length-x.length) ln (cl+(s.length-x.length-i:Nat)) v w'
theorem quo0 (w:World) (A Z:List Value) (t:TypeId):Ext w (((w.alloc (.cells A.toArray t)).alloc (.cells Z.toArray t)).alloc (.cells #[.pointer none,.slice none 0 0] 186))∧BxT w.heap.size A (((w.alloc (.cells A.toArray t)).alloc (.cells Z.toArray t)).alloc (.cells #[.pointer none,.slice none 0 0] 186))∧BxT (w.heap.size+1) Z (((w.alloc (.cells A.toArray t)).alloc (.cells Z.toArray t)).alloc (.cells #[.pointer none,.slice none 0 0] 186))∧Bld (w.heap.size+1+1) (w.heap.size+3) (w.heap.size+3) [] (((w.alloc (.cells A.toArray t)).alloc (.cells Z.toArray t)).alloc (.cells #[.pointer none,.slice none 0 0] 186))∧(((w.alloc (.cells A.toArray t)).alloc (.cells Z.toArray t)).alloc (.cells #[.pointer none,.slice none 0 0] 186)).heap.size=w.heap.size+3:=by
 refine⟨(((Ext.refl w).alloc _).alloc _).alloc _,((BxT.new w A t).ext ((Ext.refl _).alloc _)).ext ((Ext.refl _).alloc _),?_,?_,by simp⟩
 ·have:=BxT.new (w.alloc (.cells A.toArray t)) Z t
  simp only[World.size_alloc]at this
  exact this.ext ((Ext.refl _).alloc _)
 ·refine Bld.new _ _ _ _ (by omega) (by simp) ?_
  show(((w.alloc (.cells A.toArray t)).alloc (.cells Z.toArray t)).heap.push _)[_]? = _
  rw[show w.heap.size+1+1=((w.alloc (.cells A.toArray t)).alloc (.cells Z.toArray t)).heap.size by simp,Array.getElem?_push_size]
structure QuR (s:List UInt8) (X i:Nat) (ln cl:Int) (v:Value) (w:World) (acc:List UInt8) (j hi:Nat) (wx:World):Prop where
 l:Lxr s X j ln (cl+(j-i:Nat)) v wx
 b:Bld (w.heap.size+1+1) (w.heap.size+3) hi (Lib.byteCells acc) wx
 t:BxT w.heap.size (qbC 2 [] 0 ln cl) wx
 r:BxT (w.heap.size+1) (qbC 0 [] 0 0 0) wx
 f:Frm (fun k=>k=X) w wx
 ij:i+1≤j
 hX:X<w.heap.size
 hh:hi≤wx.heap.size
theorem QuR.draw {s:List UInt8} {X i:Nat} {ln cl:Int} {v:Value} {w:World} {acc:List UInt8} {j hi:Nat} {wx:World} (h:QuR s X i ln cl v w acc j hi wx) (n:Nat):QuR s X i ln cl v w acc j hi (wx.drewN n):=by
 have hE:Ext wx (wx.drewN n):=(Ext.refl _).drewN n
 exact⟨h.l.ext hE,h.b.ext hE,h.t.ext hE,h.r.ext hE,h.f.trans (Frm.of_ext hE),h.ij,h.hX,Nat.le_trans h.hh hE.size⟩
theorem QuR.step {s:List UInt8} {X i:Nat} {ln cl:Int} {v:Value} {w:World} {acc:List UInt8} {j hi:Nat} {wx w':World} (h:QuR s X i ln cl v w acc j hi wx) {c:UInt8} (hc:c.toNat≠10) (hl:Lxr s X (j+1) (ln1 c ln) (cl1 c (cl+(j-i:Nat))) v w') (hF:Frm (fun k=>k=X) wx w'):QuR s X i ln cl v w acc (j+1) hi w':=by
 have hX:=h.hX
 have hij:=h.ij
 refine⟨?_,h.b.keep hF (by omega) (fun k _ _=>by omega),h.t.frm hF (by omega),h.r.frm hF (by omega),h.f.trans hF,by omega,hX,Nat.le_trans h.hh hF.size⟩
 rw[ln1,cl1,if_neg hc,if_neg hc]at hl
 rw[show (cl+(j+1-i:Nat):Int)=cl+(j-i:Nat)+1 by omega]
 exact hl
theorem QuR.put {s:List UInt8} {X i:Nat} {ln cl:Int} {v:Value} {w:World} {acc:List UInt8} {j hi:Nat} {wx w':World} (h:QuR s X i ln cl v w acc j hi wx) (c:UInt8) (hB:Bld (w.heap.size+1+1) (w.heap.size+3) w'.heap.size (Lib.byteCells acc ++ [.int .u8 c.toNat]) w') (hF:Frm (BS (w.heap.size+1+1) (w.heap.size+3) hi) wx w'):QuR s X i ln cl v w (acc ++ [c]) j w'.heap.size w':=by
 have hX:=h.hX
 have nS:∀k,k<w.heap.size+2→¬BS (w.heap.size+1+1) (w.heap.size+3) hi k:=fun k hk e=>by unfold BS at e;omega
 refine⟨h.l.frm hF (nS _ (by omega)),?_,h.t.frm hF (nS _ (by omega)),h.r.frm hF (nS _ (by omega)),h.f.step hF (fun k h1 h2=>absurd h2 (nS k (by omega))),h.ij,hX,Nat.le_refl _⟩
 rw[byteCells_app,byteCells_one]
 exact hB
theorem QuR.str {s:List UInt8} {X i:Nat} {ln cl:Int} {v:Value} {w:World} {acc:List UInt8} {j hi:Nat} {wx w':World} (h:QuR s X i ln cl v w acc j hi wx) (hF:Frm (fun k=>w.heap.size+3≤k∧k<hi) wx w'):Lxr s X j ln (cl+(j-i:Nat)) v w'∧BxT w.heap.size (qbC 2 [] 0 ln cl) w'∧BxT (w.heap.size+1) (qbC 0 [] 0 0 0) w'∧Frm (fun k=>k=X) w w':=by
 have hX:=h.hX
 exact⟨h.l.frm hF (by omega),h.t.frm hF (by omega),h.r.frm hF (by omega),h.f.step hF (fun k h1 h2=>by omega)⟩
theorem tkI:(Tryz.prog.info? 140).map (·.size)=some 7:=by kernel_rfl
theorem results_ct {fn:Func} {tmps:Array Value} {w:World} {a b:Tmp} {t:TypeId} {v u:Value} {p:Addr} (h:fn.results = #[.cell a t,.tmp b]) (hp:tmps.getD a undef = .pointer (some p)) (h1:(loadVar t p).run Tryz.prog w = .ok v w) (hb:tmps.getD b undef=u):(results fn tmps).run Tryz.prog w = .ok (.tuple #[v,u]) w:=by
 unfold results
 rw[h]
 have hp2:tmps[a]?.getD undef = .pointer (some p):=by rw[←hp];simp
 have hb2:tmps[b]?.getD undef=u:=by rw[←hb];simp
 simp[hp2,h1,hb2,asAddr,Result.andThen]
theorem qtL_nil (acc:List UInt8):qtL [] acc=none:=by unfold qtL;rfl
set_option maxRecDepth 100000 in
set_option maxHeartbeats 4000000 in
theorem quoted_c {s:List UInt8} {X i:Nat} {ln cl:Int} {v:Value} {w:World} (h:Lxr s X i ln cl v w) (hc:s[i]? = some 34) :
  Calls Tryz.prog 254 #[.pointer (some ⟨X,0,none⟩),.agg (qbC 0 [] 0 ln cl).toArray] w (QuP s X i ln cl v w (qtL (s.drop (i+1)) [])):=by
 have hX:=h.hX
 have HL:=Lib.hid h
 have HC:=Lib.hid hc
 have HZ:=Lib.hid (quo0 w [.int .i64 2,.string ⟨#[]⟩,.int .i64 0,.int .i64 0,.string ⟨#[]⟩,.int .i64 ln,.int .i64 cl] [.int .i64 0,.string ⟨#[]⟩,.int .i64 0,.int .i64 0,.string ⟨#[]⟩,.int .i64 0,.int .i64 0] 140)
 obtain⟨G,hG⟩:∃G,qtL (s.drop (i+1)) []=G:=⟨_,rfl⟩
 rw[hG]
 have HG:=Lib.hid hG
 clear h hc hG
 show Calls _ _ #[_,.agg #[.int .i64 0,.string ⟨#[]⟩,.int .i64 0,.int .i64 0,.string ⟨#[]⟩,.int .i64 ln,.int .i64 cl]] w _
 go_enter Tryz.func254,Tryz.ntmps254
 go_wp2_with (go_at_call 250;(with_reducible refine(step_c (HL.out.ext HZ.out.1) HC.out).mono ?_);rintro x w1 ⟨rfl,hl1,hF1⟩)
 have hR:QuR s X i ln cl v w [] (i+1) (w.heap.size+3) w1:=by
  obtain⟨hE,ht,hr,hb,hz⟩:=HZ.out
  refine⟨?_,hb.keep hF1 (by omega) (fun k _ _=>by omega),ht.frm hF1 (by omega),hr.frm hF1 (by omega),(Frm.of_ext hE).trans hF1,by omega,hX,?_⟩
  ·rw[ln1,cl1,if_neg (by decide),if_neg (by decide)]at hl1
   rw[show (cl+(i+1-i:Nat):Int)=cl+1 by omega]
   exact hl1
  ·have:=hF1.size;omega
 have HR:=Lib.hid hR
 clear hR hF1 hl1 HZ HC HL
 go_loopg [14] s.length (fun g _ wx=>∃acc j hi,j≤s.length∧s.length≤j+g∧acc.length≤j∧Hid (qtL (s.drop j) acc=G)∧Hid (QuR s X i ln cl v w acc j hi wx))
 case atStart=>exact⟨[],i+1,_,HR.out.l.hi,by omega,by simp,HG.out,HR.out⟩
 case round=>
  obtain⟨acc,j,hi,hj,hg,hal,hQ,hR⟩:=hrel
  clear HR HG
  obtain⟨y0,y1,y2,-,-,-,-,-,-,-,-,-,-,-⟩:=hR.out.l
  by_cases hlt:j<s.length
  ·obtain⟨c,hc⟩:∃c,c=s[j]:=⟨_,rfl⟩
   have hb:=bget s j hlt c hc
   have HC:Hid (s[j]? = some c):=by rw[Hid,hc];exact List.getElem?_eq_getElem hlt
   have HD:Hid (s.drop j=c::s.drop (j+1)):=by rw[Hid,hc];exact List.drop_eq_getElem_cons hlt
   have e1:decide ((j:Int)<(s.length:Int))=true:=by rw[decide_eq_true_eq];omega
   clear hc
   by_cases h34:c.toNat=34
   ·have HQ:Hid (G=some (acc,s.drop (j+1))):=by rw[Hid,←hQ.out,HD.out];unfold qtL;rw[if_pos h34]
    have e2:((c.toNat:Int)==34)=true:=by rw[beq_iff_eq];omega
    have h10:c.toNat≠10:=by omega
    clear h34 hQ
    go_wp2_with fail
    go_quiet (fail)
    go_wp2_with fail
    go_quiet (fail)
    have hRn:=fun n=>Lib.hid (hR.out.draw n)
    clear hR
    go_wp2_with (first
     | (go_at_call 250;(with_reducible refine(step_c (hRn _).out.l HC.out).mono ?_);rintro x w2 ⟨rfl,hl2,hF2⟩;have hR3:=Lib.hid ((hRn _).out.step h10 hl2 hF2))
     | (go_at_call 153;(with_reducible refine(bstr_c _ _ _ acc _ hR3.out.b).mono ?_);rintro x w3 ⟨rfl,hF3⟩;have hR4:=Lib.hid (hR3.out.str hF3))
     | ((with_reducible show wpList _ _ _ (⟨none,.store _ (.tmp 39) _,_,_,_,_⟩::_) _ _);refine wpl_stn rfl 24 _ _ rfl w.heap.size 2 [.int .i64 2,.string ⟨#[]⟩] [.int .i64 0,.int .i64 0,.string ⟨#[]⟩] [.int .i64 ln,.int .i64 cl] [.int .i64 2,.int .i64 0,.string ⟨acc.toArray⟩] rfl rfl hR4.out.2.1 rfl rfl (by kernel_rfl) rfl ?_;intro W7 hF7 hB7)
     | ((with_reducible show wpList _ _ _ (⟨some 40,.load _ _,_,_,_,_⟩::_) _ _);refine wpl_load rfl 140 _ rfl w.heap.size 0 rfl (qbC 2 acc 2 ln cl) _ hB7.rd Tryz.underlying140 rfl tkI ?_)
     | ((with_reducible show wpList _ _ _ (⟨none,.store _ (.tmp 4) _,_,_,_,_⟩::_) _ _);refine wpl_st rfl 140 _ _ rfl (w.heap.size+1) (qbC 0 [] 0 0 0) (qbC 2 acc 2 ln cl) rfl rfl (hR4.out.2.2.1.frm hF7 (fun e=>by omega)) rfl tkI rfl ?_;intro W8 hF8 hB8))
    refine bodyPost_ret (v:=.tuple #[.agg (qbC 2 acc 2 ln cl).toArray,.int .i64 0]) (results_ct rfl rfl (run_loadVar_mid W8 (w.heap.size+1) 0 140 _ _ hB8.rd Tryz.underlying140 rfl tkI) rfl) rfl ?_
    rw[HQ.out]
    refine⟨(hR4.out.2.2.2.step hF7 (fun k h1 h2=>by omega)).step hF8 (fun k h1 h2=>by omega),rfl,?_⟩
    have hl:=(hR4.out.1.frm hF7 (by omega)).frm hF8 (by omega)
    rw[show s.length-(s.drop (j+1)).length=j+1 by rw[List.length_drop];omega]
    exact hl
   ·have n34:((c.toNat:Int)==34)=false:=by rw[beq_eq_false_iff_ne];omega
    by_cases hbd:c.toNat<32∨126<c.toNat
    ·have HN:Hid (G=none):=by rw[Hid,←hQ.out,HD.out];unfold qtL;rw[if_neg h34,if_pos hbd]
     have hRn:=fun n=>Lib.hid (hR.out.draw n)
     clear hR hQ h34
     by_cases hlo:c.toNat<32
     ·have e3:decide ((c.toNat:Int)<32)=true:=by rw[decide_eq_true_eq];omega
      clear hbd
      go_wp2_with fail
      go_quiet (fail)
      go_wp2_with fail
      go_quiet (fail)
      go_wp2_with (first
       | ((with_reducible show wpList _ _ _ (⟨some 48,.load _ _,_,_,_,_⟩::_) _ _);refine wpl_load rfl 140 _ rfl w.heap.size 0 rfl (qbC 2 [] 0 ln cl) _ (hRn _).out.t.rd Tryz.underlying140 rfl tkI ?_)
       | ((with_reducible show wpList _ _ _ (⟨none,.store _ (.tmp 4) _,_,_,_,_⟩::_) _ _);refine wpl_st rfl 140 _ _ rfl (w.heap.size+1) (qbC 0 [] 0 0 0) (qbC 2 [] 0 ln cl) rfl rfl (hRn _).out.r rfl tkI rfl ?_;intro W8 hF8 hB8))
      refine bodyPost_ret (v:=.tuple #[.agg (qbC 2 [] 0 ln cl).toArray,.int .i64 3]) (results_ct rfl rfl (run_loadVar_mid W8 (w.heap.size+1) 0 140 _ _ hB8.rd Tryz.underlying140 rfl tkI) rfl) rfl ?_
      exact⟨(hRn _).out.f.step hF8 (fun k h1 h2=>by omega),by rw[HN.out]⟩
     ·have e3:decide ((c.toNat:Int)<32)=false:=by rw[decide_eq_false_iff_not];omega
      have e4:decide ((126:Int)<(c.toNat:Int))=true:=by rw[decide_eq_true_eq];omega
      clear hbd
      go_wp2_with fail
      go_quiet (fail)
      go_wp2_with fail
      go_quiet (fail)
      go_wp2_with (first
       | ((with_reducible show wpList _ _ _ (⟨some 48,.load _ _,_,_,_,_⟩::_) _ _);refine wpl_load rfl 140 _ rfl w.heap.size 0 rfl (qbC 2 [] 0 ln cl) _ (hRn _).out.t.rd Tryz.underlying140 rfl tkI ?_)
       | ((with_reducible show wpList _ _ _ (⟨none,.store _ (.tmp 4) _,_,_,_,_⟩::_) _ _);refine wpl_st rfl 140 _ _ rfl (w.heap.size+1) (qbC 0 [] 0 0 0) (qbC 2 [] 0 ln cl) rfl rfl (hRn _).out.r rfl tkI rfl ?_;intro W8 hF8 hB8))
      refine bodyPost_ret (v:=.tuple #[.agg (qbC 2 [] 0 ln cl).toArray,.int .i64 3]) (results_ct rfl rfl (run_loadVar_mid W8 (w.heap.size+1) 0 140 _ _ hB8.rd Tryz.underlying140 rfl tkI) rfl) rfl ?_
      exact⟨(hRn _).out.f.step hF8 (fun k h1 h2=>by omega),by rw[HN.out]⟩
    ·have e3:decide ((c.toNat:Int)<32)=false:=by rw[decide_eq_false_iff_not];omega
     have e4:decide ((126:Int)<(c.toNat:Int))=false:=by rw[decide_eq_false_iff_not];omega
     by_cases h92:c.toNat=92
     ·have e5:((c.toNat:Int)==92)=true:=by rw[beq_iff_eq];omega
      have h10:c.toNat≠10:=by omega
      obtain⟨k,hk⟩:∃k,k=j+1:=⟨_,rfl⟩
      have HQ1:Hid (G=match s.drop k with
        | []=>none
        | d::r'=>if d.toNat=34∨d.toNat=92 then qtL r' (acc ++ [d])else none):=by
       rw[Hid,←hQ.out,HD.out,hk]
       conv=>lhs;unfold qtL
       rw[if_neg h34,if_neg hbd,if_pos h92]
       cases s.drop (j+1)<;>rfl
      have hRn:=fun n=>Lib.hid (hR.out.draw n)
      have hRs:∀(n:Nat) (w':World),Lxr s X (j+1) (ln1 c ln) (cl1 c (cl+(j-i:Nat))) v w'→Frm (fun k=>k=X) (wr.drewN n) w'→QuR s X i ln cl v w acc k hi w':=fun n w' h1 h2=>by
       rw[hk]
       exact(hRn n).out.step h10 h1 h2
      have HRs:=Lib.hid hRs
      have hbl:(Lib.byteCells acc).length+1≤140737488355328:=by
       have:=hR.out.l.hs
       rw[Lib.byteCells_length];omega
      obtain⟨g',rfl⟩:∃g',gk=g'+1:=⟨gk-1,by omega⟩
      have hk1:j+1≤k:=by omega
      have hk2:k≤j+1:=by omega
      clear hR hQ h34 hbd h92 hRs hk
      go_wp2_with fail
      go_quiet (fail)
      go_wp2_with fail
      go_quiet (fail)
      go_wp2_with (go_at_call 250;(with_reducible refine(step_c (hRn _).out.l HC.out).mono ?_);rintro x w2 ⟨rfl,hl2,hF2⟩;have hR3:=Lib.hid (HRs.out _ _ hl2 hF2))
      have hSn:=fun n=>Lib.hid (hR3.out.draw n)
      obtain⟨z0,z1,z2,-,-,-,-,-,-,-,-,-,-,-⟩:=hR3.out.l
      clear hR3 HRs hRn hl2 hF2 y0 y1 y2 hb
      by_cases hlk:k<s.length
      ·obtain⟨d,hd⟩:∃d,d=s[k]:=⟨_,rfl⟩
       have hb:=bget s k hlk d hd
       have HD2:Hid (s[k]? = some d):=by rw[Hid,hd];exact List.getElem?_eq_getElem hlk
       have HQ3:Hid (G=if d.toNat=34∨d.toNat=92 then qtL (s.drop (k+1)) (acc ++ [d])else none):=by
        rw[Hid,HQ1.out,List.drop_eq_getElem_cons hlk,←hd]
       have e6:((k:Int)==(s.length:Int))=false:=by rw[beq_eq_false_iff_ne];omega
       clear hd HQ1
       by_cases d34:d.toNat=34
       ·have e7:((d.toNat:Int) != 34)=false:=by rw[bne_eq_false_iff_eq];omega
        have hd10:d.toNat≠10:=by omega
        have HQ2:Hid (qtL (s.drop (k+1)) (acc ++ [d])=G):=by rw[Hid,HQ3.out,if_pos (.inl d34)]
        clear d34 HQ3
        go_wp2_with fail
        go_quiet (fail)
        go_wp2_with fail
        go_region_with (go_at_call 288;(with_reducible refine(wbyte_c _ _ _ _ _ _ (hSn _).out.b hbl).mono ?_);rintro x w5 ⟨rfl,hB2,hF5⟩)
        all_goals
         have hR5:=Lib.hid ((hSn _).out.put d hB2 hF5)
         go_wp2_with (first
          | (go_at_call 250;(with_reducible refine(step_c (hR5.out.draw _).l HD2.out).mono ?_);rintro x w4 ⟨rfl,hl4,hF4⟩;have hR4:=Lib.hid ((hR5.out.draw _).step hd10 hl4 hF4))
          | (go_at_call 250;(with_reducible refine(step_c hR5.out.l HD2.out).mono ?_);rintro x w4 ⟨rfl,hl4,hF4⟩;have hR4:=Lib.hid (hR5.out.step hd10 hl4 hF4)))
         go_roundg g'
         case measure=>omega
         case rel=>exact⟨acc ++ [d],k+1,_,by omega,by omega,by rw[List.length_append];simp;omega,HQ2.out,hR4.out⟩
       ·have e7:((d.toNat:Int) != 34)=true:=by rw[bne_iff_ne];omega
        by_cases d92:d.toNat=92
        ·have e8:((d.toNat:Int) != 92)=false:=by rw[bne_eq_false_iff_eq];omega
         have hd10:d.toNat≠10:=by omega
         have HQ2:Hid (qtL (s.drop (k+1)) (acc ++ [d])=G):=by rw[Hid,HQ3.out,if_pos (.inr d92)]
         clear d34 d92 HQ3
         go_wp2_with fail
         go_quiet (fail)
         go_wp2_with fail
         go_region_with (go_at_call 288;(with_reducible refine(wbyte_c _ _ _ _ _ _ (hSn _).out.b hbl).mono ?_);rintro x w5 ⟨rfl,hB2,hF5⟩)
         all_goals
          have hR5:=Lib.hid ((hSn _).out.put d hB2 hF5)
          go_wp2_with (first
           | (go_at_call 250;(with_reducible refine(step_c (hR5.out.draw _).l HD2.out).mono ?_);rintro x w4 ⟨rfl,hl4,hF4⟩;have hR4:=Lib.hid ((hR5.out.draw _).step hd10 hl4 hF4))
           | (go_at_call 250;(with_reducible refine(step_c hR5.out.l HD2.out).mono ?_);rintro x w4 ⟨rfl,hl4,hF4⟩;have hR4:=Lib.hid (hR5.out.step hd10 hl4 hF4)))
          go_roundg g'
          case measure=>omega
          case rel=>exact⟨acc ++ [d],k+1,_,by omega,by omega,by rw[List.length_append];simp;omega,HQ2.out,hR4.out⟩
        ·have e8:((d.toNat:Int) != 92)=true:=by rw[bne_iff_ne];omega
         have HN:Hid (G=none):=by rw[Hid,HQ3.out,if_neg (by rintro(q|q)<;>contradiction)]
         clear d34 d92 HQ3
         go_wp2_with fail
         go_quiet (fail)
         go_wp2_with (first
          | ((with_reducible show wpList _ _ _ (⟨some 88,.load _ _,_,_,_,_⟩::_) _ _);refine wpl_load rfl 140 _ rfl w.heap.size 0 rfl (qbC 2 [] 0 ln cl) _ (hSn _).out.t.rd Tryz.underlying140 rfl tkI ?_)
          | ((with_reducible show wpList _ _ _ (⟨none,.store _ (.tmp 4) _,_,_,_,_⟩::_) _ _);refine wpl_st rfl 140 _ _ rfl (w.heap.size+1) (qbC 0 [] 0 0 0) (qbC 2 [] 0 ln cl) rfl rfl (hSn _).out.r rfl tkI rfl ?_;intro W8 hF8 hB8))
         refine bodyPost_ret (v:=.tuple #[.agg (qbC 2 [] 0 ln cl).toArray,.int .i64 3]) (results_ct rfl rfl (run_loadVar_mid W8 (w.heap.size+1) 0 140 _ _ hB8.rd Tryz.underlying140 rfl tkI) rfl) rfl ?_
         exact⟨(hSn _).out.f.step hF8 (fun k h1 h2=>by omega),by rw[HN.out]⟩
      ·have HN:Hid (G=none):=by rw[Hid,HQ1.out,List.drop_eq_nil_of_le (by omega)]
       have e6:((k:Int)==(s.length:Int))=true:=by rw[beq_iff_eq];omega
       clear HQ1
       go_wp2_with fail
       go_quiet (fail)
       go_wp2_with (first
        | ((with_reducible show wpList _ _ _ (⟨some 88,.load _ _,_,_,_,_⟩::_) _ _);refine wpl_load rfl 140 _ rfl w.heap.size 0 rfl (qbC 2 [] 0 ln cl) _ (hSn _).out.t.rd Tryz.underlying140 rfl tkI ?_)
        | ((with_reducible show wpList _ _ _ (⟨none,.store _ (.tmp 4) _,_,_,_,_⟩::_) _ _);refine wpl_st rfl 140 _ _ rfl (w.heap.size+1) (qbC 0 [] 0 0 0) (qbC 2 [] 0 ln cl) rfl rfl (hSn _).out.r rfl tkI rfl ?_;intro W8 hF8 hB8))
       refine bodyPost_ret (v:=.tuple #[.agg (qbC 2 [] 0 ln cl).toArray,.int .i64 3]) (results_ct rfl rfl (run_loadVar_mid W8 (w.heap.size+1) 0 140 _ _ hB8.rd Tryz.underlying140 rfl tkI) rfl) rfl ?_
       exact⟨(hSn _).out.f.step hF8 (fun k h1 h2=>by omega),by rw[HN.out]⟩
     ·have e5:((c.toNat:Int)==92)=false:=by rw[beq_eq_false_iff_ne];omega
      have h10:c.toNat≠10:=by omega
      have HQ2:Hid (qtL (s.drop (j+1)) (acc ++ [c])=G):=by
       rw[Hid,←hQ.out,HD.out]
       conv=>rhs;unfold qtL
       rw[if_neg h34,if_neg hbd,if_neg h92]
      have hRn:=fun n=>Lib.hid (hR.out.draw n)
      have hbl:(Lib.byteCells acc).length+1≤140737488355328:=by
       have:=hR.out.l.hs
       rw[Lib.byteCells_length];omega
      obtain⟨g',rfl⟩:∃g',gk=g'+1:=⟨gk-1,by omega⟩
      clear hR hQ h34 hbd h92
      go_wp2_with fail
      go_quiet (fail)
      go_wp2_with fail
      go_quiet (fail)
      go_wp2_with fail
      go_region_with (go_at_call 288;(with_reducible refine(wbyte_c _ _ _ _ _ _ (hRn _).out.b hbl).mono ?_);rintro x w2 ⟨rfl,hB2,hF2⟩)
      all_goals
       have hR3:=Lib.hid ((hRn _).out.put c hB2 hF2)
       go_wp2_with (first
        | (go_at_call 250;(with_reducible refine(step_c (hR3.out.draw _).l HC.out).mono ?_);rintro x w4 ⟨rfl,hl4,hF4⟩;have hR4:=Lib.hid ((hR3.out.draw _).step h10 hl4 hF4))
        | (go_at_call 250;(with_reducible refine(step_c hR3.out.l HC.out).mono ?_);rintro x w4 ⟨rfl,hl4,hF4⟩;have hR4:=Lib.hid (hR3.out.step h10 hl4 hF4)))
       go_roundg g'
       case measure=>omega
       case rel=>exact⟨acc ++ [c],j+1,_,by omega,by omega,by rw[List.length_append];simp;omega,HQ2.out,hR4.out⟩
  ·have HN:Hid (G=none):=by rw[Hid,←hQ.out,List.drop_eq_nil_of_le (by omega)];exact qtL_nil _
   have e1:decide ((j:Int)<(s.length:Int))=false:=by rw[decide_eq_false_iff_not];omega
   go_wp2_with fail
   go_quiet (fail)
   have hR2:=Lib.hid (hR.out.draw nq)
   go_wp2_with (first
    | ((with_reducible show wpList _ _ _ (⟨some 99,.load _ _,_,_,_,_⟩::_) _ _);refine wpl_load rfl 140 _ rfl w.heap.size 0 rfl (qbC 2 [] 0 ln cl) _ hR2.out.t.rd Tryz.underlying140 rfl tkI ?_)
    | ((with_reducible show wpList _ _ _ (⟨none,.store _ (.tmp 4) _,_,_,_,_⟩::_) _ _);refine wpl_st rfl 140 _ _ rfl (w.heap.size+1) (qbC 0 [] 0 0 0) (qbC 2 [] 0 ln cl) rfl rfl hR2.out.r rfl tkI rfl ?_;intro W8 hF8 hB8))
   refine bodyPost_ret (v:=.tuple #[.agg (qbC 2 [] 0 ln cl).toArray,.int .i64 3]) (results_ct rfl rfl (run_loadVar_mid W8 (w.heap.size+1) 0 140 _ _ hB8.rd Tryz.underlying140 rfl tkI) rfl) rfl ?_
   exact⟨hR2.out.f.step hF8 (fun k h1 h2=>by omega),by rw[HN.out]⟩
end Go.Proofs.YtlmeinikknoeeaaGreatDoor
