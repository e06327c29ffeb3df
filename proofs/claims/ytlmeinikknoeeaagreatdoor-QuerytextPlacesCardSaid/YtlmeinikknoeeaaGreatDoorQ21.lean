/- Queries: a constant's token, whole. -/
import Derived.Test.YtlmeinikknoeeaaGreatDoorQ20
namespace Go.Proofs.YtlmeinikknoeeaaGreatDoor
set_option linter.unusedVariables false
set_option linter.unnecessarySimpa false
set_option linter.unusedSimpArgs false
open Go.RowKit
theorem nm_few {T:List UInt8} (h:untZ T=none) (hd:dgQ T = []∨(dgQ T).all isDg=false):nmT untZ T = .inl 3:=by
 unfold nmT
 rw[h]
 exact if_pos hd
theorem ext_two {w w3 W7 W8:World} (h:Ext w w3) (hF7:Frm (fun k=>k=w.heap.size) w3 W7) (hF8:Frm (fun k=>k=w.heap.size+1) W7 W8):Ext w W8:=by
 have h1:Frm (fun _=>False) w W8:=((Frm.of_ext h).step hF7 (fun k h1 h2=>by omega)).step hF8 (fun k h1 h2=>by omega)
 exact⟨h1.os,h1.tape,h1.output,h1.size,fun k hk=>h1.block k hk (fun e=>e)⟩
theorem NuP.fin {T:List UInt8} {ln cl:Int} {w:World} {r:Sum Int ValD} {V E:Int} {w':World} (h:(r = .inr ⟨1,V,[]⟩∧E=0)∨(r = .inl 9∧E=9)) (hE:Ext w w'):NuP T ln cl w r (.returned (.tuple #[.agg (nbC T 1 V ln cl).toArray,.int .i64 E])) w':=by
 rcases h with⟨h,rfl⟩|⟨h,rfl⟩
 ·exact NuP.yes h hE
 ·exact NuP.no h hE
theorem ext_one {w w3 W8:World} (h:Ext w w3) (hF8:Frm (fun k=>k=w.heap.size+1) w3 W8):Ext w W8:=by
 have h1:Frm (fun _=>False) w W8:=(Frm.of_ext h).step hF8 (fun k h1 h2=>by omega)
 exact⟨h1.os,h1.tape,h1.output,h1.size,fun k hk=>h1.block k hk (fun e=>e)⟩
theorem sg_iff {m:Nat} {b:Bool}:(-9223372036854775808≤sgV m b∧sgV m b≤9223372036854775807)↔sgK m b=true:=by
 unfold sgV sgK
 cases b
 ·rw[if_neg (by simp),if_neg (by simp),decide_eq_true_eq];omega
 ·rw[if_pos rfl,if_pos rfl,decide_eq_true_eq];omega
theorem nm_num {T:List UInt8} (h:untZ T=none) (h1:dgQ T≠[]) (hd:(dgQ T).all isDg=true):nmT untZ T=if sgK (val (dgQ T)) (sgQ T)=true then .inr ⟨1,sgV (val (dgQ T)) (sgQ T),[]⟩else .inl 9:=by
 unfold nmT
 rw[h]
 have e:nvQ T=sgV (val (dgQ T)) (sgQ T):=rfl
 refine(if_neg (by rw[hd];simp[h1])).trans ?_
 rw[e]
 by_cases q:sgK (val (dgQ T)) (sgQ T)=true
 ·rw[if_pos q]
  exact if_pos (sg_iff.2 q)
 ·rw[if_neg q]
  exact if_neg (fun h=>q (sg_iff.1 h))
set_option maxRecDepth 100000 in
set_option maxHeartbeats 2000000 in
theorem number_c (T:List UInt8) (ln cl:Int) (w:World) (hT:T.length≤65536) :
  Calls Tryz.prog 253 #[.agg (nbC T 0 0 ln cl).toArray] w (NuP T ln cl w (nmT untZ T)):=by
 have HP:=fun w'=>Lib.hid (cparseQ_c T w' (by omega))
 obtain⟨G,hG⟩:∃G,nmT untZ T=G:=⟨_,rfl⟩
 rw[hG]
 have HG:=Lib.hid hG
 clear hG
 show Calls _ _ #[.agg #[.int .i64 2,.string ⟨T.toArray⟩,.int .i64 0,.int .i64 0,.string ⟨#[]⟩,.int .i64 ln,.int .i64 cl]] w _
 go_enter Tryz.func253,Tryz.ntmps253
 go_upto_region 2 with(go_at_call 283;(with_reducible refine(HP _).out.mono ?_);rintro e w1 ⟨⟨y,m,d,hh,mi,se,er,rfl,hor⟩,hE1⟩;have Hor:=Lib.hid hor;clear hor;unfold momQ)
 have hE2:Ext ((w.alloc (.cells #[.int .i64 2,.string ⟨T.toArray⟩,.int .i64 0,.int .i64 0,.string ⟨#[]⟩,.int .i64 ln,.int .i64 cl] 140)).alloc (.cells #[.int .i64 0,.string ⟨#[]⟩,.int .i64 0,.int .i64 0,.string ⟨#[]⟩,.int .i64 0,.int .i64 0] 140)) (w1.alloc (.cells #[.int .i64 y,.int .i64 m,.int .i64 d,.int .i64 hh,.int .i64 mi,.int .i64 se] 181)):=hE1.alloc _
 have hE0:Ext w ((w.alloc (.cells #[.int .i64 2,.string ⟨T.toArray⟩,.int .i64 0,.int .i64 0,.string ⟨#[]⟩,.int .i64 ln,.int .i64 cl] 140)).alloc (.cells #[.int .i64 0,.string ⟨#[]⟩,.int .i64 0,.int .i64 0,.string ⟨#[]⟩,.int .i64 0,.int .i64 0] 140)):=((Ext.refl w).alloc _).alloc _
 have hX:∀w',Ext (w1.alloc (.cells #[.int .i64 y,.int .i64 m,.int .i64 d,.int .i64 hh,.int .i64 mi,.int .i64 se] 181)) w'→BxT w.heap.size (nbC T 0 0 ln cl) w'∧BxT (w.heap.size+1) (qbC 0 [] 0 0 0) w'∧w.heap.size+2≤w'.heap.size∧Ext w w':=fun w' h=>by
  have b1:BxT w.heap.size (nbC T 0 0 ln cl) ((w.alloc (.cells (nbC T 0 0 ln cl).toArray 140)).alloc (.cells (qbC 0 [] 0 0 0).toArray 140)):=(BxT.new w _ _).ext ((Ext.refl _).alloc _)
  have b2:=BxT.new (w.alloc (.cells (nbC T 0 0 ln cl).toArray 140)) (qbC 0 [] 0 0 0) 140
  rw[World.size_alloc]at b2
  have hs:=hE2.size
  have hs2:=h.size
  simp only[World.size_alloc]at hs hs2
  exact⟨(b1.ext hE2).ext h,(b2.ext hE2).ext h,by omega,(hE0.trans hE2).trans h⟩
 have hMo:=BxT.new w1 [.int .i64 y,.int .i64 m,.int .i64 d,.int .i64 hh,.int .i64 mi,.int .i64 se] 181
 have HX:=Lib.hid hX
 have k0:=hMo.at 0 _ rfl
 have k1:=hMo.at 1 _ rfl
 have k2:=hMo.at 2 _ rfl
 have k3:=hMo.at 3 _ rfl
 have k4:=hMo.at 4 _ rfl
 have k5:=hMo.at 5 _ rfl
 have u0:=(hX _ (Ext.refl _)).1.at 1 _ rfl
 clear hMo hX hE2 hE0 hE1 HP
 generalize w1.alloc (.cells #[.int .i64 y,.int .i64 m,.int .i64 d,.int .i64 hh,.int .i64 mi,.int .i64 se] 181)=W2 at *
 generalize w1.heap.size=B1 at *
 rcases Hor.out with⟨rfl,hv,ht,hz⟩|⟨her,hz,hv⟩
 ·have HZ:Hid (G = .inr ⟨4,inst y m d hh mi se,[]⟩):=by rw[Hid,←HG.out];unfold nmT;rw[hz]
  have HO:=Lib.hid (of_yes y m d hh mi se W2 hv ht)
  clear hv ht hz Hor HG
  go_wp2_with (first
   | (go_at_call 264;(with_reducible refine HO.out.mono ?_);rintro e w3 ⟨rfl,hE3⟩;have hb3:=Lib.hid (HX.out _ hE3))
         | ((with_reducible show wpList _ _ _ (⟨none,.store _ (.tmp 27) _,_,_,_,_⟩::_) _ _);refine wpl_stn rfl 24 _ _ rfl w.heap.size 2 [.int .i64 2,.string ⟨T.toArray⟩] [.int .i64 0,.int .i64 0,.string ⟨#[]⟩] [.int .i64 ln,.int .i64 cl] [.int .i64 4,.int .i64 (inst y m d hh mi se),.string ⟨#[]⟩] rfl rfl hb3.out.1 rfl rfl (by kernel_rfl) rfl ?_;intro W7 hF7 hB7)
         | ((with_reducible show wpList _ _ _ (⟨_,.load _ (.tmp 1),_,_,_,_⟩::_) _ _);refine wpl_load rfl 140 _ rfl w.heap.size 0 rfl (nbC T 4 (inst y m d hh mi se) ln cl) _ hB7.rd Tryz.underlying140 rfl tkI ?_)
         | ((with_reducible show wpList _ _ _ (⟨none,.store _ (.tmp 2) _,_,_,_,_⟩::_) _ _);refine wpl_st rfl 140 _ _ rfl (w.heap.size+1) (qbC 0 [] 0 0 0) (nbC T 4 (inst y m d hh mi se) ln cl) rfl rfl (hb3.out.2.1.frm hF7 (fun e=>by omega)) rfl tkI rfl ?_;intro W8 hF8 hB8))
  refine bodyPost_ret (v:=.tuple #[.agg (nbC T 4 (inst y m d hh mi se) ln cl).toArray,.int .i64 0]) (results_ct rfl rfl (run_loadVar_mid W8 (w.heap.size+1) 0 140 _ _ hB8.rd Tryz.underlying140 rfl tkI) rfl) rfl ?_
  exact NuP.yes HZ.out (ext_two hb3.out.2.2.2 hF7 hF8)
 ·have t1:(er==0)=false:=by rw[beq_eq_false_iff_ne];omega
  have HU:=Lib.hid hz
  have HTP:=fun w'=>Lib.hid (tp_c T w')
  have HGf:Hid (dgQ T = []∨(dgQ T).all isDg=false→G = .inl 3):=fun h=>HG.out.symm.trans (nm_few hz h)
  have HGn:Hid (dgQ T≠[]→(dgQ T).all isDg=true→G=if sgK (val (dgQ T)) (sgQ T)=true then .inr ⟨1,sgV (val (dgQ T)) (sgQ T),[]⟩else .inl 9):=fun h1 h2=>HG.out.symm.trans (nm_num hz h1 h2)
  have HSG:Hid (sgQ T=decide ((dgQ T).length<T.length)):=by
   rw[Hid]
   unfold dgQ
   cases hs:sgQ T with
   | true=>
     rw[if_pos rfl]
     have:T≠[]:=fun e=>by rw[e]at hs;cases hs
     have hp:=List.length_pos_iff.2 this
     rw[List.length_drop,decide_eq_true (by omega)]
   | false=>rw[if_neg (by simp),decide_eq_false (by omega)]
  have hDl:(dgQ T).length≤T.length:=by
   unfold dgQ;split
   ·rw[List.length_drop];omega
   ·omega
  clear hz hv Hor HG k0 k1 k2 k3 k4 k5 her
  obtain⟨D,hD⟩:∃D,D=dgQ T:=⟨_,rfl⟩
  obtain⟨sg,hsg⟩:∃sg,sg=sgQ T:=⟨_,rfl⟩
  rw[←hD]at HTP HGf HGn HSG hDl
  rw[←hsg]at HGn HSG
  clear hD hsg
  have hbX:=Lib.hid (HX.out _ (Ext.refl _))
  by_cases hD0:D = []
  ·have HZ:=Lib.hid (HGf.out (.inl hD0))
   subst hD0
   clear HGf HGn HSG hDl
   go_wp2_with (first
    | (go_at_call 284;(with_reducible refine(HTP _).out.mono ?_);rintro e w3 ⟨rfl,rfl⟩)
             | ((with_reducible show wpList _ _ _ (⟨_,.load 140 (.tmp 1),_,_,_,_⟩::_) _ _);refine wpl_load rfl 140 _ rfl w.heap.size 0 rfl (nbC T 0 0 ln cl) _ hbX.out.1.rd Tryz.underlying140 rfl tkI ?_)
             | ((with_reducible show wpList _ _ _ (⟨none,.store _ (.tmp 2) _,_,_,_,_⟩::_) _ _);refine wpl_st rfl 140 _ _ rfl (w.heap.size+1) (qbC 0 [] 0 0 0) (nbC T 0 0 ln cl) rfl rfl hbX.out.2.1 rfl tkI rfl ?_;intro W8 hF8 hB8))
   refine bodyPost_ret (v:=.tuple #[.agg (nbC T 0 0 ln cl).toArray,.int .i64 3]) (results_ct rfl rfl (run_loadVar_mid W8 (w.heap.size+1) 0 140 _ _ hB8.rd Tryz.underlying140 rfl tkI) rfl) rfl ?_
   exact NuP.no HZ.out (ext_one hbX.out.2.2.2 hF8)
  ·have d0:D.isEmpty=false:=by simpa using hD0
   have d1:(D == [])=false:=by simpa using hD0
   cases hall:D.all isDg with
   | false=>
     have HZ:=Lib.hid (HGf.out (.inr hall))
     have HC:=fun w'=>Lib.hid (cnd_c D true w' (by rw[hall];rfl))
     clear HGf HGn HSG hDl hall hD0
     go_wp2_with (first
      | (go_at_call 284;(with_reducible refine(HTP _).out.mono ?_);rintro e w3 ⟨rfl,rfl⟩)
      | (go_at_call 258;(with_reducible refine(HC _).out.mono ?_);rintro e w3 ⟨rfl,hE3⟩;have hb3:=Lib.hid (HX.out _ hE3))
              | ((with_reducible show wpList _ _ _ (⟨_,.load 140 (.tmp 1),_,_,_,_⟩::_) _ _);refine wpl_load rfl 140 _ rfl w.heap.size 0 rfl (nbC T 0 0 ln cl) _ hb3.out.1.rd Tryz.underlying140 rfl tkI ?_)
              | ((with_reducible show wpList _ _ _ (⟨none,.store _ (.tmp 2) _,_,_,_,_⟩::_) _ _);refine wpl_st rfl 140 _ _ rfl (w.heap.size+1) (qbC 0 [] 0 0 0) (nbC T 0 0 ln cl) rfl rfl hb3.out.2.1 rfl tkI rfl ?_;intro W8 hF8 hB8))
     refine bodyPost_ret (v:=.tuple #[.agg (nbC T 0 0 ln cl).toArray,.int .i64 3]) (results_ct rfl rfl (run_loadVar_mid W8 (w.heap.size+1) 0 140 _ _ hB8.rd Tryz.underlying140 rfl tkI) rfl) rfl ?_
     exact NuP.no HZ.out (ext_one hb3.out.2.2.2 hF8)
   | true=>
     have HZ:=Lib.hid (HGn.out hD0 hall)
     have HC:=fun w'=>Lib.hid (cnd_c D false w' (by rw[hall];rfl))
     have HTL:=fun w'=>Lib.hid (tl_c D w')
     have hdg:∀c∈D,isDg c=true:=List.all_eq_true.1 hall
     by_cases hbig:19<(tzQ D).length
     ·have HB:Hid (G = .inl 9):=by
       have h1:=tz_big hdg hbig
       rw[Hid,HZ.out]
       exact if_neg (fun q=>by have:=sg_iff.2 q;unfold sgV at this;split at this<;>omega)
      have e1:decide ((19:Int)<((tzQ D).length:Int))=true:=by rw[decide_eq_true_eq];omega
      clear HGf HGn HSG hDl hall hD0 hdg HZ hbig
      go_wp2_with (first
       | (go_at_call 284;(with_reducible refine(HTP _).out.mono ?_);rintro e w3 ⟨rfl,rfl⟩)
       | (go_at_call 286;(with_reducible refine(HTL _).out.mono ?_);rintro e w4 ⟨rfl,rfl⟩)
       | (go_at_call 258;(with_reducible refine(HC _).out.mono ?_);rintro e w3 ⟨rfl,hE3⟩;have hb3:=Lib.hid (HX.out _ hE3))
               | ((with_reducible show wpList _ _ _ (⟨_,.load 140 (.tmp 1),_,_,_,_⟩::_) _ _);refine wpl_load rfl 140 _ rfl w.heap.size 0 rfl (nbC T 0 0 ln cl) _ hb3.out.1.rd Tryz.underlying140 rfl tkI ?_)
               | ((with_reducible show wpList _ _ _ (⟨none,.store _ (.tmp 2) _,_,_,_,_⟩::_) _ _);refine wpl_st rfl 140 _ _ rfl (w.heap.size+1) (qbC 0 [] 0 0 0) (nbC T 0 0 ln cl) rfl rfl hb3.out.2.1 rfl tkI rfl ?_;intro W8 hF8 hB8))
      refine bodyPost_ret (v:=.tuple #[.agg (nbC T 0 0 ln cl).toArray,.int .i64 9]) (results_ct rfl rfl (run_loadVar_mid W8 (w.heap.size+1) 0 140 _ _ hB8.rd Tryz.underlying140 rfl tkI) rfl) rfl ?_
      exact NuP.no HB.out (ext_one hb3.out.2.2.2 hF8)
     ·obtain⟨Z,hZ⟩:∃Z,Z=if tzQ D = []then [48]else tzQ D:=⟨_,rfl⟩
      have hZv:val Z=val D:=by
       rw[hZ,←tz_val D]
       by_cases q:tzQ D = []
       ·rw[if_pos q,q];rfl
       ·rw[if_neg q]
      have hZ1:Z≠[]:=by
       rw[hZ]
       by_cases q:tzQ D = []
       ·rw[if_pos q];simp
       ·rw[if_neg q];exact q
      have hZ2:Z.length≤29:=by
       rw[hZ];split
       ·simp
       ·omega
      have hZ3:∀c∈Z,isDg c=true:=by
       intro c hc
       rw[hZ]at hc
       split at hc
       ·rw[List.mem_singleton.1 hc];rfl
       ·exact hdg c (tz_mem hc)
      obtain⟨V,hV⟩:∃V,V=inV sg Z:=⟨_,rfl⟩
      obtain⟨E,hE⟩:∃E,E=inE sg Z:=⟨_,rfl⟩
      have HI0:=fun w'=>inp_c sg Z w' hZ1 hZ2 hZ3
      rw[←hV,←hE]at HI0
      have HB:Hid ((G = .inr ⟨1,V,[]⟩∧E=0)∨(G = .inl 9∧E=9)):=by
       rw[Hid,hV,hE,HZ.out]
       unfold inV inE
       rw[hZv]
       by_cases q:sgK (val D) sg=true
       ·exact .inl ⟨by rw[if_pos q,if_pos q],if_pos q⟩
       ·exact .inr ⟨if_neg q,if_neg q⟩
      have e1:decide ((19:Int)<((tzQ D).length:Int))=false:=by rw[decide_eq_false_iff_not];omega
      have HLT:Hid ((sg=true→D.length<T.length)∧(sg=false→T.length≤D.length)):=by
       rw[Hid,HSG.out]
       exact⟨fun q=>of_decide_eq_true q,fun q=>Nat.le_of_not_lt (of_decide_eq_false q)⟩
      have hzl:(tzQ D).length≤19:=by omega
      clear HGf HGn HSG hDl hall hD0 hdg HZ hbig hZ1 hZ2 hZ3 hZv hV hE
      by_cases htz:tzQ D = []
      ·rw[if_pos htz]at hZ
       subst hZ
       have z0:(tzQ D).isEmpty=true:=by rw[htz];rfl
       have z1:(tzQ D == [])=true:=by rw[htz];rfl
       clear htz
       cases sg
       ·have HI:∀w',Hid (Calls Tryz.prog 287 #[.string ⟨#[48]⟩] w' _):=fun w'=>HI0 w'
        have hq:T.length≤D.length:=HLT.out.2 rfl
        clear HI0
        go_wp2_with (first
         | (go_at_call 284;(with_reducible refine(HTP _).out.mono ?_);rintro e w3 ⟨rfl,rfl⟩)
         | (go_at_call 286;(with_reducible refine(HTL _).out.mono ?_);rintro e w4 ⟨rfl,rfl⟩)
         | (go_at_call 258;(with_reducible refine(HC _).out.mono ?_);rintro e w3 ⟨rfl,hE3⟩;have hb3:=Lib.hid (HX.out _ hE3);have u3:=hb3.out.1.at 1 _ rfl)
         | (go_at_call 287;go_loud ((with_reducible refine(HI _).out.mono ?_);rintro e w5 ⟨rfl,hE5⟩;have hb5:=Lib.hid (HX.out _ (hE3.trans hE5))))
             | ((with_reducible show wpList _ _ _ (⟨none,.store _ (.tmp 62) _,_,_,_,_⟩::_) _ _);refine wpl_stn rfl 24 _ _ rfl w.heap.size 2 [.int .i64 2,.string ⟨T.toArray⟩] [.int .i64 0,.int .i64 0,.string ⟨#[]⟩] [.int .i64 ln,.int .i64 cl] [.int .i64 1,.int .i64 V,.string ⟨#[]⟩] rfl rfl hb5.out.1 rfl rfl (by kernel_rfl) rfl ?_;intro W7 hF7 hB7)
             | ((with_reducible show wpList _ _ _ (⟨_,.load _ (.tmp 1),_,_,_,_⟩::_) _ _);refine wpl_load rfl 140 _ rfl w.heap.size 0 rfl (nbC T 1 V ln cl) _ hB7.rd Tryz.underlying140 rfl tkI ?_)
             | ((with_reducible show wpList _ _ _ (⟨none,.store _ (.tmp 2) _,_,_,_,_⟩::_) _ _);refine wpl_st rfl 140 _ _ rfl (w.heap.size+1) (qbC 0 [] 0 0 0) (nbC T 1 V ln cl) rfl rfl (hb5.out.2.1.frm hF7 (fun e=>by omega)) rfl tkI rfl ?_;intro W8 hF8 hB8))
        refine bodyPost_ret (v:=.tuple #[.agg (nbC T 1 V ln cl).toArray,.int .i64 E]) (results_ct rfl rfl (run_loadVar_mid W8 (w.heap.size+1) 0 140 _ _ hB8.rd Tryz.underlying140 rfl tkI) rfl) rfl ?_
        exact NuP.fin HB.out (ext_two hb5.out.2.2.2 hF7 hF8)
       ·have HI:∀w',Hid (Calls Tryz.prog 287 #[.string ((⟨#[45]⟩:ByteArray)++⟨#[48]⟩)] w' fun e w''=>e = .returned (.tuple #[.int .i64 V,.int .i64 E])∧Ext w' w''):=fun w'=>by
         rw[Hid,show(⟨#[45]⟩:ByteArray)++⟨#[48]⟩=⟨#[45,48]⟩from app_str [45] [48]]
         exact HI0 w'
        have hq:D.length<T.length:=HLT.out.1 rfl
        clear HI0
        go_wp2_with (first
         | (go_at_call 284;(with_reducible refine(HTP _).out.mono ?_);rintro e w3 ⟨rfl,rfl⟩)
         | (go_at_call 286;(with_reducible refine(HTL _).out.mono ?_);rintro e w4 ⟨rfl,rfl⟩)
         | (go_at_call 258;(with_reducible refine(HC _).out.mono ?_);rintro e w3 ⟨rfl,hE3⟩;have hb3:=Lib.hid (HX.out _ hE3);have u3:=hb3.out.1.at 1 _ rfl)
         | (go_at_call 287;(with_reducible refine(HI _).out.mono ?_);rintro e w5 ⟨rfl,hE5⟩;have hb5:=Lib.hid (HX.out _ (hE3.trans hE5)))
             | ((with_reducible show wpList _ _ _ (⟨none,.store _ (.tmp 62) _,_,_,_,_⟩::_) _ _);refine wpl_stn rfl 24 _ _ rfl w.heap.size 2 [.int .i64 2,.string ⟨T.toArray⟩] [.int .i64 0,.int .i64 0,.string ⟨#[]⟩] [.int .i64 ln,.int .i64 cl] [.int .i64 1,.int .i64 V,.string ⟨#[]⟩] rfl rfl hb5.out.1 rfl rfl (by kernel_rfl) rfl ?_;intro W7 hF7 hB7)
             | ((with_reducible show wpList _ _ _ (⟨_,.load _ (.tmp 1),_,_,_,_⟩::_) _ _);refine wpl_load rfl 140 _ rfl w.heap.size 0 rfl (nbC T 1 V ln cl) _ hB7.rd Tryz.underlying140 rfl tkI ?_)
             | ((with_reducible show wpList _ _ _ (⟨none,.store _ (.tmp 2) _,_,_,_,_⟩::_) _ _);refine wpl_st rfl 140 _ _ rfl (w.heap.size+1) (qbC 0 [] 0 0 0) (nbC T 1 V ln cl) rfl rfl (hb5.out.2.1.frm hF7 (fun e=>by omega)) rfl tkI rfl ?_;intro W8 hF8 hB8))
        refine bodyPost_ret (v:=.tuple #[.agg (nbC T 1 V ln cl).toArray,.int .i64 E]) (results_ct rfl rfl (run_loadVar_mid W8 (w.heap.size+1) 0 140 _ _ hB8.rd Tryz.underlying140 rfl tkI) rfl) rfl ?_
        exact NuP.fin HB.out (ext_two hb5.out.2.2.2 hF7 hF8)
      ·rw[if_neg htz]at hZ
       have z0:(tzQ D).isEmpty=false:=by simpa using htz
       have z1:(tzQ D == [])=false:=by simpa using htz
       rw[hZ]at HI0
       clear hZ htz
       cases sg
       ·have HI:∀w',Hid (Calls Tryz.prog 287 #[.string ⟨(tzQ D).toArray⟩] w' _):=fun w'=>HI0 w'
        have hq:T.length≤D.length:=HLT.out.2 rfl
        clear HI0
        go_wp2_with (first
         | (go_at_call 284;(with_reducible refine(HTP _).out.mono ?_);rintro e w3 ⟨rfl,rfl⟩)
         | (go_at_call 286;(with_reducible refine(HTL _).out.mono ?_);rintro e w4 ⟨rfl,rfl⟩)
         | (go_at_call 258;(with_reducible refine(HC _).out.mono ?_);rintro e w3 ⟨rfl,hE3⟩;have hb3:=Lib.hid (HX.out _ hE3);have u3:=hb3.out.1.at 1 _ rfl)
         | (go_at_call 287;(with_reducible refine(HI _).out.mono ?_);rintro e w5 ⟨rfl,hE5⟩;have hb5:=Lib.hid (HX.out _ (hE3.trans hE5)))
             | ((with_reducible show wpList _ _ _ (⟨none,.store _ (.tmp 62) _,_,_,_,_⟩::_) _ _);refine wpl_stn rfl 24 _ _ rfl w.heap.size 2 [.int .i64 2,.string ⟨T.toArray⟩] [.int .i64 0,.int .i64 0,.string ⟨#[]⟩] [.int .i64 ln,.int .i64 cl] [.int .i64 1,.int .i64 V,.string ⟨#[]⟩] rfl rfl hb5.out.1 rfl rfl (by kernel_rfl) rfl ?_;intro W7 hF7 hB7)
             | ((with_reducible show wpList _ _ _ (⟨_,.load _ (.tmp 1),_,_,_,_⟩::_) _ _);refine wpl_load rfl 140 _ rfl w.heap.size 0 rfl (nbC T 1 V ln cl) _ hB7.rd Tryz.underlying140 rfl tkI ?_)
             | ((with_reducible show wpList _ _ _ (⟨none,.store _ (.tmp 2) _,_,_,_,_⟩::_) _ _);refine wpl_st rfl 140 _ _ rfl (w.heap.size+1) (qbC 0 [] 0 0 0) (nbC T 1 V ln cl) rfl rfl (hb5.out.2.1.frm hF7 (fun e=>by omega)) rfl tkI rfl ?_;intro W8 hF8 hB8))
        refine bodyPost_ret (v:=.tuple #[.agg (nbC T 1 V ln cl).toArray,.int .i64 E]) (results_ct rfl rfl (run_loadVar_mid W8 (w.heap.size+1) 0 140 _ _ hB8.rd Tryz.underlying140 rfl tkI) rfl) rfl ?_
        exact NuP.fin HB.out (ext_two hb5.out.2.2.2 hF7 hF8)
       ·have HI:∀w',Hid (Calls Tryz.prog 287 #[.string ((⟨#[45]⟩:ByteArray)++⟨(tzQ D).toArray⟩)] w' fun e w''=>e = .returned (.tuple #[.int .i64 V,.int .i64 E])∧Ext w' w''):=fun w'=>by
         rw[Hid,show(⟨#[45]⟩:ByteArray)++⟨(tzQ D).toArray⟩=⟨(45::tzQ D).toArray⟩from app_str [45] (tzQ D)]
         exact HI0 w'
        have hq:D.length<T.length:=HLT.out.1 rfl
        clear HI0
        go_wp2_with (first
         | (go_at_call 284;(with_reducible refine(HTP _).out.mono ?_);rintro e w3 ⟨rfl,rfl⟩)
         | (go_at_call 286;(with_reducible refine(HTL _).out.mono ?_);rintro e w4 ⟨rfl,rfl⟩)
         | (go_at_call 258;(with_reducible refine(HC _).out.mono ?_);rintro e w3 ⟨rfl,hE3⟩;have hb3:=Lib.hid (HX.out _ hE3);have u3:=hb3.out.1.at 1 _ rfl)
         | (go_at_call 287;(with_reducible refine(HI _).out.mono ?_);rintro e w5 ⟨rfl,hE5⟩;have hb5:=Lib.hid (HX.out _ (hE3.trans hE5)))
             | ((with_reducible show wpList _ _ _ (⟨none,.store _ (.tmp 62) _,_,_,_,_⟩::_) _ _);refine wpl_stn rfl 24 _ _ rfl w.heap.size 2 [.int .i64 2,.string ⟨T.toArray⟩] [.int .i64 0,.int .i64 0,.string ⟨#[]⟩] [.int .i64 ln,.int .i64 cl] [.int .i64 1,.int .i64 V,.string ⟨#[]⟩] rfl rfl hb5.out.1 rfl rfl (by kernel_rfl) rfl ?_;intro W7 hF7 hB7)
             | ((with_reducible show wpList _ _ _ (⟨_,.load _ (.tmp 1),_,_,_,_⟩::_) _ _);refine wpl_load rfl 140 _ rfl w.heap.size 0 rfl (nbC T 1 V ln cl) _ hB7.rd Tryz.underlying140 rfl tkI ?_)
             | ((with_reducible show wpList _ _ _ (⟨none,.store _ (.tmp 2) _,_,_,_,_⟩::_) _ _);refine wpl_st rfl 140 _ _ rfl (w.heap.size+1) (qbC 0 [] 0 0 0) (nbC T 1 V ln cl) rfl rfl (hb5.out.2.1.frm hF7 (fun e=>by omega)) rfl tkI rfl ?_;intro W8 hF8 hB8))
        refine bodyPost_ret (v:=.tuple #[.agg (nbC T 1 V ln cl).toArray,.int .i64 E]) (results_ct rfl rfl (run_loadVar_mid W8 (w.heap.size+1) 0 140 _ _ hB8.rd Tryz.underlying140 rfl tkI) rfl) rfl ?_
        exact NuP.fin HB.out (ext_two hb5.out.2.2.2 hF7 hF8)
end Go.Proofs.YtlmeinikknoeeaaGreatDoor
