/- The walks of package civil and of its reference, as far as this seat reaches them: validity and the number of a date's day. -/
import Derived.Test.YtlmeinikknoeeaaGreatDoorQ08
namespace Go.Proofs.YtlmeinikknoeeaaGreatDoor
set_option maxHeartbeats 1000000
open Go.RowKit
theorem rlength_c (y m:Int) (w:World):Calls Tryz.prog 275 #[.int .i64 y,.int .i64 m] w fun e w'=>e = .returned (.int .i64 (mlen y m))∧w=w':=by
 by_cases hy:1≤y∧y≤9999
 ·obtain⟨h1,h2⟩:=hy
  by_cases hm:1≤m∧m≤12
  ·obtain⟨g1,g2⟩:=hm
   rcases m12 g1 g2 with rfl|rfl|rfl|rfl|rfl|rfl|rfl|rfl|rfl|rfl|rfl|rfl
   case inr.inl=>
    rcases Bool.eq_false_or_eq_true (lpB y)with hl|hl
    all_goals
     have Hl:Hid (mlen y 2=if lpB y then 29 else 28):=by simp[Hid,mlen,lp,hl,h1,h2]
     have H2:=Lib.hid hl
     go_enter Tryz.func275,Tryz.ntmps275
     go_wp2_with (go_at_call 306;refine(rleap_c _ _ h1 h2).mono ?_;rintro e w' ⟨rfl,rfl⟩)
     go_ret
     exact⟨ret_i (by rw[Hl.out,H2.out];rfl),rfl⟩
   all_goals
    go_enter Tryz.func275,Tryz.ntmps275
    go_wp2
    go_ret
    exact⟨ret_i (by simp[mlen,h1,h2]),rfl⟩
  ·have Hz:=Lib.hid (mlen_zero y m (by omega))
   by_cases g1:m<1
   all_goals
    go_enter Tryz.func275,Tryz.ntmps275
    go_wp2
    go_ret
    exact⟨ret_i Hz.out.symm,rfl⟩
 ·have Hz:=Lib.hid (mlen_zero y m (by omega))
  by_cases g1:y<1
  ·have d1:decide (y<1)=true:=by simp;omega
   go_enter Tryz.func275,Tryz.ntmps275
   go_wp2
   go_ret
   exact⟨ret_i Hz.out.symm,rfl⟩
  ·have d1:decide (y<1)=false:=by simp;omega
   have d2:decide (9999<y)=true:=by simp;omega
   go_enter Tryz.func275,Tryz.ntmps275
   go_wp2
   go_ret
   exact⟨ret_i Hz.out.symm,rfl⟩
theorem vld_no1 {y m d:Int} (h:¬1≤d):vldB y m d=false:=by unfold vldB;simp;omega
theorem vld_eq {y m d:Int} (h:1≤d):vldB y m d=decide (d≤mlen y m):=by
 unfold vldB
 rw[Bool.eq_iff_iff];simp;omega
theorem valid_c (y m d:Int) (w:World):Calls Tryz.prog 301 #[.agg #[.int .i64 y,.int .i64 m,.int .i64 d]] w fun e w'=>e = .returned (.bool (vldB y m d))∧Ext w w':=by
 by_cases h:1≤d
 ·rw[vld_eq h]
  go_enter Tryz.func301,Tryz.ntmps301
  go_wp2
  go_quiet ((go_at_call 319;exact quiet_of0 ((length_c _ _ _).mono fun _ _ ⟨a,b⟩=>⟨a,0,b⟩)))
  go_wp2
  go_ret
  exact⟨rfl,((Ext.refl w).alloc _).drewN _⟩
 ·rw[vld_no1 h]
  have hd:decide (1≤d)=false:=by simp;omega
  go_enter Tryz.func301,Tryz.ntmps301
  go_wp2
  go_quiet (fail)
  go_wp2
  go_ret
  exact⟨rfl,((Ext.refl w).alloc _).drewN _⟩
theorem rvalid_c (y m d:Int) (w:World):Calls Tryz.prog 271 #[.agg #[.int .i64 y,.int .i64 m,.int .i64 d]] w fun e w'=>e = .returned (.bool (vldB y m d))∧Ext w w':=by
 by_cases h:1≤d
 ·rw[vld_eq h]
  go_enter Tryz.func271,Tryz.ntmps271
  go_wp2
  go_quiet ((go_at_call 275;exact quiet_of0 ((rlength_c _ _ _).mono fun _ _ ⟨a,b⟩=>⟨a,0,b⟩)))
  go_wp2
  go_ret
  exact⟨rfl,((Ext.refl w).alloc _).drewN _⟩
 ·rw[vld_no1 h]
  have hd:decide (1≤d)=false:=by simp;omega
  go_enter Tryz.func271,Tryz.ntmps271
  go_wp2
  go_quiet (fail)
  go_wp2
  go_ret
  exact⟨rfl,((Ext.refl w).alloc _).drewN _⟩
theorem count_c (y m d:Int) (w:World) (h1:1≤y) (h2:y≤10000) (g1:1≤m) (g2:m≤12) (k1:1≤d) (k2:d≤31) :
  Calls Tryz.prog 297 #[.int .i64 y,.int .i64 m,.int .i64 d] w fun e w'=>e = .returned (.int .i64 (dn y m d))∧w=w':=by
 rw[←cnt_eq y m d g1 g2]
 by_cases hm:m≤2
 ·have Hc:Hid (cnt y m d=_):=Lib.hid (if_pos hm)
  go_enter Tryz.func297,Tryz.ntmps297
  go_wp2
  go_ret
  exact⟨ret_i (by rw[Hc.out]),rfl⟩
 ·have Hc:Hid (cnt y m d=_):=Lib.hid (if_neg hm)
  go_enter Tryz.func297,Tryz.ntmps297
  go_wp2
  go_ret
  exact⟨ret_i (by rw[Hc.out]),rfl⟩
def insB (n:Int):Bool:=decide (-719162≤n∧n<2932897)
theorem inside_c (n:Int) (w:World):Calls Tryz.prog 296 #[.int .i64 n] w fun e w'=>e = .returned (.bool (insB n))∧w=w':=by
 unfold insB
 by_cases h1 : -719162≤n
 ·have d1:decide (-719162≤n)=true:=by simp;omega
  by_cases h2:n<2932897
  all_goals
   go_enter Tryz.func296,Tryz.ntmps296
   go_wp2
   go_ret
   exact⟨ret_b (by simp[h1,h2]),rfl⟩
 ·have d1:decide (-719162≤n)=false:=by simp;omega
  go_enter Tryz.func296,Tryz.ntmps296
  go_wp2
  go_ret
  exact⟨ret_b (by simp),rfl⟩
end Go.Proofs.YtlmeinikknoeeaaGreatDoor
namespace Go.Proofs.YtlmeinikknoeeaaGreatDoor
set_option maxHeartbeats 1000000
open Go.RowKit
theorem day_yes (y m d:Int) (w:World) (hv:vldB y m d=true):Calls Tryz.prog 298 #[.agg #[.int .i64 y,.int .i64 m,.int .i64 d]] w fun e w'=>e = .returned (.tuple #[.int .i64 (dn y m d),.int .i64 0])∧Ext w w':=by
 obtain⟨a,b,c,f,g,i,_⟩:=vld_parts hv
 go_enter Tryz.func298,Tryz.ntmps298
 go_wp2_with (first
  | (go_at_call 301;refine(valid_c _ _ _ _).mono ?_;rintro e w1 ⟨rfl,hE⟩;have hc:=hE.cells)
  | (go_at_call 297;refine(count_c _ _ _ _ a (by omega) c f g i).mono ?_;rintro e w2 ⟨rfl,rfl⟩))
 go_ret2
 exact⟨rfl,((Ext.refl w).alloc _).trans hE⟩
theorem day_no (y m d:Int) (w:World) (hv:vldB y m d=false):Calls Tryz.prog 298 #[.agg #[.int .i64 y,.int .i64 m,.int .i64 d]] w fun e w'=>e = .returned (.tuple #[.int .i64 0,.int .i64 1])∧Ext w w':=by
 go_enter Tryz.func298,Tryz.ntmps298
 go_wp2_with (go_at_call 301;refine(valid_c _ _ _ _).mono ?_;rintro e w1 ⟨rfl,hE⟩)
 go_ret2
 exact⟨rfl,((Ext.refl w).alloc _).trans hE⟩
theorem yearday_yes (y m d:Int) (w:World) (hv:vldB y m d=true):Calls Tryz.prog 317 #[.agg #[.int .i64 y,.int .i64 m,.int .i64 d]] w fun e w'=>e = .returned (.int .i64 (cum y m+d))∧Ext w w':=by
 obtain⟨a,b,c,f,g,i,_⟩:=vld_parts hv
 go_enter Tryz.func317,Tryz.ntmps317
 go_wp2_with (first
  | (go_at_call 271;refine(rvalid_c _ _ _ _).mono ?_;rintro e w1 ⟨rfl,hE⟩;have hc:=hE.cells))
 go_loop [3,4] (fun n k=>∃j:Int,1≤j∧j≤m∧k = .int .i64 j∧n = .int .i64 (cum y j+d)) (fun _ k=>(m-intOf k).toNat)
 case atStart=>exact⟨1,by omega,by omega,rfl,by rw[cum1];simp⟩
 case round=>
  obtain⟨j,hj1,hj2,rfl,rfl⟩:=hrel
  have hb:=cum_bd y j hj1 (by omega)
  have hl:=mlen_bd y j
  have hp:=lp_01 y
  by_cases hlt:j<m
  ·have Hs:=Lib.hid (cum_succ y j a b hj1 (by omega))
   go_wp2_with (first|(go_at_call 275;refine(rlength_c _ _ _).mono ?_;rintro e w2 ⟨rfl,rfl⟩))
   go_round
   case rel=>exact⟨j+1,by omega,by omega,rfl,by rw[Hs.out];congr 1;omega⟩
   case measure=>simp[intOf];omega
  ·obtain rfl:j=m:=by omega
   go_wp2
   go_ret
   exact⟨rfl,((Ext.refl w).alloc _).trans hE⟩
theorem guess (n:Int) (h1 : -719162≤n) (h2:n<2932897):yd ((n+719162)/366+1)≤n:=by unfold yd;omega
theorem date_yes (n:Int) (w:World) (h:insB n=true) :
  Calls Tryz.prog 262 #[.int .i64 n] w fun e w'=>∃y m d:Int,e = .returned (.tuple #[.agg #[.int .i64 y,.int .i64 m,.int .i64 d],.int .i64 0])∧IsDate n y m d∧Ext w w':=by
 have hn : -719162≤n∧n<2932897:=by simpa [insB] using h
 obtain⟨n1,n2⟩:=hn
 have g0:=Lib.hid (guess n n1 n2)
 have hdiv:(n+719162)/366≤9998:=by omega
 have hdiv0:0≤(n+719162)/366:=by omega
 go_enter Tryz.func262,Tryz.ntmps262
 go_wp2_with (go_at_call 296;refine(inside_c _ _).mono ?_;rintro e w1 ⟨rfl,rfl⟩)
 go_loop [4] (fun t=>∃y:Int,1≤y∧y≤9999∧yd y≤n∧t = .int .i64 y) (fun t=>(9999-intOf t).toNat)
 case atStart=>exact⟨_,by omega,by omega,g0.out,rfl⟩
 case round=>
  obtain⟨y,hy1,hy2,hy3,rfl⟩:=hrel
  have hb:=yd_bd (y+1) (by omega) (by omega)
  have Hf:Hid (∀z,dn z 1 1=yd z):=by intro z;unfold dn;rw[cum1];omega
  by_cases hc:y<9999∧yd (y+1)≤n
  ·obtain⟨hlt,hd⟩:=hc
   go_wp2_with (go_at_call 297;refine(count_c _ _ _ _ (by omega) (by omega) (by omega) (by omega) (by omega) (by omega)).mono ?_;rintro e w' ⟨rfl,rfl⟩;rw[Hf.out])
   go_round
   case rel=>exact⟨y+1,by omega,by omega,hd,rfl⟩
   case measure=>simp[intOf];omega
  ·have hz:n<yd (y+1):=by
    by_cases e:y=9999
    ·subst e;have:yd (9999+1)=2932897:=by decide
     omega
    ·omega
   have hs:=yd_succ y
   have hl:=lp_01 y
   have Hs:=Lib.hid hs
   clear hc hs
   by_cases hlt:y<9999
   all_goals
    go_wp2_with (go_at_call 297;refine(count_c _ _ _ _ (by omega) (by omega) (by omega) (by omega) (by omega) (by omega)).mono ?_;rintro e w' ⟨rfl,rfl⟩;rw[Hf.out])
    go_loop [5] (fun k=>∃m:Int,1≤m∧m≤12∧k = .int .i64 m∧yd y+cum y m≤n) (fun k=>(12-intOf k).toNat)
    case atStart=>exact⟨1,by omega,by omega,rfl,by rw[cum1];omega⟩
    case round=>
     obtain⟨m,hm1,hm2,rfl,hr⟩:=hrel
     have Hg:Hid (∀z,dn y z 1=yd y+cum y z):=by intro z;unfold dn;omega
     have cb:=cum_bd y m hm1 (by omega)
     have yb:=yd_bd y (by omega) (by omega)
     by_cases hc:m<12∧yd y+cum y (m+1)≤n
     ·obtain⟨hm,hd⟩:=hc
      go_wp2_with (go_at_call 297;refine(count_c _ _ _ _ (by omega) (by omega) (by omega) (by omega) (by omega) (by omega)).mono ?_;rintro e w' ⟨rfl,rfl⟩;rw[Hg.out])
      go_round
      case rel=>exact⟨m+1,by omega,by omega,rfl,hd⟩
      case measure=>simp[intOf];omega
     ·have hv:n<yd y+cum y (m+1):=by
       by_cases e:m=12
       ·subst e;have:=cum13 y;have:=Hs.out;rw[show (12:Int)+1=13 from rfl];omega
       ·omega
      have Hr:=Lib.hid (IsDate.of hy1 hy2 hm1 hm2 hr hv)
      clear hc
      by_cases hm:m<12
      all_goals
       go_wp2_with (go_at_call 297;refine(count_c _ _ _ _ (by omega) (by omega) (by omega) (by omega) (by omega) (by omega)).mono ?_;rintro e w' ⟨rfl,rfl⟩;rw[Hg.out])
       exact bodyPost_ret (v:=.tuple #[.agg #[.int .i64 y,.int .i64 m,.int .i64 (n-(yd y+cum y m)+1)],.int .i64 0]) (by simp[results,Tryz.results262,go_sem]) rfl ⟨y,m,_,rfl,Hr.out,((Ext.refl w).alloc _)⟩
end Go.Proofs.YtlmeinikknoeeaaGreatDoor
namespace Go.Proofs.YtlmeinikknoeeaaGreatDoor
open Go.RowKit
end Go.Proofs.YtlmeinikknoeeaaGreatDoor
namespace Go.Proofs.YtlmeinikknoeeaaGreatDoor
set_option maxHeartbeats 400000
open Go.RowKit
def tmB (h m s:Int):Bool:=decide (0≤h∧h≤23∧0≤m∧m≤59∧0≤s∧s≤59)
def secs (h m s:Int):Int:=3600*h+60*m+s
def sdB (s:Int):Bool:=decide (0≤s∧s<86400)
def insT (t:Int):Bool:=decide (-62135596800≤t∧t<253402300800)
theorem tm_iff {h m s:Int}:tmB h m s=true↔0≤h∧h≤23∧0≤m∧m≤59∧0≤s∧s≤59:=by unfold tmB;simp
theorem tm_no {h m s:Int} (q:tmB h m s=false):¬(0≤h∧h≤23∧0≤m∧m≤59∧0≤s∧s≤59):=by
 intro k
 rw[tm_iff.2 k]at q
 cases q
theorem ins_iff {n:Int}:insB n=true↔-719162≤n∧n<2932897:=by unfold insB;simp
theorem insT_iff {n:Int}:insT n=true↔-62135596800≤n∧n<253402300800:=by unfold insT;simp
theorem sd_iff {n:Int}:sdB n=true↔0≤n∧n<86400:=by unfold sdB;simp
theorem seconds_yes (h m s:Int) (w:World) (hv:tmB h m s=true):Calls Tryz.prog 299 #[.agg #[.int .i64 h,.int .i64 m,.int .i64 s]] w fun e w'=>e = .returned (.tuple #[.int .i64 (secs h m s),.int .i64 0])∧Ext w w':=by
 obtain⟨a,b,c,d,f,g⟩:=tm_iff.1 hv
 unfold secs
 go_enter Tryz.func299,Tryz.ntmps299
 go_wp2
 go_ret2
 exact⟨rfl,(Ext.refl w).alloc _⟩
theorem seconds_no (h m s:Int) (w:World) (hv:tmB h m s=false):Calls Tryz.prog 299 #[.agg #[.int .i64 h,.int .i64 m,.int .i64 s]] w fun e w'=>e = .returned (.tuple #[.int .i64 0,.int .i64 1])∧Ext w w':=by
 have Hn:=Lib.hid (tm_no hv)
 go_enter Tryz.func299,Tryz.ntmps299
 go_wp2
 all_goals first
  | (go_ret2
     exact⟨rfl,(Ext.refl w).alloc _⟩)
  | (exfalso;have:=Hn.out;first|omega|(simp_all;done)|(simp_all;omega))
theorem time_yes (s:Int) (w:World) (hv:sdB s=true):Calls Tryz.prog 263 #[.int .i64 s] w fun e w'=>e = .returned (.tuple #[.agg #[.int .i64 (s/3600),.int .i64 (s/60%60),.int .i64 (s%60)],.int .i64 0])∧Ext w w':=by
 obtain⟨a,b⟩:=sd_iff.1 hv
 have:0≤s/60:=by omega
 go_enter Tryz.func263,Tryz.ntmps263
 go_wp2
 exact bodyPost_ret (v:=.tuple #[.agg #[.int .i64 (s/3600),.int .i64 (s/60%60),.int .i64 (s%60)],.int .i64 0]) (by simp[results,Tryz.results263,go_sem]) rfl ⟨rfl,((Ext.refl w).alloc _)⟩
theorem at_yes (n s:Int) (w:World) (h1:insB n=true) (h2:sdB s=true):Calls Tryz.prog 300 #[.int .i64 n,.int .i64 s] w fun e w'=>e = .returned (.tuple #[.int .i64 (86400*n+s),.int .i64 0])∧w=w':=by
 obtain⟨a,b⟩:=ins_iff.1 h1
 obtain⟨c,d⟩:=sd_iff.1 h2
 go_enter Tryz.func300,Tryz.ntmps300
 go_wp2
 go_ret2
 exact⟨ret_i2 (by omega) rfl,rfl⟩
theorem split_yes (t:Int) (w:World) (h:insT t=true):Calls Tryz.prog 261 #[.int .i64 t] w fun e w'=>e = .returned (.tuple #[.int .i64 (t/86400),.int .i64 (t%86400),.int .i64 0])∧∃n,w.drewN n=w':=by
 obtain⟨a,b⟩:=insT_iff.1 h
 go_enter Tryz.func261,Tryz.ntmps261
 go_wp2_with (go_at_call 295;refine(Div_c _ _ _ (by omega) (by omega) (by omega) (by omega)).mono ?_;rintro e w' ⟨rfl,nq,rfl⟩)
 go_ret3
 exact⟨rfl,_,rfl⟩
end Go.Proofs.YtlmeinikknoeeaaGreatDoor
namespace Go.Proofs.YtlmeinikknoeeaaGreatDoor
set_option maxHeartbeats 1000000
open Go.RowKit
def inst (y m d h mi s:Int):Int:=86400*dn y m d+secs h mi s
theorem secs_bd {h m s:Int} (q:tmB h m s=true):0≤secs h m s∧secs h m s<86400:=by
 have:=tm_iff.1 q
 unfold secs;omega
theorem sd_of_tm {h m s:Int} (q:tmB h m s=true):sdB (secs h m s)=true:=sd_iff.2 (secs_bd q)
theorem ins_of_vld {y m d:Int} (h:vldB y m d=true):insB (dn y m d)=true:=ins_iff.2 (dn_bd h)
theorem of_yes (y m d h mi s:Int) (w:World) (hv:vldB y m d=true) (ht:tmB h mi s=true) :
  Calls Tryz.prog 264 #[.agg #[.int .i64 y,.int .i64 m,.int .i64 d,.int .i64 h,.int .i64 mi,.int .i64 s]] w fun e w'=>e = .returned (.tuple #[.int .i64 (inst y m d h mi s),.int .i64 0])∧Ext w w':=by
 go_enter Tryz.func264,Tryz.ntmps264
 go_wp2_with (first
  | (go_at_call 298;refine(day_yes _ _ _ _ hv).mono ?_;rintro e w1 ⟨rfl,hE⟩;have hc:=hE.cells;have hz:=hE.size)
  | (go_at_call 299;refine(seconds_yes _ _ _ _ ht).mono ?_;rintro e w2 ⟨rfl,hE2⟩)
  | (go_at_call 300;refine(at_yes _ _ _ (ins_of_vld hv) (sd_of_tm ht)).mono ?_;rintro e w3 ⟨rfl,rfl⟩))
 go_ret2
 exact⟨rfl,(((Ext.refl w).alloc _).trans hE).trans hE2⟩
theorem of_no (y m d h mi s:Int) (w:World) (hv:¬(vldB y m d=true∧tmB h mi s=true)) :
  Calls Tryz.prog 264 #[.agg #[.int .i64 y,.int .i64 m,.int .i64 d,.int .i64 h,.int .i64 mi,.int .i64 s]] w fun e w'=>e = .returned (.tuple #[.int .i64 0,.int .i64 1])∧Ext w w':=by
 rcases Bool.eq_false_or_eq_true (vldB y m d)with h1|h1
 ·have ht:tmB h mi s=false:=by simpa [h1] using hv
  clear hv
  go_enter Tryz.func264,Tryz.ntmps264
  go_wp2_with (first
   | (go_at_call 298;refine(day_yes _ _ _ _ h1).mono ?_;rintro e w1 ⟨rfl,hE⟩;have hc:=hE.cells;have hz:=hE.size)
   | (go_at_call 299;refine(seconds_no _ _ _ _ ht).mono ?_;rintro e w2 ⟨rfl,hE2⟩))
  go_ret2
  exact⟨rfl,(((Ext.refl w).alloc _).trans hE).trans hE2⟩
 ·clear hv
  rcases Bool.eq_false_or_eq_true (tmB h mi s)with ht|ht
  ·go_enter Tryz.func264,Tryz.ntmps264
   go_wp2_with (first
    | (go_at_call 298;refine(day_no _ _ _ _ h1).mono ?_;rintro e w1 ⟨rfl,hE⟩;have hc:=hE.cells;have hz:=hE.size)
    | (go_at_call 299;refine(seconds_yes _ _ _ _ ht).mono ?_;rintro e w2 ⟨rfl,hE2⟩))
   go_ret2
   exact⟨rfl,(((Ext.refl w).alloc _).trans hE).trans hE2⟩
  ·go_enter Tryz.func264,Tryz.ntmps264
   go_wp2_with (first
    | (go_at_call 298;refine(day_no _ _ _ _ h1).mono ?_;rintro e w1 ⟨rfl,hE⟩;have hc:=hE.cells;have hz:=hE.size)
    | (go_at_call 299;refine(seconds_no _ _ _ _ ht).mono ?_;rintro e w2 ⟨rfl,hE2⟩))
   go_ret2
   exact⟨rfl,(((Ext.refl w).alloc _).trans hE).trans hE2⟩
theorem split_sd (t:Int):sdB (t%86400)=true:=sd_iff.2 (by omega)
theorem split_ins {t:Int} (h:insT t=true):insB (t/86400)=true:=by
 have:=insT_iff.1 h
 exact ins_iff.2 (by omega)
def momv (t y m d:Int):Value:=.agg #[.int .i64 y,.int .i64 m,.int .i64 d,.int .i64 (t%86400/3600),.int .i64 (t%86400/60%60),.int .i64 (t%86400%60)]
theorem moment_yes (t:Int) (w:World) (h:insT t=true) :
  Calls Tryz.prog 205 #[.int .i64 t] w fun e w'=>∃y m d:Int,e = .returned (.tuple #[momv t y m d,.int .i64 0])∧IsDate (t/86400) y m d∧Ext w w':=by
 go_enter Tryz.func205,Tryz.ntmps205
 go_wp2_with (first
  | (go_at_call 261;refine(split_yes _ _ h).mono ?_;rintro e w1 ⟨rfl,nq,rfl⟩)
  | (go_at_call 262;refine(date_yes _ _ (split_ins h)).mono ?_;rintro e w2 ⟨y,m,d,rfl,hD,hE⟩;have hc:=hE.cells;have hf:=hE.frozens;have hz:w.heap.size<w2.heap.size:=(by have:=hE.size;simp at this;omega))
  | (go_at_call 263;refine(time_yes _ _ (split_sd t)).mono ?_;rintro e w3 ⟨rfl,hE2⟩;have hc2:=hE2.cells;have hf2:=hE2.frozens;have hz2:w2.heap.size<w3.heap.size:=(by have:=hE2.size;simp at this;omega);have hz3:w.heap.size<w3.heap.size:=(by omega)))
 have c0:∀o,w3.cell? ⟨w.heap.size,o,none⟩=(#[.int .i64 0,.int .i64 0,.int .i64 0,.int .i64 0,.int .i64 0,.int .i64 0]:Array Value)[o]? :=by
  intro o
  rw[hc2 _ _ (by simp;omega),World.cell?_alloc_lt _ _ _ hz,hc _ _ (by simp)]
  exact World.cell?_alloc_new _ _ _ _
 refine bodyPost_ret (v:=.tuple #[momv t y m d,.int .i64 0]) ?_ rfl ⟨y,m,d,rfl,hD,?_⟩
 ·simp[results,Tryz.results205,go_sem,momv,c0,hz3]
 ·refine Ext.alloc ?_ _
  iterate 6 refine Ext.setCell ?_ (by simp) _
  exact(((Ext.refl w).alloc _).drewN _).trans (hE.trans (((Ext.refl _).alloc _).trans hE2))
end Go.Proofs.YtlmeinikknoeeaaGreatDoor
