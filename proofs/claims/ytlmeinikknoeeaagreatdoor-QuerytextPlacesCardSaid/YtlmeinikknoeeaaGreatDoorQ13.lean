/- The walk of clock.Parse at texts that do not have the form. -/
import Derived.Test.YtlmeinikknoeeaaGreatDoorQ12
namespace Go.Proofs.YtlmeinikknoeeaaGreatDoor
set_option maxRecDepth 100000
set_option maxHeartbeats 2000000
set_option linter.unusedVariables false
set_option linter.unnecessarySimpa false
set_option linter.unusedSimpArgs false
open Go.RowKit
theorem parse_len (l:List UInt8) (w:World) (hl:l.length≠19) (hb:l.length≤9223372036854775807) :
  Calls Tryz.prog 283 #[.string ⟨l.toArray⟩] w fun e w'=>e = .returned (.tuple #[mom0,.int .i64 3])∧Ext w w':=by
 have t1:((l.length:Int) != 19)=true:=by rw[bne_iff_ne];omega
 clear hl
 go_enter Tryz.func283,Tryz.ntmps283
 go_wp2
 refine bodyPost_ret (v:=.tuple #[mom0,.int .i64 3]) ?_ rfl ⟨rfl,?_⟩
 ·simp[results,Tryz.results283,go_sem,mom0]
 ·(repeat (with_reducible (first|assumption|exact Ext.refl _|refine Ext.alloc ?_ _|refine Ext.setCell ?_ (by simp) _|refine Ext.setCell ?_ (by simp;omega) _|refine Ext.drewN ?_ _|refine Ext.drew ?_)))
theorem parse_bad (l:List UInt8) (w:World) (hl:l.length=19) (p:Nat) (hp:p<l.length) (hbad:okAt p l[p]=false) (ho:∀i (hi:i<l.length),i<p→okAt i l[i]=true) :
  Calls Tryz.prog 283 #[.string ⟨l.toArray⟩] w fun e w'=>e = .returned (.tuple #[mom0,.int .i64 3])∧Ext w w':=by
 have Ho:=Lib.hid ho
 have Hbad:=Lib.hid hbad
 clear ho hbad
 go_enter Tryz.func283,Tryz.ntmps283
 go_wp2_with fail
 go_loopw [14] (fun t wr=>∃k:Nat,k≤p∧t = .int .i64 (k:Int)∧∃n,wr=((w.alloc (.cells #[.string ⟨l.toArray⟩] 9)).alloc (.cells #[.int .i64 0,.int .i64 0,.int .i64 0,.int .i64 0,.int .i64 0,.int .i64 0] 181)).drewN n) (fun t _=>p-(intOf t).toNat)
 case atStart=>exact⟨0,by omega,rfl,0,rfl⟩
 case round=>
  obtain⟨k,hk,rfl,n,rfl⟩:=hrel
  by_cases hlt:k<p
  ·have hk19:k<19:=by omega
   obtain⟨c,hcl⟩:∃c,c=l[k]'(by omega):=⟨_,rfl⟩
   have hok:=Ho.out k (by omega) (by omega)
   rw[←hcl]at hok
   have b0:=bget l k (by omega) c hcl
   have hfk:=fm_get k hk19
   by_cases hfm:fmC k=48
   ·rw[okAt_dg hfm,isDg_iff]at hok
    have c1:48≤(c.toNat:Int):=by omega
    have c2:(c.toNat:Int)≤57:=by omega
    have f1:(((fmC k).toNat:Int)==48)=true:=by rw[hfm];rfl
    have f2:(((fmC k).toNat:Int) != 48)=false:=by rw[hfm];rfl
    clear hok hcl hfm
    go_wp2
    go_quiet (fail)
    go_wp2
    go_roundw
    case rel=>exact⟨k+1,by omega,by go_num,_,rfl⟩
    case measure=>simp[intOf];omega
   ·rw[okAt_sep hfm,beq_iff_eq]at hok
    have f1:(((fmC k).toNat:Int)==48)=false:=by
     rw[beq_eq_false_iff_ne];intro e;exact hfm (UInt8.toNat_inj.1 (by show(fmC k).toNat=48;omega))
    have f2:(((fmC k).toNat:Int) != 48)=true:=by
     rw[bne_iff_ne];intro e;exact hfm (UInt8.toNat_inj.1 (by show(fmC k).toNat=48;omega))
    have f3:((c.toNat:Int) != ((fmC k).toNat:Int))=false:=by rw[hok];simp
    clear hok hcl hfm
    by_cases c1:48≤(c.toNat:Int)
    ·by_cases c2:(c.toNat:Int)≤57
     ·go_wp2
      go_quiet (fail)
      go_wp2
      go_roundw
      case rel=>exact⟨k+1,by omega,by go_num,_,rfl⟩
      case measure=>simp[intOf];omega
     ·go_wp2
      go_quiet (fail)
      go_wp2
      go_roundw
      case rel=>exact⟨k+1,by omega,by go_num,_,rfl⟩
      case measure=>simp[intOf];omega
    ·go_wp2
     go_quiet (fail)
     go_wp2
     go_roundw
     case rel=>exact⟨k+1,by omega,by go_num,_,rfl⟩
     case measure=>simp[intOf];omega
  ·obtain rfl:k=p:=by omega
   have hk19:k<19:=by omega
   obtain⟨c,hcl⟩:∃c,c=l[k]:=⟨_,rfl⟩
   have hok:=Hbad.out
   rw[←hcl]at hok
   have b0:=bget l k (by omega) c hcl
   have hfk:=fm_get k hk19
   clear Hbad
   by_cases hfm:fmC k=48
   ·rw[okAt_dg hfm,←Bool.not_eq_true,isDg_iff]at hok
    have f1:(((fmC k).toNat:Int)==48)=true:=by rw[hfm];rfl
    have f2:(((fmC k).toNat:Int) != 48)=false:=by rw[hfm];rfl
    clear hcl hfm
    by_cases c1:48≤(c.toNat:Int)
    ·have c2:¬(c.toNat:Int)≤57:=by omega
     clear hok
     go_wp2
     go_quiet (fail)
     go_wp2
     refine bodyPost_ret (v:=.tuple #[mom0,.int .i64 3]) ?_ rfl ⟨rfl,?_⟩
     ·simp[results,Tryz.results283,go_sem,mom0]
     ·(repeat (with_reducible (first|assumption|exact Ext.refl _|refine Ext.alloc ?_ _|refine Ext.setCell ?_ (by simp) _|refine Ext.setCell ?_ (by simp;omega) _|refine Ext.drewN ?_ _|refine Ext.drew ?_)))
    ·clear hok
     go_wp2
     go_quiet (fail)
     go_wp2
     refine bodyPost_ret (v:=.tuple #[mom0,.int .i64 3]) ?_ rfl ⟨rfl,?_⟩
     ·simp[results,Tryz.results283,go_sem,mom0]
     ·(repeat (with_reducible (first|assumption|exact Ext.refl _|refine Ext.alloc ?_ _|refine Ext.setCell ?_ (by simp) _|refine Ext.setCell ?_ (by simp;omega) _|refine Ext.drewN ?_ _|refine Ext.drew ?_)))
   ·rw[okAt_sep hfm]at hok
    have hok:=(beq_eq_false_iff_ne).1 hok
    have f1:(((fmC k).toNat:Int)==48)=false:=by
     rw[beq_eq_false_iff_ne];intro e;exact hfm (UInt8.toNat_inj.1 (by show(fmC k).toNat=48;omega))
    have f2:(((fmC k).toNat:Int) != 48)=true:=by
     rw[bne_iff_ne];intro e;exact hfm (UInt8.toNat_inj.1 (by show(fmC k).toNat=48;omega))
    have f3:((c.toNat:Int) != ((fmC k).toNat:Int))=true:=by
     rw[bne_iff_ne];intro e;exact hok (UInt8.toNat_inj.1 (by omega))
    clear hok hcl hfm
    by_cases c1:48≤(c.toNat:Int)
    ·by_cases c2:(c.toNat:Int)≤57
     ·go_wp2
      go_quiet (fail)
      go_wp2
      refine bodyPost_ret (v:=.tuple #[mom0,.int .i64 3]) ?_ rfl ⟨rfl,?_⟩
      ·simp[results,Tryz.results283,go_sem,mom0]
      ·(repeat (with_reducible (first|assumption|exact Ext.refl _|refine Ext.alloc ?_ _|refine Ext.setCell ?_ (by simp) _|refine Ext.setCell ?_ (by simp;omega) _|refine Ext.drewN ?_ _|refine Ext.drew ?_)))
     ·go_wp2
      go_quiet (fail)
      go_wp2
      refine bodyPost_ret (v:=.tuple #[mom0,.int .i64 3]) ?_ rfl ⟨rfl,?_⟩
      ·simp[results,Tryz.results283,go_sem,mom0]
      ·(repeat (with_reducible (first|assumption|exact Ext.refl _|refine Ext.alloc ?_ _|refine Ext.setCell ?_ (by simp) _|refine Ext.setCell ?_ (by simp;omega) _|refine Ext.drewN ?_ _|refine Ext.drew ?_)))
    ·go_wp2
     go_quiet (fail)
     go_wp2
     refine bodyPost_ret (v:=.tuple #[mom0,.int .i64 3]) ?_ rfl ⟨rfl,?_⟩
     ·simp[results,Tryz.results283,go_sem,mom0]
     ·(repeat (with_reducible (first|assumption|exact Ext.refl _|refine Ext.alloc ?_ _|refine Ext.setCell ?_ (by simp) _|refine Ext.setCell ?_ (by simp;omega) _|refine Ext.drewN ?_ _|refine Ext.drew ?_)))
theorem parse_n (l:List UInt8) (w:World) (h:¬formL l) (hb:l.length≤9223372036854775807) :
  Calls Tryz.prog 283 #[.string ⟨l.toArray⟩] w fun e w'=>e = .returned (.tuple #[mom0,.int .i64 3])∧Ext w w':=by
 by_cases hl:l.length=19
 ·obtain⟨p,hp,h1,h2⟩:=first_bad hl h
  exact parse_bad l w hl p hp h1 h2
 ·exact parse_len l w hl hb
end Go.Proofs.YtlmeinikknoeeaaGreatDoor
