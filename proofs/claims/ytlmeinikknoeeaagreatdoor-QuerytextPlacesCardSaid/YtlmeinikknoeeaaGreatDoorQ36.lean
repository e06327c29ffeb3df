/- Queries, plainly: no error of the parser is 0. -/
import Derived.Test.YtlmeinikknoeeaaGreatDoorQ02
namespace Go.Proofs.YtlmeinikknoeeaaGreatDoor
set_option linter.unusedVariables false
set_option linter.unnecessarySimpa false
set_option linter.unusedSimpArgs false
def Rs.nz {α:Type}:Rs α→Prop
 | .ok _ _=>True
 | .bad _ _ e=>e≠0
theorem bind_nz {α β:Type} {r:Rs α} {f:α→Nat→Rs β} (h:r.nz) (hf:∀a i,(f a i).nz):(r.bind f).nz:=by
 cases r with
 | ok a i=>exact hf a i
 | bad l c e=>exact h
section
variable {L:List TkD}
theorem wr_nz {α:Type} (e:Int) (i:Nat) (he:e≠0):(wrP L e i:Rs α).nz:=by
 unfold wrP
 split
 ·exact he
 ·show(4:Int)≠0
  decide
theorem pk_nz (i:Nat):(pkP L i).nz:=by
 unfold pkP
 split
 ·trivial
 ·show(4:Int)≠0
  decide
theorem ex_nz (s:List UInt8) (i:Nat):(exP L s i).nz:=by
 unfold exP
 split
 ·trivial
 ·exact wr_nz _ _ (by decide)
theorem na_nz (i:Nat):(naP L i).nz:=by
 unfold naP
 repeat' (first|exact trivial|exact wr_nz _ _ (by decide)|exact pk_nz _|exact ex_nz _ _|assumption|fail|refine bind_nz ?_ (fun _ _=>?_)|split)
theorem nasL_nz:∀(f:Nat) (acc:List (List UInt8)) (i:Nat),(nasL L f acc i).nz
 | 0,acc,i=>trivial
 | f+1,acc,i=>by
   unfold nasL
   repeat' (first|exact trivial|exact wr_nz _ _ (by decide)|exact pk_nz _|exact ex_nz _ _|assumption|(first|exact na_nz _|exact nasL_nz f _ _)|refine bind_nz ?_ (fun _ _=>?_)|split)
theorem nas_nz (i:Nat):(nasP L i).nz:=by
 unfold nasP
 repeat' (first|exact trivial|exact wr_nz _ _ (by decide)|exact pk_nz _|exact ex_nz _ _|assumption|(first|exact na_nz _|exact nasL_nz _ _ _)|refine bind_nz ?_ (fun _ _=>?_)|split)
theorem tm_nz (i:Nat):(tmP L i).nz:=by
 unfold tmP
 repeat' (first|exact trivial|exact wr_nz _ _ (by decide)|exact pk_nz _|exact ex_nz _ _|assumption|fail|refine bind_nz ?_ (fun _ _=>?_)|split)
theorem chL_nz {w:List UInt8} {k:Int} {op:Nat→Rs (Tr CdD)} (ho:∀i,(op i).nz):∀(f:Nat) (c:Tr CdD) (i:Nat),(chL L w k op f c i).nz
 | 0,c,i=>trivial
 | f+1,c,i=>by
   unfold chL
   repeat' (first|exact trivial|exact wr_nz _ _ (by decide)|exact pk_nz _|exact ex_nz _ _|assumption|(first|exact ho _|exact chL_nz ho f _ _)|refine bind_nz ?_ (fun _ _=>?_)|split)
theorem ch_nz {w:List UInt8} {k:Int} {op:Nat→Rs (Tr CdD)} (ho:∀i,(op i).nz) (i:Nat):(chP L w k op i).nz:=by
 unfold chP
 exact bind_nz (ho i) (fun _ _=>chL_nz ho _ _ _)
theorem rh_nz (k:Int) (col:List UInt8) (i:Nat):(rhP L k col i).nz:=by
 unfold rhP
 repeat' (first|exact trivial|exact wr_nz _ _ (by decide)|exact pk_nz _|exact ex_nz _ _|assumption|(exact na_nz _)|refine bind_nz ?_ (fun _ _=>?_)|split)
theorem cm_nz (i:Nat):(cmP L i).nz:=by
 unfold cmP
 repeat' (first|exact trivial|exact wr_nz _ _ (by decide)|exact pk_nz _|exact ex_nz _ _|assumption|(first|exact na_nz _|exact rh_nz _ _ _)|refine bind_nz ?_ (fun _ _=>?_)|split)
theorem un_nz:∀(k i:Nat),(unP L k i).nz
 | 0,i=>by
   unfold unP
   repeat' (first|exact trivial|exact wr_nz _ _ (by decide)|exact pk_nz _|exact ex_nz _ _|assumption|(exact cm_nz _)|refine bind_nz ?_ (fun _ _=>?_)|split)
 | k+1,i=>by
   unfold unP
   repeat' (first|exact trivial|exact wr_nz _ _ (by decide)|exact pk_nz _|exact ex_nz _ _|assumption|(first|exact cm_nz _|exact un_nz k _|exact ch_nz (ch_nz (un_nz k)) _)|refine bind_nz ?_ (fun _ _=>?_)|split)
theorem cd_nz (k i:Nat):(cdP L k i).nz:=by
 unfold cdP
 exact ch_nz (ch_nz (un_nz k)) i
theorem of_nz {qp:Nat→Rs (Tr QnD)} (hq:∀i,(qp i).nz) (i:Nat):(ofP L qp i).nz:=by
 unfold ofP
 repeat' (first|exact trivial|exact wr_nz _ _ (by decide)|exact pk_nz _|exact ex_nz _ _|assumption|(exact hq _)|refine bind_nz ?_ (fun _ _=>?_)|split)
theorem pr_nz {qp:Nat→Rs (Tr QnD)} (hq:∀i,(qp i).nz) (i:Nat):(prP L qp i).nz:=by
 unfold prP
 repeat' (first|exact trivial|exact wr_nz _ _ (by decide)|exact pk_nz _|exact ex_nz _ _|assumption|(exact hq _)|refine bind_nz ?_ (fun _ _=>?_)|split)
theorem rn_nz:∀(f:Nat) (cs ns:List (List UInt8)) (i:Nat),(rnL L f cs ns i).nz
 | 0,cs,ns,i=>trivial
 | f+1,cs,ns,i=>by
   unfold rnL
   repeat' (first|exact trivial|exact wr_nz _ _ (by decide)|exact pk_nz _|exact ex_nz _ _|assumption|(first|exact na_nz _|exact rn_nz f _ _ _)|refine bind_nz ?_ (fun _ _=>?_)|split)
theorem rl_nz:∀(f r i:Nat),(rlL L f r i).nz
 | 0,r,i=>trivial
 | f+1,r,i=>by
   rw[rlL]
   refine bind_nz (pk_nz _) (fun t i=>?_)
   split
   ·exact wr_nz _ _ (by decide)
   ·split
    ·exact rl_nz f _ _
    ·trivial
theorem gr_nz (i:Nat):(grP L i).nz:=by
 unfold grP
 repeat' (first|exact trivial|exact wr_nz _ _ (by decide)|exact pk_nz _|exact ex_nz _ _|assumption|(first|exact na_nz _|exact nas_nz _)|refine bind_nz ?_ (fun _ _=>?_)|split)
theorem bd_nz {qp:Nat→Rs (Tr QnD)} (hq:∀i,(qp i).nz) (k:Int) (i:Nat):(bdP L qp k i).nz:=by
 unfold bdP
 repeat' (first|exact trivial|exact wr_nz _ _ (by decide)|exact pk_nz _|exact ex_nz _ _|assumption|(first|exact na_nz _|exact nas_nz _|exact cd_nz _ _|exact of_nz hq _|exact pr_nz hq _|exact rn_nz _ _ _ _|exact rl_nz _ _ _|exact gr_nz _|exact tm_nz _)|refine bind_nz ?_ (fun _ _=>?_)|split)
theorem qr_nz:∀(k i:Nat),(qrP L k i).nz
 | 0,i=>by
   unfold qrP
   repeat' (first|exact trivial|exact wr_nz _ _ (by decide)|exact pk_nz _|exact ex_nz _ _|assumption|fail|refine bind_nz ?_ (fun _ _=>?_)|split)
 | k+1,i=>by
   unfold qrP
   repeat' (first|exact trivial|exact wr_nz _ _ (by decide)|exact pk_nz _|exact ex_nz _ _|assumption|(exact bd_nz (qr_nz k) _ _)|refine bind_nz ?_ (fun _ _=>?_)|split)
theorem al_nz {α:Type} {r:Rs α} (h:r.nz):(alP L r).nz:=by
 unfold alP
 refine bind_nz h (fun a i=>?_)
 split
 ·exact wr_nz _ _ (by decide)
 ·trivial
end
end Go.Proofs.YtlmeinikknoeeaaGreatDoor
