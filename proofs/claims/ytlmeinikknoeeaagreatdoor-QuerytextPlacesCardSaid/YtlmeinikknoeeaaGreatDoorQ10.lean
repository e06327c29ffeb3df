/- The walk of integer.Text: a decimal text with at least so many digits. -/
import Derived.Test.YtlmeinikknoeeaaGreatDoorQ08
import Derived.Test.YtlmeinikknoeeaaGreatDoorQ02
import Derived.Laws.BytesString
import Derived.Laws.IdiomStrings
namespace Go.Proofs.YtlmeinikknoeeaaGreatDoor
set_option maxRecDepth 100000
set_option maxHeartbeats 1000000
open Go.RowKit
def itxI (n:Int) (k:Nat):List UInt8:=if n<0 then 45::itx n.natAbs k else itx n.natAbs k
theorem size_nn (n:Int) (w:World) (h:0≤n) (h2:n≤9223372036854775807):Calls Tryz.prog 260 #[.int .i64 n] w fun e w'=>e = .returned (.int .u64 n)∧w=w':=by
 go_enter Tryz.func260,Tryz.ntmps260
 go_wp2
 go_ret
 exact⟨ret_i (by first|rfl|(simp[IntKind.wrap];omega)),rfl⟩
theorem size_neg (n:Int) (w:World) (h:n<0) (h2 : -9223372036854775808≤n):Calls Tryz.prog 260 #[.int .i64 n] w fun e w'=>e = .returned (.int .u64 (-n))∧w=w':=by
 go_enter Tryz.func260,Tryz.ntmps260
 go_wp2
 go_ret
 exact⟨ret_i (by simp only[IntKind.wrap];simp[IntKind.bits,IntKind.signed];omega),rfl⟩
theorem text_nn (N K:Nat) (w:World) (hn2:(N:Int)≤9223372036854775807) (hk:K≤20) :
  Calls Tryz.prog 204 #[.int .i64 (N:Int),.int .i64 (K:Int)] w fun e w'=>e = .returned (.string ⟨(itx N K).toArray⟩)∧Ext w w':=by
 have d3:decide ((N:Int)<0)=false:=by simp
 have hM:Lib.nDigits N≤20:=nDigits_20 N (by omega)
 have hM1:=Lib.nDigits_pos N
 have d1:decide ((K:Int)<0)=false:=by simp
 have d2:decide ((20:Int)<(K:Int))=false:=by simp;omega
 obtain⟨M,hM⟩:∃M,M=max (Lib.nDigits N) K:=⟨_,rfl⟩
 have HM:=Lib.hid hM
 have hMb:M≤20:=by omega
 have hMb1:1≤M:=by omega
 clear hM
 go_enter Tryz.func204,Tryz.ntmps204
 go_wp2_with (go_at_call 260;refine(size_nn _ _ (by omega) (by omega)).mono ?_;rintro e w1 ⟨rfl,rfl⟩)
 go_loopw [6,7] (fun at_ m wr=>∃j q:Nat,j≤M∧at_ = .int .i64 (24-(j:Int))∧m = .int .u64 (q:Int)∧Hid (q=N/10 ^ j)∧wr=w.alloc (.cells (txC N j) 264)) (fun at_ _ _=>(intOf at_).toNat)
 case atStart=>exact⟨0,N,by omega,rfl,rfl,by simp[Hid],by rw[txC_zero]⟩
 case round=>
  obtain⟨j,q,hj,rfl,rfl,Hq,rfl⟩:=hrel
  have hq:q≤N:=by rw[Hq.out];exact Nat.div_le_self _ _
  by_cases hlt:j<M
  ·obtain⟨x0,hx0⟩:=txC_get N j (24-j-1) (by omega) (by omega)
   have hq2:q≠0∨j<max K 1:=by
    by_cases q0:q=0
    ·right
     have h1:=HM.out
     by_cases hN0:N=0
     ·subst hN0
      rw[Lib.nDigits_small (by decide)]at h1
      omega
     ·have:=div_zero_of (n:=N) (j:=j) (by omega) (by rw[←Hq.out];exact q0)
      omega
    ·exact .inl q0
   by_cases hq0:q=0
   ·have t1:((q:Int) != 0)=false:=by simp[hq0]
    have t2:(j:Int)<max (K:Int) 1:=by omega
    have Hq0:=Lib.hid hq0
    clear hq0 hq2
    go_wp2
    go_roundw
    case rel=>exact⟨j+1,q/10,by omega,by congr 1;omega,by congr 1,div_pow_succ N j q Hq.out,by rw[txC_step' N j q (by omega) Hq.out]⟩
    case measure=>simp[intOf];omega
   ·have t1:((q:Int) != 0)=true:=by simp;omega
    clear hq2
    go_wp2
    go_roundw
    case rel=>exact⟨j+1,q/10,by omega,by congr 1;omega,by congr 1,div_pow_succ N j q Hq.out,by rw[txC_step' N j q (by omega) Hq.out]⟩
    case measure=>simp[intOf];omega
  ·obtain rfl:j=M:=by omega
   have hq0:q=0:=by rw[Hq.out];have:=HM.out;exact Nat.div_eq_of_lt (Nat.lt_of_lt_of_le (Lib.lt_pow_nDigits N) (Nat.pow_le_pow_right (by decide) (by omega)))
   have t1:((q:Int) != 0)=false:=by simp[hq0]
   have t2:¬(24-(24-(j:Int))<if (K:Int)<1 then 1 else(K:Int)):=by have:=HM.out;split<;>omega
   clear hq0
   have hcv:∀cap,(convert 184 9 (.slice (some ⟨w.heap.size,24-j,none⟩) j cap)).run Tryz.prog (w.alloc (.cells (txC N j) 264)) = .ok (.string ⟨(padN j N).toArray⟩) (w.alloc (.cells (txC N j) 264)):=by
    intro cap
    have h:=run_convert_bytes_back (P:=Tryz.prog) (w.alloc (.cells (txC N j) 264)) 184 9 5 ⟨w.heap.size,24-j,none⟩ cap (padN j N) Tryz.underlying184 Tryz.underlying5 Tryz.underlying9 (by
     intro i hi
     rw[show (⟨w.heap.size,24-j,none⟩:Addr).add i=⟨w.heap.size,24-j+i,none⟩from by unfold Addr.add;split<;>simp_all]
     rw[World.cell?_alloc_new]
     exact txC_at N j i (by omega) _ (List.getElem?_eq_getElem hi))
    rw[padN_length]at h
    exact h
   have hsl:∀W:World,(Instr.sliceAt 264 (.pointer (some ⟨w.heap.size,0,none⟩)) (some (.int .i64 (24-(j:Int)))) none none).run Tryz.prog W = .ok (.slice (some ⟨w.heap.size,24-j,none⟩) j j) W:=by
    intro W
    rw[run_sliceAt_array_l (P:=Tryz.prog) W 264 ⟨w.heap.size,0,none⟩ (by kernel_rfl) .i64 (24-(j:Int)) (by omega) (by show 24-(j:Int)≤24;omega)]
    have e1:(sizeOf (Tryz.prog.elem 264)).run Tryz.prog W = .ok 1 W:=by kernel_rfl
    rw[e1]
    show Result.ok (slicedAt _ _ 24 24 1) W=_
    unfold slicedAt
    have e2:(24-(j:Int)).toNat=24-j:=by omega
    rw[e2,if_neg (by omega)]
    congr 2
    ·unfold Addr.add;split<;>simp<;>omega
    ·omega
    ·omega
   go_wp2
   all_goals
    go_ret
    exact⟨ret_s (by rw[itx,←HM.out]),(Ext.refl w).alloc _⟩
theorem txC_neg (n j:Nat) (h:j<24):((txC n j).setIfInBounds (24-j-1) (.int .u8 45))=(List.replicate (24-(j+1)) (Value.int .u8 0)++((45::padN j n).map fun c=>Value.int .u8 c.toNat)).toArray:=by
 unfold txC
 rw[List.setIfInBounds_toArray]
 congr 1
 rw[show 24-j=(24-(j+1))+1 from by omega,List.replicate_succ',List.append_assoc,List.set_append_right _ _ (by simp<;>omega)]
 have e:24-(j+1)+1-1-(List.replicate (24-(j+1)) (Value.int .u8 0)).length=0:=by simp
 rw[e]
 simp
theorem txC_neg_at (n j i:Nat) (hj:j<24) (c:UInt8) (h:(45::padN j n)[i]? = some c):((txC n j).setIfInBounds (24-j-1) (.int .u8 45))[24-j-1+i]? = some (.int .u8 c.toNat):=by
 rw[txC_neg n j hj]
 simp only[List.getElem?_toArray]
 rw[List.getElem?_append_right (by simp;omega)]
 simp only[List.length_replicate,List.getElem?_map]
 rw[show 24-j-1+i-(24-(j+1))=i from by omega,h]
 rfl
theorem text_neg (N K:Nat) (w:World) (hn1:0<N) (hn2:(N:Int)≤9223372036854775808) (hk:K≤20) :
  Calls Tryz.prog 204 #[.int .i64 (-(N:Int)),.int .i64 (K:Int)] w fun e w'=>e = .returned (.string ⟨(45::itx N K).toArray⟩)∧Ext w w':=by
 have d3:decide (-(N:Int)<0)=true:=by simp;omega
 have d4 : -(N:Int)<0:=by omega
 have d5 : - -(N:Int)=N:=by omega
 have hM:Lib.nDigits N≤20:=nDigits_20 N (by omega)
 have hM1:=Lib.nDigits_pos N
 have d1:decide ((K:Int)<0)=false:=by simp
 have d2:decide ((20:Int)<(K:Int))=false:=by simp;omega
 obtain⟨M,hM⟩:∃M,M=max (Lib.nDigits N) K:=⟨_,rfl⟩
 have HM:=Lib.hid hM
 have hMb:M≤20:=by omega
 have hMb1:1≤M:=by omega
 clear hM
 go_enter Tryz.func204,Tryz.ntmps204
 go_wp2_with (go_at_call 260;refine(size_neg _ _ (by omega) (by omega)).mono ?_;rintro e w1 ⟨rfl,rfl⟩)
 go_loopw [6,7] (fun at_ m wr=>∃j q:Nat,j≤M∧at_ = .int .i64 (24-(j:Int))∧m = .int .u64 (q:Int)∧Hid (q=N/10 ^ j)∧wr=w.alloc (.cells (txC N j) 264)) (fun at_ _ _=>(intOf at_).toNat)
 case atStart=>exact⟨0,N,by omega,rfl,rfl,by simp[Hid],by rw[txC_zero]⟩
 case round=>
  obtain⟨j,q,hj,rfl,rfl,Hq,rfl⟩:=hrel
  have hq:q≤N:=by rw[Hq.out];exact Nat.div_le_self _ _
  by_cases hlt:j<M
  ·obtain⟨x0,hx0⟩:=txC_get N j (24-j-1) (by omega) (by omega)
   have hq2:q≠0∨j<max K 1:=by
    by_cases q0:q=0
    ·right
     have h1:=HM.out
     by_cases hN0:N=0
     ·subst hN0
      rw[Lib.nDigits_small (by decide)]at h1
      omega
     ·have:=div_zero_of (n:=N) (j:=j) (by omega) (by rw[←Hq.out];exact q0)
      omega
    ·exact .inl q0
   by_cases hq0:q=0
   ·have t1:((q:Int) != 0)=false:=by simp[hq0]
    have t2:(j:Int)<max (K:Int) 1:=by omega
    have Hq0:=Lib.hid hq0
    clear hq0 hq2
    go_wp2
    go_roundw
    case rel=>exact⟨j+1,q/10,by omega,by congr 1;omega,by congr 1,div_pow_succ N j q Hq.out,by rw[txC_step' N j q (by omega) Hq.out]⟩
    case measure=>simp[intOf];omega
   ·have t1:((q:Int) != 0)=true:=by simp;omega
    clear hq2
    go_wp2
    go_roundw
    case rel=>exact⟨j+1,q/10,by omega,by congr 1;omega,by congr 1,div_pow_succ N j q Hq.out,by rw[txC_step' N j q (by omega) Hq.out]⟩
    case measure=>simp[intOf];omega
  ·obtain rfl:j=M:=by omega
   have hq0:q=0:=by rw[Hq.out];have:=HM.out;exact Nat.div_eq_of_lt (Nat.lt_of_lt_of_le (Lib.lt_pow_nDigits N) (Nat.pow_le_pow_right (by decide) (by omega)))
   have t1:((q:Int) != 0)=false:=by simp[hq0]
   have t2:¬(24-(24-(j:Int))<if (K:Int)<1 then 1 else(K:Int)):=by have:=HM.out;split<;>omega
   clear hq0
   obtain⟨x0,hx0⟩:=txC_get N j (24-j-1) (by omega) (by omega)
   have hcv:∀cap,(convert 184 9 (.slice (some ⟨w.heap.size,24-j-1,none⟩) (j+1) cap)).run Tryz.prog (w.alloc (.cells ((txC N j).setIfInBounds (24-j-1) (.int .u8 45)) 264)) = .ok (.string ⟨(45::padN j N).toArray⟩) (w.alloc (.cells ((txC N j).setIfInBounds (24-j-1) (.int .u8 45)) 264)):=by
    intro cap
    have h:=run_convert_bytes_back (P:=Tryz.prog) (w.alloc (.cells ((txC N j).setIfInBounds (24-j-1) (.int .u8 45)) 264)) 184 9 5 ⟨w.heap.size,24-j-1,none⟩ cap (45::padN j N) Tryz.underlying184 Tryz.underlying5 Tryz.underlying9 (by
     intro i hi
     rw[show (⟨w.heap.size,24-j-1,none⟩:Addr).add i=⟨w.heap.size,24-j-1+i,none⟩from by unfold Addr.add;split<;>simp_all]
     rw[World.cell?_alloc_new]
     exact txC_neg_at N j i (by omega) _ (List.getElem?_eq_getElem hi))
    rw[List.length_cons,padN_length]at h
    exact h
   have hsl:∀W:World,(Instr.sliceAt 264 (.pointer (some ⟨w.heap.size,0,none⟩)) (some (.int .i64 (24-(j:Int)-1))) none none).run Tryz.prog W = .ok (.slice (some ⟨w.heap.size,24-j-1,none⟩) (j+1) (j+1)) W:=by
    intro W
    rw[run_sliceAt_array_l (P:=Tryz.prog) W 264 ⟨w.heap.size,0,none⟩ (by kernel_rfl) .i64 (24-(j:Int)-1) (by omega) (by show 24-(j:Int)-1≤24;omega)]
    have e1:(sizeOf (Tryz.prog.elem 264)).run Tryz.prog W = .ok 1 W:=by kernel_rfl
    rw[e1]
    show Result.ok (slicedAt _ _ 24 24 1) W=_
    unfold slicedAt
    have e2:(24-(j:Int)-1).toNat=24-j-1:=by omega
    rw[e2,if_neg (by omega)]
    congr 2
    ·unfold Addr.add;split<;>simp<;>omega
    ·omega
    ·omega
   go_wp2
   all_goals
    go_ret
    exact⟨ret_s (by rw[itx,←HM.out]),(Ext.refl w).alloc _⟩
theorem text_c (n k:Int) (w:World) (h1 : -9223372036854775808≤n) (h2:n≤9223372036854775807) (k1:0≤k) (k2:k≤20) :
  Calls Tryz.prog 204 #[.int .i64 n,.int .i64 k] w fun e w'=>e = .returned (.string ⟨(itxI n k.toNat).toArray⟩)∧Ext w w':=by
 obtain⟨K,rfl⟩:=Int.eq_ofNat_of_zero_le k1
 unfold itxI
 by_cases h:n<0
 ·rw[if_pos h]
  have e:n = -((n.natAbs:Nat):Int):=by omega
  have:=text_neg n.natAbs K w (by omega) (by omega) (by omega)
  rw[←e]at this
  exact this
 ·rw[if_neg h]
  have e:n=((n.natAbs:Nat):Int):=by omega
  have:=text_nn n.natAbs K w (by omega) (by omega)
  rw[←e]at this
  exact this
end Go.Proofs.YtlmeinikknoeeaaGreatDoor
