/- The walks of the reference's texts. -/
import Derived.Test.YtlmeinikknoeeaaGreatDoorQ11
import Derived.Test.YtlmeinikknoeeaaGreatDoorQ00
import Derived.Test.YtlmeinikknoeeaaGreatDoorQ08
import Derived.Test.YtlmeinikknoeeaaGreatDoorQ09
import Derived.Lib.AtoiAll
import Derived.Test.YtlmeinikknoeeaaGreatDoorShelf
import Derived.Lib.AtoiErrMem
namespace Go.Proofs.YtlmeinikknoeeaaGreatDoor
set_option maxHeartbeats 1000000
open Go.RowKit
theorem enc_ascii (n:Int) (h0:0≤n) (h:n<128):Utf8.encode n=⟨#[UInt8.ofNat n.toNat]⟩:=by
 unfold Utf8.encode
 have hv:Utf8.valid n=true:=by unfold Utf8.valid;simp;omega
 have h2:n.toNat<0x80:=by omega
 simp[hv,h2]
theorem dgI (q:Nat):UInt8.ofNat (48+(q:Int)%10).toNat=dg1 q:=by
 unfold dg1
 congr 1
theorem str_cons (c:UInt8) (l:List UInt8):(⟨#[c]⟩:ByteArray)++⟨l.toArray⟩=⟨(c::l).toArray⟩:=by
 apply ByteArray.ext
 simp
theorem digits_c (N K:Nat) (w:World) (hN:N<10000000000) (hK:K≤20) :
  Calls Tryz.prog 272 #[.int .i64 (N:Int),.int .i64 (K:Int)] w fun e w'=>e = .returned (.string ⟨(padN K N).toArray⟩)∧Ext w w':=by
 go_enter Tryz.func272,Tryz.ntmps272
 go_wp2_with fail
 go_loop [0,5,6] (fun n s i=>∃j q:Nat,j≤K∧i = .int .i64 (j:Int)∧n = .int .i64 (q:Int)∧Hid (q=N/10 ^ j)∧s = .string ⟨(padN j N).toArray⟩) (fun _ _ i=>K-(intOf i).toNat)
 case atStart=>exact⟨0,N,by omega,rfl,rfl,by simp[Hid],rfl⟩
 case round=>
  obtain⟨j,q,hj,rfl,rfl,Hq,rfl⟩:=hrel
  have hq:q≤N:=by rw[Hq.out];exact Nat.div_le_self _ _
  have hl:=padN_length j N
  by_cases hlt:j<K
  ·have he:Utf8.encode (48+(q:Int)%10)=⟨#[dg1 q]⟩:=by rw[enc_ascii (48+(q:Int)%10) (by omega) (by omega),dgI]
   go_wp2
   go_round
   case rel=>exact⟨j+1,q/10,by omega,by go_num,by congr 1,div_pow_succ N j q Hq.out,(by rw[str_cons,padN_cons,←Hq.out]:Value.string (⟨#[dg1 q]⟩++⟨(padN j N).toArray⟩)=Value.string ⟨(padN (j+1) N).toArray⟩)⟩
   case measure=>simp[intOf];omega
  ·obtain rfl:j=K:=by omega
   go_wp2
   go_ret
   exact⟨rfl,Ext.refl _⟩
theorem digits_4 (n:Int) (w:World) (h0:0≤n) (h:n≤9999) :
  Calls Tryz.prog 272 #[.int .i64 n,.int .i64 4] w fun e w'=>e = .returned (.string ⟨(padN 4 n.toNat).toArray⟩)∧Ext w w':=by
 obtain⟨N,rfl⟩:=Int.eq_ofNat_of_zero_le h0
 exact digits_c N 4 w (by omega) (by omega)
theorem digits_2 (n:Int) (w:World) (h0:0≤n) (h:n≤99) :
  Calls Tryz.prog 272 #[.int .i64 n,.int .i64 2] w fun e w'=>e = .returned (.string ⟨(padN 2 n.toNat).toArray⟩)∧Ext w w':=by
 obtain⟨N,rfl⟩:=Int.eq_ofNat_of_zero_le h0
 exact digits_c N 2 w (by omega) (by omega)
set_option maxRecDepth 100000 in
theorem rctext_yes (y m d:Int) (w:World) (hv:vldB y m d=true):Calls Tryz.prog 227 #[.agg #[.int .i64 y,.int .i64 m,.int .i64 d]] w fun e w'=>e = .returned (.string ⟨(dtx y m d).toArray⟩)∧Ext w w':=by
 obtain⟨a,b,c,f,g,i,_⟩:=vld_parts hv
 have L1:=padN_length 4 y.toNat
 have L2:=padN_length 2 m.toNat
 have L3:=padN_length 2 d.toNat
 go_enter Tryz.func227,Tryz.ntmps227
 go_wp2_with (first
  | (go_at_call 271;refine(rvalid_c _ _ _ _).mono ?_;rintro e w1 ⟨rfl,hE⟩))
 have hz:w.heap.size<w1.heap.size:=by have:=hE.size;simp at this;omega
 have hc0:w1.cell? ⟨w.heap.size,0,none⟩=some (.int .i64 y):=by rw[hE.cells _ _ (by simp)];simp
 have hc1:w1.cell? ⟨w.heap.size,1,none⟩=some (.int .i64 m):=by rw[hE.cells _ _ (by simp)];simp
 have hc2:w1.cell? ⟨w.heap.size,2,none⟩=some (.int .i64 d):=by rw[hE.cells _ _ (by simp)];simp
 generalize hbk:w.heap.size=B at hz hc0 hc1 hc2 ⊢
 have Hbk:=Lib.hid hbk
 clear hbk
 go_wp2_with fail
 go_region_held3 (fun w'=>w'.cell? ⟨B,0,none⟩=some (.int .i64 y)∧w'.cell? ⟨B,1,none⟩=some (.int .i64 m)∧w'.cell? ⟨B,2,none⟩=some (.int .i64 d)∧B<w'.heap.size) (first|go_keep|exact S2.out|exact S3.out|exact S4.out)
  (first
    | (go_at_call 272;(with_reducible refine(digits_4 y _ (by omega) (by omega)).mono ?_);rintro e w2 ⟨rfl,hE2⟩;have S2:=Lib.hid (ext3 hE2 ⟨hc0,hc1,hc2,hz⟩))
    | (go_at_call 272;(with_reducible refine(digits_2 m _ (by omega) (by omega)).mono ?_);rintro e w3 ⟨rfl,hE3⟩;have S3:=Lib.hid (ext3 hE3 S2.out))
    | (go_at_call 272;(with_reducible refine(digits_2 d _ (by omega) (by omega)).mono ?_);rintro e w4 ⟨rfl,hE4⟩;have S4:=Lib.hid (ext3 hE4 S3.out)))
 all_goals
  go_wp2
  go_ret
  refine⟨ret_s (by apply ByteArray.ext;simp[dtx]),?_⟩
  exact((((Ext.refl w).alloc _).trans hE).drew).trans (hE2.trans (hE3.trans hE4))
theorem two_c (n:Int) (w:World) (h0:0≤n) (h:n≤99) :
  Calls Tryz.prog 228 #[.int .i64 n] w fun e w'=>e = .returned (.string ⟨(padN 2 n.toNat).toArray⟩)∧Ext w w':=by
 obtain⟨N,rfl⟩:=Int.eq_ofNat_of_zero_le h0
 have hcv:(convert 184 9 (.slice (some ⟨w.heap.size,0,none⟩) 2 2)).run Tryz.prog (w.alloc (.cells #[.int .u8 (48+(N:Int)/10%10),.int .u8 (48+(N:Int)%10)] 5)) = .ok (.string ⟨(padN 2 N).toArray⟩) (w.alloc (.cells #[.int .u8 (48+(N:Int)/10%10),.int .u8 (48+(N:Int)%10)] 5)):=by
  have hh:=run_convert_bytes_back (P:=Tryz.prog) (w.alloc (.cells #[.int .u8 (48+(N:Int)/10%10),.int .u8 (48+(N:Int)%10)] 5)) 184 9 5 ⟨w.heap.size,0,none⟩ 2 (padN 2 N) Tryz.underlying184 Tryz.underlying5 Tryz.underlying9 (by
   intro j hj
   rw[padN_length]at hj
   rw[show (⟨w.heap.size,0,none⟩:Addr).add j=⟨w.heap.size,j,none⟩from by unfold Addr.add;split<;>simp_all,World.cell?_alloc_new]
   rcases (show j=0∨j=1 by omega)with rfl|rfl
   ·simp[padN,dg1_toNat]
   ·simp[padN,dg1_toNat])
  rw[padN_length]at hh
  exact hh
 go_enter Tryz.func228,Tryz.ntmps228
 go_wp2
 go_ret
 exact⟨rfl,(Ext.refl w).alloc _⟩
end Go.Proofs.YtlmeinikknoeeaaGreatDoor
namespace Go.Proofs.YtlmeinikknoeeaaGreatDoor
set_option maxRecDepth 100000
set_option maxHeartbeats 1000000
open Go.RowKit
def mtx (y m d h mi s:Int):List UInt8:=dtx y m d ++ [84]++padN 2 h.toNat ++ [58]++padN 2 mi.toNat ++ [58]++padN 2 s.toNat
theorem dtx_length (y m d:Int):(dtx y m d).length=10:=by simp[dtx,padN_length]
theorem mtx_length (y m d h mi s:Int):(mtx y m d h mi s).length=19:=by simp[mtx,dtx_length,padN_length]
theorem twocl_c (n:Int) (w:World) (h0:0≤n) (h:n≤99) :
  Calls Tryz.prog 265 #[.int .i64 n] w fun e w'=>e = .returned (.string ⟨(padN 2 n.toNat).toArray⟩)∧Ext w w':=by
 go_enter Tryz.func265,Tryz.ntmps265
 go_wp2_with (go_at_call 204;refine(text_2 n _ h0 h).mono ?_;rintro e w2 ⟨rfl,hE2⟩)
 go_ret
 exact⟨rfl,hE2⟩
theorem mtext_yes (y m d h mi s:Int) (w:World) (hv:vldB y m d=true) (ht:tmB h mi s=true) :
  Calls Tryz.prog 206 #[.agg #[.int .i64 y,.int .i64 m,.int .i64 d,.int .i64 h,.int .i64 mi,.int .i64 s]] w fun e w'=>e = .returned (.string ⟨(mtx y m d h mi s).toArray⟩)∧Ext w w':=by
 obtain⟨a,b,c,f,g,i⟩:=tm_iff.1 ht
 have L1:=dtx_length y m d
 have L2:=padN_length 2 h.toNat
 have L3:=padN_length 2 mi.toNat
 have L4:=padN_length 2 s.toNat
 go_enter Tryz.func206,Tryz.ntmps206
 go_wp2_with (first
  | (go_at_call 264;refine(of_yes _ _ _ _ _ _ _ hv ht).mono ?_;rintro e w1 ⟨rfl,hE⟩))
 have hz:w.heap.size<w1.heap.size:=by have:=hE.size;simp at this;omega
 have hc0:w1.cell? ⟨w.heap.size,0,none⟩=some (.int .i64 y):=by rw[hE.cells _ _ (by simp)];simp
 have hc1:w1.cell? ⟨w.heap.size,1,none⟩=some (.int .i64 m):=by rw[hE.cells _ _ (by simp)];simp
 have hc2:w1.cell? ⟨w.heap.size,2,none⟩=some (.int .i64 d):=by rw[hE.cells _ _ (by simp)];simp
 have hc3:w1.cell? ⟨w.heap.size,3,none⟩=some (.int .i64 h):=by rw[hE.cells _ _ (by simp)];simp
 have hc4:w1.cell? ⟨w.heap.size,4,none⟩=some (.int .i64 mi):=by rw[hE.cells _ _ (by simp)];simp
 have hc5:w1.cell? ⟨w.heap.size,5,none⟩=some (.int .i64 s):=by rw[hE.cells _ _ (by simp)];simp
 generalize hbk:w.heap.size=B at hz hc0 hc1 hc2 hc3 hc4 hc5 ⊢
 have Hbk:=Lib.hid hbk
 clear hbk
 go_wp2_with fail
 go_region_held3 (fun w'=>w'.cell? ⟨B,0,none⟩=some (.int .i64 y)∧w'.cell? ⟨B,1,none⟩=some (.int .i64 m)∧w'.cell? ⟨B,2,none⟩=some (.int .i64 d)∧w'.cell? ⟨B,3,none⟩=some (.int .i64 h)∧w'.cell? ⟨B,4,none⟩=some (.int .i64 mi)∧w'.cell? ⟨B,5,none⟩=some (.int .i64 s)∧B<w'.heap.size) (first|go_keep|exact S2.out|exact S3.out|exact S4.out|exact S5.out)
  (first
    | (go_at_call 266;(with_reducible refine(ctext_yes _ _ _ _ hv).mono ?_);rintro e w2 ⟨rfl,hE2⟩;have S2:=Lib.hid (ext6 hE2 ⟨hc0,hc1,hc2,hc3,hc4,hc5,hz⟩))
    | (go_at_call 265;(with_reducible refine(twocl_c h _ (by omega) (by omega)).mono ?_);rintro e w3 ⟨rfl,hE3⟩;have S3:=Lib.hid (ext6 hE3 S2.out))
    | (go_at_call 265;(with_reducible refine(twocl_c mi _ (by omega) (by omega)).mono ?_);rintro e w4 ⟨rfl,hE4⟩;have S4:=Lib.hid (ext6 hE4 S3.out))
    | (go_at_call 265;(with_reducible refine(twocl_c s _ (by omega) (by omega)).mono ?_);rintro e w5 ⟨rfl,hE5⟩;have S5:=Lib.hid (ext6 hE5 S4.out)))
 all_goals
  go_wp2
  go_ret
  refine⟨ret_s (by apply ByteArray.ext;simp[mtx]),?_⟩
  exact((((Ext.refl w).alloc _).trans hE).drew).trans (hE2.trans (hE3.trans (hE4.trans hE5)))
theorem rmtext_yes (y m d h mi s:Int) (w:World) (hv:vldB y m d=true) (ht:tmB h mi s=true) :
  Calls Tryz.prog 146 #[.agg #[.int .i64 y,.int .i64 m,.int .i64 d,.int .i64 h,.int .i64 mi,.int .i64 s]] w fun e w'=>e = .returned (.string ⟨(mtx y m d h mi s).toArray⟩)∧Ext w w':=by
 obtain⟨a,b,c,f,g,i⟩:=tm_iff.1 ht
 have L1:=dtx_length y m d
 have L2:=padN_length 2 h.toNat
 have L3:=padN_length 2 mi.toNat
 have L4:=padN_length 2 s.toNat
 go_enter Tryz.func146,Tryz.ntmps146
 go_wp2_with fail
 obtain⟨w1,hw1⟩:∃w1,w1=w.alloc (.cells #[.int .i64 y,.int .i64 m,.int .i64 d,.int .i64 h,.int .i64 mi,.int .i64 s] 181):=⟨_,rfl⟩
 have hE:Ext w w1:=by rw[hw1];exact(Ext.refl w).alloc _
 have hz:w.heap.size<w1.heap.size:=by rw[hw1];simp
 have hc0:w1.cell? ⟨w.heap.size,0,none⟩=some (.int .i64 y):=by rw[hw1];simp
 have hc1:w1.cell? ⟨w.heap.size,1,none⟩=some (.int .i64 m):=by rw[hw1];simp
 have hc2:w1.cell? ⟨w.heap.size,2,none⟩=some (.int .i64 d):=by rw[hw1];simp
 have hc3:w1.cell? ⟨w.heap.size,3,none⟩=some (.int .i64 h):=by rw[hw1];simp
 have hc4:w1.cell? ⟨w.heap.size,4,none⟩=some (.int .i64 mi):=by rw[hw1];simp
 have hc5:w1.cell? ⟨w.heap.size,5,none⟩=some (.int .i64 s):=by rw[hw1];simp
 rw[←hw1]
 clear hw1
 generalize hbk:w.heap.size=B at hz hc0 hc1 hc2 hc3 hc4 hc5 ⊢
 have Hbk:=Lib.hid hbk
 clear hbk
 go_region_held3 (fun w'=>w'.cell? ⟨B,0,none⟩=some (.int .i64 y)∧w'.cell? ⟨B,1,none⟩=some (.int .i64 m)∧w'.cell? ⟨B,2,none⟩=some (.int .i64 d)∧w'.cell? ⟨B,3,none⟩=some (.int .i64 h)∧w'.cell? ⟨B,4,none⟩=some (.int .i64 mi)∧w'.cell? ⟨B,5,none⟩=some (.int .i64 s)∧B<w'.heap.size) (first|go_keep|exact S2.out|exact S3.out|exact S4.out|exact S5.out)
  (first
    | (go_at_call 227;(with_reducible refine(rctext_yes _ _ _ _ hv).mono ?_);rintro e w2 ⟨rfl,hE2⟩;have S2:=Lib.hid (ext6 hE2 ⟨hc0,hc1,hc2,hc3,hc4,hc5,hz⟩))
    | (go_at_call 228;(with_reducible refine(two_c h _ (by omega) (by omega)).mono ?_);rintro e w3 ⟨rfl,hE3⟩;have S3:=Lib.hid (ext6 hE3 S2.out))
    | (go_at_call 228;(with_reducible refine(two_c mi _ (by omega) (by omega)).mono ?_);rintro e w4 ⟨rfl,hE4⟩;have S4:=Lib.hid (ext6 hE4 S3.out))
    | (go_at_call 228;(with_reducible refine(two_c s _ (by omega) (by omega)).mono ?_);rintro e w5 ⟨rfl,hE5⟩;have S5:=Lib.hid (ext6 hE5 S4.out)))
 all_goals
  go_wp2
  go_ret
  refine⟨ret_s (by apply ByteArray.ext;simp[mtx]),?_⟩
  exact(hE.drew).trans (hE2.trans (hE3.trans (hE4.trans hE5)))
end Go.Proofs.YtlmeinikknoeeaaGreatDoor
namespace Go.Proofs.YtlmeinikknoeeaaGreatDoor
set_option linter.unusedVariables false
set_option linter.unnecessarySimpa false
set_option linter.unusedSimpArgs false
theorem mtx_assoc (y m d h mi s:Int):mtx y m d h mi s=padN 4 y.toNat++(45::(padN 2 m.toNat++(45::(padN 2 d.toNat++(84::(padN 2 h.toNat++(58::(padN 2 mi.toNat++(58::(padN 2 s.toNat ++ [])))))))))):=by
 simp[mtx,dtx]
end Go.Proofs.YtlmeinikknoeeaaGreatDoor
namespace Go.Proofs.YtlmeinikknoeeaaGreatDoor
set_option maxRecDepth 100000
set_option linter.unusedVariables false
set_option linter.unnecessarySimpa false
set_option linter.unusedSimpArgs false
def fmC (i:Nat):UInt8:=if i=4∨i=7 then 45 else if i=10 then 84 else if i=13∨i=16 then 58 else 48
def okAt (i:Nat) (c:UInt8):Bool:=if i=4∨i=7 then c==45 else if i=10 then c==84 else if i=13∨i=16 then c==58 else isDg c
def formL (l:List UInt8):Prop:=l.length=19∧∀i (h:i<l.length),okAt i l[i]=true
theorem dg1_val {c:UInt8} (n:Nat) (h:isDg c=true):dg1 (10*n+(c.toNat-48))=c:=by
 have:=isDg_iff.1 h
 rw[←UInt8.toNat_inj,dg1_toNat];omega
theorem padN_val (l:List UInt8) (h:∀c∈l,isDg c=true):padN l.length (val l)=l:=by
 revert h
 refine snoc_ind (P:=fun l=>(∀c∈l,isDg c=true)→padN l.length (val l)=l) ?_ ?_ l
 ·intro _;rfl
 ·intro l c ih h
  have ih:=ih (fun x hx=>h x (by simp[hx]))
  have hc:=h c (by simp)
  have:=isDg_iff.1 hc
  rw[List.length_append,List.length_singleton,padN,val_snoc,dg1_val _ hc]
  rw[show (10*val l+(c.toNat-48))/10=val l from by omega,ih]
theorem val_padN (k n:Nat) (h:n<10 ^ k):val (padN k n)=n:=by
 induction k generalizing n with
 | zero=>simp at h;subst h;rfl
 | succ k ih=>
   rw[Nat.pow_succ]at h
   rw[padN,val_snoc,ih (n/10) (by omega),dg1_toNat];omega
theorem padN_dg (k n:Nat):∀c∈padN k n,isDg c=true:=by
 induction k generalizing n with
 | zero=>intro c hc;cases hc
 | succ k ih=>
   intro c hc
   rcases List.mem_append.1 hc with h|h
   ·exact ih _ c h
   ·obtain rfl:c=dg1 n:=by simpa using h
    rw[isDg_iff,dg1_toNat];omega
theorem form_mtx {l:List UInt8} (h:formL l):∃y m d hh mi s:Nat,y<10000∧m<100∧d<100∧hh<100∧mi<100∧s<100∧l=mtx y m d hh mi s:=by
 obtain⟨hl,ho⟩:=h
 match l,hl,ho with
 | [c0,c1,c2,c3,c4,c5,c6,c7,c8,c9,c10,c11,c12,c13,c14,c15,c16,c17,c18],_,ho=>
   have o0:isDg c0=true:=ho 0 (by simp)
   have o1:isDg c1=true:=ho 1 (by simp)
   have o2:isDg c2=true:=ho 2 (by simp)
   have o3:isDg c3=true:=ho 3 (by simp)
   have o4:(c4==45)=true:=ho 4 (by simp)
   have o5:isDg c5=true:=ho 5 (by simp)
   have o6:isDg c6=true:=ho 6 (by simp)
   have o7:(c7==45)=true:=ho 7 (by simp)
   have o8:isDg c8=true:=ho 8 (by simp)
   have o9:isDg c9=true:=ho 9 (by simp)
   have o10:(c10==84)=true:=ho 10 (by simp)
   have o11:isDg c11=true:=ho 11 (by simp)
   have o12:isDg c12=true:=ho 12 (by simp)
   have o13:(c13==58)=true:=ho 13 (by simp)
   have o14:isDg c14=true:=ho 14 (by simp)
   have o15:isDg c15=true:=ho 15 (by simp)
   have o16:(c16==58)=true:=ho 16 (by simp)
   have o17:isDg c17=true:=ho 17 (by simp)
   have o18:isDg c18=true:=ho 18 (by simp)
   simp only[beq_iff_eq]at o4 o7 o10 o13 o16
   have p:∀a b:UInt8,isDg a=true→isDg b=true→padN 2 (val [a,b]) = [a,b]∧val [a,b]<100:=fun a b ha hb=>
    ⟨padN_val [a,b] (by intro c hc;simp at hc;rcases hc with rfl|rfl<;>assumption),val_lt [a,b] (by intro c hc;simp at hc;rcases hc with rfl|rfl<;>assumption)⟩
   have q:padN 4 (val [c0,c1,c2,c3]) = [c0,c1,c2,c3]∧val [c0,c1,c2,c3]<10000:=
    ⟨padN_val [c0,c1,c2,c3] (by intro c hc;simp at hc;rcases hc with rfl|rfl|rfl|rfl<;>assumption),val_lt [c0,c1,c2,c3] (by intro c hc;simp at hc;rcases hc with rfl|rfl|rfl|rfl<;>assumption)⟩
   refine⟨_,_,_,_,_,_,q.2,(p c5 c6 o5 o6).2,(p c8 c9 o8 o9).2,(p c11 c12 o11 o12).2,(p c14 c15 o14 o15).2,(p c17 c18 o17 o18).2,?_⟩
   rw[mtx_assoc]
   simp only[Int.toNat_natCast]
   rw[q.1,(p c5 c6 o5 o6).1,(p c8 c9 o8 o9).1,(p c11 c12 o11 o12).1,(p c14 c15 o14 o15).1,(p c17 c18 o17 o18).1,o4,o7,o10,o13,o16]
   rfl
theorem okAt_dg {k:Nat} {c:UInt8} (h:fmC k=48):okAt k c=isDg c:=by
 unfold fmC at h
 unfold okAt
 split at h
 ·exact absurd h (by decide)
 ·rename_i h1
  rw[if_neg h1]
  split at h
  ·exact absurd h (by decide)
  ·rename_i h2
   rw[if_neg h2]
   split at h
   ·exact absurd h (by decide)
   ·rename_i h3
    rw[if_neg h3]
theorem okAt_sep {k:Nat} {c:UInt8} (h:fmC k≠48):okAt k c=(c==fmC k):=by
 unfold fmC at h ⊢
 unfold okAt
 split
 ·rfl
 ·rename_i h1
  rw[if_neg h1]at h
  split
  ·rfl
  ·rename_i h2
   rw[if_neg h2]at h
   split
   ·rfl
   ·rename_i h3
    rw[if_neg h3]at h
    exact absurd rfl h
theorem first_bad {l:List UInt8} (hl:l.length=19) (h:¬formL l):∃p,∃hp:p<l.length,okAt p l[p]=false∧∀i (hi:i<l.length),i<p→okAt i l[i]=true:=by
 have H:∀n,n≤l.length→(∀i (hi:i<l.length),i<n→okAt i l[i]=true)∨∃p,∃hp:p<l.length,okAt p l[p]=false∧∀i (hi:i<l.length),i<p→okAt i l[i]=true:=by
  intro n
  induction n with
  | zero=>intro _;exact .inl (fun i _ h=>absurd h (by omega))
  | succ n ih=>
    intro hn
    rcases ih (by omega)with q|q
    ·rcases Bool.eq_false_or_eq_true (okAt n (l[n]'(by omega)))with e|e
     ·left
      intro i hi h
      by_cases hin:i=n
      ·subst hin;exact e
      ·exact q i hi (by omega)
     ·exact .inr ⟨n,by omega,e,q⟩
    ·exact .inr q
 rcases H l.length (Nat.le_refl _)with q|q
 ·exact absurd ⟨hl,fun i hi=>q i hi hi⟩ h
 ·exact q
theorem padN_4 (n:Nat):padN 4 n = [dg1 (n/10/10/10),dg1 (n/10/10),dg1 (n/10),dg1 n]:=rfl
theorem padN_2 (n:Nat):padN 2 n = [dg1 (n/10),dg1 n]:=rfl
theorem dg1_isDg (n:Nat):isDg (dg1 n)=true:=by rw[isDg_iff,dg1_toNat];omega
theorem mtx_list (y m d h mi s:Int):mtx y m d h mi s = [dg1 (y.toNat/10/10/10),dg1 (y.toNat/10/10),dg1 (y.toNat/10),dg1 y.toNat,45,dg1 (m.toNat/10),dg1 m.toNat,45,dg1 (d.toNat/10),dg1 d.toNat,84,dg1 (h.toNat/10),dg1 h.toNat,58,dg1 (mi.toNat/10),dg1 mi.toNat,58,dg1 (s.toNat/10),dg1 s.toNat]:=by
 rw[mtx_assoc,padN_4,padN_2,padN_2,padN_2,padN_2,padN_2];rfl
theorem mtx_form (y m d h mi s:Int):formL (mtx y m d h mi s):=by
 refine⟨mtx_length _ _ _ _ _ _,?_⟩
 rw[mtx_list]
 intro i hi
 have hi:i<19:=hi
 rcases (show i=0∨i=1∨i=2∨i=3∨i=4∨i=5∨i=6∨i=7∨i=8∨i=9∨i=10∨i=11∨i=12∨i=13∨i=14∨i=15∨i=16∨i=17∨i=18 by omega)with rfl|rfl|rfl|rfl|rfl|rfl|rfl|rfl|rfl|rfl|rfl|rfl|rfl|rfl|rfl|rfl|rfl|rfl|rfl
 all_goals first
  | exact dg1_isDg _
  | rfl
theorem mtx_s0 (y m d h mi s:Int):((mtx y m d h mi s).drop 0).take (4-0)=padN 4 y.toNat:=by rw[mtx_list];rfl
theorem mtx_s1 (y m d h mi s:Int):((mtx y m d h mi s).drop 5).take (7-5)=padN 2 m.toNat:=by rw[mtx_list];rfl
theorem mtx_s2 (y m d h mi s:Int):((mtx y m d h mi s).drop 8).take (10-8)=padN 2 d.toNat:=by rw[mtx_list];rfl
theorem mtx_s3 (y m d h mi s:Int):((mtx y m d h mi s).drop 11).take (13-11)=padN 2 h.toNat:=by rw[mtx_list];rfl
theorem mtx_s4 (y m d h mi s:Int):((mtx y m d h mi s).drop 14).take (16-14)=padN 2 mi.toNat:=by rw[mtx_list];rfl
theorem mtx_s5 (y m d h mi s:Int):((mtx y m d h mi s).drop 17).take (19-17)=padN 2 s.toNat:=by rw[mtx_list];rfl
end Go.Proofs.YtlmeinikknoeeaaGreatDoor
namespace Go.Proofs.YtlmeinikknoeeaaGreatDoor
set_option linter.unusedVariables false
set_option linter.unnecessarySimpa false
set_option linter.unusedSimpArgs false
open Go.RowKit
theorem step_in (f:Nat→Int) (n:Int):∀k:Nat,f 0≤n→n<f k→∃j,j<k∧f j≤n∧n<f (j+1)
 | 0,h1,h2=>by omega
 | k+1,h1,h2=>by
   by_cases h:n<f k
   ·obtain⟨j,j1,j2⟩:=step_in f n k h1 h
    exact⟨j,by omega,j2⟩
   ·exact⟨k,by omega,by omega,h2⟩
theorem date_ex (n:Int) (h1 : -719162≤n) (h2:n<2932897):∃y m d,IsDate n y m d:=by
 obtain⟨j,j1,j2,j3⟩:=step_in (fun k=>yd ((k:Int)+1)) n 9999 (by simp[yd];omega) (by simp[yd];omega)
 have hy:1≤(j:Int)+1:=by omega
 have hy2:(j:Int)+1≤9999:=by omega
 have hs:=yd_succ ((j:Int)+1)
 have j3:n<yd ((j:Int)+1+1):=j3
 have hc:=cum13 ((j:Int)+1)
 obtain⟨i,i1,i2,i3⟩:=step_in (fun k=>yd ((j:Int)+1)+cum ((j:Int)+1) ((k:Int)+1)) n 12 (by simp[cum];omega) (by
  show n<yd ((j:Int)+1)+cum ((j:Int)+1) (((12:Nat):Int)+1)
  rw[show ((12:Nat):Int)+1=13 by rfl,hc]
  omega)
 exact⟨_,_,_,IsDate.of (y:=(j:Int)+1) (m:=(i:Int)+1) hy hy2 (by omega) (by omega) i2 i3⟩
def fldZ (v:List UInt8) (a k:Nat):Int:=(val ((v.drop a).take k):Int)
open Classical in
noncomputable def untZ (v:List UInt8):Option Int:=
 if formL v∧vldB (fldZ v 0 4) (fldZ v 5 2) (fldZ v 8 2)=true∧tmB (fldZ v 11 2) (fldZ v 14 2) (fldZ v 17 2)=true then some (inst (fldZ v 0 4) (fldZ v 5 2) (fldZ v 8 2) (fldZ v 11 2) (fldZ v 14 2) (fldZ v 17 2))else none
theorem fld_mtx {y m d h mi s:Int} (hb:0≤y∧y≤9999∧0≤m∧m≤99∧0≤d∧d≤99∧0≤h∧h≤99∧0≤mi∧mi≤99∧0≤s∧s≤99) :
  fldZ (mtx y m d h mi s) 0 4=y∧fldZ (mtx y m d h mi s) 5 2=m∧fldZ (mtx y m d h mi s) 8 2=d∧fldZ (mtx y m d h mi s) 11 2=h∧fldZ (mtx y m d h mi s) 14 2=mi∧fldZ (mtx y m d h mi s) 17 2=s:=by
 have p2:∀x:Int,0≤x→x≤99→(val (padN 2 x.toNat):Int)=x:=fun x h0 h1=>by rw[val_padN 2 x.toNat (by omega)];omega
 refine⟨?_,?_,?_,?_,?_,?_⟩
 ·have e:=mtx_s0 y m d h mi s
  unfold fldZ
  rw[show (4:Nat)=4-0 by rfl,e,val_padN 4 y.toNat (by omega)]
  omega
 ·have e:=mtx_s1 y m d h mi s
  unfold fldZ
  rw[show ((mtx y m d h mi s).drop 5).take 2=padN 2 m.toNat from e]
  exact p2 m (by omega) (by omega)
 ·have e:=mtx_s2 y m d h mi s
  unfold fldZ
  rw[show ((mtx y m d h mi s).drop 8).take 2=padN 2 d.toNat from e]
  exact p2 d (by omega) (by omega)
 ·have e:=mtx_s3 y m d h mi s
  unfold fldZ
  rw[show ((mtx y m d h mi s).drop 11).take 2=padN 2 h.toNat from e]
  exact p2 h (by omega) (by omega)
 ·have e:=mtx_s4 y m d h mi s
  unfold fldZ
  rw[show ((mtx y m d h mi s).drop 14).take 2=padN 2 mi.toNat from e]
  exact p2 mi (by omega) (by omega)
 ·have e:=mtx_s5 y m d h mi s
  unfold fldZ
  rw[show ((mtx y m d h mi s).drop 17).take 2=padN 2 s.toNat from e]
  exact p2 s (by omega) (by omega)
theorem untZ_mtx {y m d h mi s:Int} (hb:0≤y∧y≤9999∧0≤m∧m≤99∧0≤d∧d≤99∧0≤h∧h≤99∧0≤mi∧mi≤99∧0≤s∧s≤99) :
  untZ (mtx y m d h mi s)=if vldB y m d=true∧tmB h mi s=true then some (inst y m d h mi s)else none:=by
 obtain⟨e0,e1,e2,e3,e4,e5⟩:=fld_mtx hb
 unfold untZ
 rw[e0,e1,e2,e3,e4,e5]
 by_cases q:vldB y m d=true∧tmB h mi s=true
 ·rw[if_pos ⟨mtx_form _ _ _ _ _ _,q.1,q.2⟩,if_pos q]
 ·rw[if_neg (fun k=>q ⟨k.2.1,k.2.2⟩),if_neg q]
theorem untZ_no {v:List UInt8} (h:¬formL v):untZ v=none:=by
 unfold untZ
 rw[if_neg (fun k=>h k.1)]
open Classical in
noncomputable def momT (t:Int):List UInt8:=
 if h:∃x:Int×Int×Int,IsDate (t/86400) x.1 x.2.1 x.2.2 then mtx (Classical.choose h).1 (Classical.choose h).2.1 (Classical.choose h).2.2 (t%86400/3600) (t%86400/60%60) (t%86400%60)else []
theorem momT_is {t y m d:Int} (h:IsDate (t/86400) y m d):momT t=mtx y m d (t%86400/3600) (t%86400/60%60) (t%86400%60):=by
 have hx:∃x:Int×Int×Int,IsDate (t/86400) x.1 x.2.1 x.2.2:=⟨(y,m,d),h⟩
 unfold momT
 rw[dif_pos hx]
 obtain⟨e1,e2,e3⟩:=(Classical.choose_spec hx).inj h
 rw[e1,e2,e3]
theorem loc_date {t:Int} (h:locZ t=true):∃y m d,IsDate (t/86400) y m d:=by
 unfold locZ at h
 rw[decide_eq_true_eq]at h
 exact date_ex _ (by omega) (by omega)
theorem hms_99 (t:Int):0≤t%86400/3600∧t%86400/3600≤23∧0≤t%86400/60%60∧t%86400/60%60≤59∧0≤t%86400%60∧t%86400%60≤59:=by omega
theorem mom_ok:MomOk untZ momT:=by
 refine⟨fun t h=>?_,fun t h=>?_,fun t h=>?_⟩
 ·obtain⟨y,m,d,hd⟩:=loc_date h
  obtain⟨a1,a2,a3,a4,a5,a6,a7⟩:=vld_parts hd.1
  obtain⟨c1,c2,c3,c4,c5,c6⟩:=hms_99 t
  rw[momT_is hd,untZ_mtx (by omega),if_pos ⟨hd.1,tm_iff.2 ⟨c1,c2,c3,c4,c5,c6⟩⟩]
  have:=hd.2
  unfold inst secs
  congr 1
  omega
 ·obtain⟨y,m,d,hd⟩:=loc_date h
  rw[momT_is hd]
  have hf:=mtx_form y m d (t%86400/3600) (t%86400/60%60) (t%86400%60)
  intro x hx e
  obtain⟨i,hi,rfl⟩:=List.mem_iff_getElem.1 hx
  have:=hf.2 i hi
  rw[e]at this
  unfold okAt at this
  split at this
  ·exact absurd this (by decide)
  ·split at this
   ·exact absurd this (by decide)
   ·split at this
    ·exact absurd this (by decide)
    ·exact absurd this (by decide)
 ·obtain⟨y,m,d,hd⟩:=loc_date h
  rw[momT_is hd]
  exact mtx_length _ _ _ _ _ _
end Go.Proofs.YtlmeinikknoeeaaGreatDoor
namespace Go.Proofs.YtlmeinikknoeeaaGreatDoor
set_option linter.unusedVariables false
set_option linter.unnecessarySimpa false
set_option linter.unusedSimpArgs false
open Go.RowKit
theorem ext_bytes (w:World) (e:TypeId) (s:ByteArray):Ext w (Lib.bytesWorld w e s):=by
 exact Lib.bytesWorld_below w e s
theorem atoi_c (f:List UInt8) (w:World) (h1:1≤f.length) (h2:f.length≤9) (hd:∀c∈f,isDg c=true) :
  Calls Tryz.prog 308 #[.string ⟨f.toArray⟩] w fun e w'=>e = .returned (.tuple #[.int .i64 (val f:Nat),.nilIface])∧Ext w w':=by
 refine(Tryz.strconv_Atoi_ok ⟨f.toArray⟩ (by show f.toArray.size≤_;simp;omega) _ (atoi_val f h1 h2 hd) w).mono ?_
 rintro e w' ⟨rfl,rfl|⟨t,rfl⟩⟩
 ·exact⟨rfl,Ext.refl _⟩
 ·exact⟨rfl,ext_bytes _ _ _⟩
end Go.Proofs.YtlmeinikknoeeaaGreatDoor
namespace Go.Proofs.YtlmeinikknoeeaaGreatDoor
set_option maxRecDepth 100000
set_option maxHeartbeats 2000000
set_option linter.unusedVariables false
set_option linter.unnecessarySimpa false
set_option linter.unusedSimpArgs false
open Go.RowKit
theorem field_c (B:Nat) (l:List UInt8) (a b:Nat) (w:World) (hc:w.cell? ⟨B,0,none⟩=some (.string ⟨l.toArray⟩)) (h1:a+1≤b) (h2:b≤a+4) (h3:b≤l.length) (h4:l.length=19)
  (hd:∀c∈(l.drop a).take (b-a),isDg c=true) :
  Calls Tryz.prog 307 #[.int .i64 (a:Int),.int .i64 (b:Int),.pointer (some ⟨B,0,none⟩)] w fun e w'=>e = .returned (.int .i64 (val ((l.drop a).take (b-a)):Nat))∧Ext w w':=by
 have hm:=bmid l a b
 have hlen:((l.drop a).take (b-a)).length=b-a:=by rw[List.length_take,List.length_drop];omega
 have Hat:=Lib.hid hd
 generalize (l.drop a).take (b-a)=f at hm hlen Hat ⊢
 have Hlen:=Lib.hid hlen
 clear hd hlen
 go_enter Tryz.func307,Tryz.ntmps307
 go_wp2_with (go_at_call 308;(with_reducible refine(atoi_c f _ (by have:=Hlen.out;omega) (by have:=Hlen.out;omega) Hat.out).mono ?_);rintro e w1 ⟨rfl,hE⟩)
 go_ret
 exact⟨rfl,hE⟩
theorem fm_get (k:Nat) (h:k<19):(⟨#[48,48,48,48,45,48,48,45,48,48,84,48,48,58,48,48,58,48,48]⟩:ByteArray)[k]'(by show k<19;omega)=fmC k:=by
 rcases (show k=0∨k=1∨k=2∨k=3∨k=4∨k=5∨k=6∨k=7∨k=8∨k=9∨k=10∨k=11∨k=12∨k=13∨k=14∨k=15∨k=16∨k=17∨k=18 by omega)with rfl|rfl|rfl|rfl|rfl|rfl|rfl|rfl|rfl|rfl|rfl|rfl|rfl|rfl|rfl|rfl|rfl|rfl|rfl<;>rfl
theorem field_x (B:Nat) (l f:List UInt8) (a b:Nat) (v:Int) (w:World) (hc:w.cell? ⟨B,0,none⟩=some (.string ⟨l.toArray⟩)) (hf:(l.drop a).take (b-a)=f) (h1:a+1≤b) (h2:b≤a+4) (h3:b≤l.length) (h4:l.length=19)
  (hd:∀c∈f,isDg c=true) (hv:(val f:Int)=v) (x y:Int) (hx:x=a) (hy:y=b) :
  Calls Tryz.prog 307 #[.int .i64 x,.int .i64 y,.pointer (some ⟨B,0,none⟩)] w fun e w'=>e = .returned (.int .i64 v)∧Ext w w':=by
 subst hx hy hv hf
 exact field_c B l a b w hc h1 h2 h3 h4 hd
theorem set6 (w:World) (B:Nat) {v0 v1 v2 v3 v4 v5 x0 x1 x2 x3 x4 x5:Value} (r0:w.cell? ⟨B,0,none⟩=some x0) (r1:w.cell? ⟨B,1,none⟩=some x1) (r2:w.cell? ⟨B,2,none⟩=some x2) (r3:w.cell? ⟨B,3,none⟩=some x3) (r4:w.cell? ⟨B,4,none⟩=some x4) (r5:w.cell? ⟨B,5,none⟩=some x5):(w.setCell ⟨B,0,none⟩ v0).cell? ⟨B,0,none⟩=some v0∧((w.setCell ⟨B,0,none⟩ v0).setCell ⟨B,1,none⟩ v1).cell? ⟨B,1,none⟩=some v1∧(((w.setCell ⟨B,0,none⟩ v0).setCell ⟨B,1,none⟩ v1).setCell ⟨B,2,none⟩ v2).cell? ⟨B,2,none⟩=some v2∧((((w.setCell ⟨B,0,none⟩ v0).setCell ⟨B,1,none⟩ v1).setCell ⟨B,2,none⟩ v2).setCell ⟨B,3,none⟩ v3).cell? ⟨B,3,none⟩=some v3∧(((((w.setCell ⟨B,0,none⟩ v0).setCell ⟨B,1,none⟩ v1).setCell ⟨B,2,none⟩ v2).setCell ⟨B,3,none⟩ v3).setCell ⟨B,4,none⟩ v4).cell? ⟨B,4,none⟩=some v4∧((((((w.setCell ⟨B,0,none⟩ v0).setCell ⟨B,1,none⟩ v1).setCell ⟨B,2,none⟩ v2).setCell ⟨B,3,none⟩ v3).setCell ⟨B,4,none⟩ v4).setCell ⟨B,5,none⟩ v5).cell? ⟨B,5,none⟩=some v5:=
 ⟨World.cell?_setCell_same _ _ _ r0,World.cell?_setCell_same _ _ _ ((World.cell?_setCell_other _ _ _ _ (by simp)).trans r1),World.cell?_setCell_same _ _ _ ((World.cell?_setCell_other _ _ _ _ (by simp)).trans ((World.cell?_setCell_other _ _ _ _ (by simp)).trans r2)),World.cell?_setCell_same _ _ _ ((World.cell?_setCell_other _ _ _ _ (by simp)).trans ((World.cell?_setCell_other _ _ _ _ (by simp)).trans ((World.cell?_setCell_other _ _ _ _ (by simp)).trans r3))),World.cell?_setCell_same _ _ _ ((World.cell?_setCell_other _ _ _ _ (by simp)).trans ((World.cell?_setCell_other _ _ _ _ (by simp)).trans ((World.cell?_setCell_other _ _ _ _ (by simp)).trans ((World.cell?_setCell_other _ _ _ _ (by simp)).trans r4)))),World.cell?_setCell_same _ _ _ ((World.cell?_setCell_other _ _ _ _ (by simp)).trans ((World.cell?_setCell_other _ _ _ _ (by simp)).trans ((World.cell?_setCell_other _ _ _ _ (by simp)).trans ((World.cell?_setCell_other _ _ _ _ (by simp)).trans ((World.cell?_setCell_other _ _ _ _ (by simp)).trans r5)))))⟩
theorem parse_v (y m d hh mi s:Int) (w:World) (y0:0≤y) (y1:y≤9999) (m0:0≤m) (m1:m≤99) (d0:0≤d) (d1:d≤99) (h0:0≤hh) (h1:hh≤99) (i0:0≤mi) (i1:mi≤99) (s0:0≤s) (s1:s≤99) (hv:vldB y m d=true) (ht:tmB hh mi s=true) :
  Calls Tryz.prog 283 #[.string ⟨(mtx y m d hh mi s).toArray⟩] w fun e w'=>e = .returned (.tuple #[.agg #[.int .i64 y,.int .i64 m,.int .i64 d,.int .i64 hh,.int .i64 mi,.int .i64 s],.int .i64 0])∧Ext w w':=by
 obtain⟨hl,ho⟩:=mtx_form y m d hh mi s
 have Ho:=Lib.hid ho
 have P0:=Lib.hid (mtx_s0 y m d hh mi s)
 have P1:=Lib.hid (mtx_s1 y m d hh mi s)
 have P2:=Lib.hid (mtx_s2 y m d hh mi s)
 have P3:=Lib.hid (mtx_s3 y m d hh mi s)
 have P4:=Lib.hid (mtx_s4 y m d hh mi s)
 have P5:=Lib.hid (mtx_s5 y m d hh mi s)
 have V0:Hid ((val (padN 4 y.toNat):Int)=y):=by rw[Hid,val_padN 4 y.toNat (by omega)];omega
 have V1:Hid ((val (padN 2 m.toNat):Int)=m):=by rw[Hid,val_padN 2 m.toNat (by omega)];omega
 have V2:Hid ((val (padN 2 d.toNat):Int)=d):=by rw[Hid,val_padN 2 d.toNat (by omega)];omega
 have V3:Hid ((val (padN 2 hh.toNat):Int)=hh):=by rw[Hid,val_padN 2 hh.toNat (by omega)];omega
 have V4:Hid ((val (padN 2 mi.toNat):Int)=mi):=by rw[Hid,val_padN 2 mi.toNat (by omega)];omega
 have V5:Hid ((val (padN 2 s.toNat):Int)=s):=by rw[Hid,val_padN 2 s.toNat (by omega)];omega
 have Hl:=Lib.hid hl
 generalize mtx y m d hh mi s=l at hl Ho P0 P1 P2 P3 P4 P5 Hl ⊢
 clear ho
 go_enter Tryz.func283,Tryz.ntmps283
 go_wp2_with fail
 go_loopw [14] (fun t wr=>∃k:Nat,k≤19∧t = .int .i64 (k:Int)∧∃n,wr=((w.alloc (.cells #[.string ⟨l.toArray⟩] 9)).alloc (.cells #[.int .i64 0,.int .i64 0,.int .i64 0,.int .i64 0,.int .i64 0,.int .i64 0] 181)).drewN n) (fun t _=>19-(intOf t).toNat)
 case atStart=>exact⟨0,by omega,rfl,0,rfl⟩
 case round=>
  obtain⟨k,hk,rfl,n,rfl⟩:=hrel
  by_cases hlt:k<19
  ·obtain⟨c,hcl⟩:∃c,c=l[k]'(by omega):=⟨_,rfl⟩
   have hok:=Ho.out k (by omega)
   rw[←hcl]at hok
   have b0:=bget l k (by omega) c hcl
   have hfk:=fm_get k hlt
   by_cases hfm:fmC k=48
   ·rw[okAt_dg hfm,isDg_iff]at hok
    have c1:48≤(c.toNat:Int):=by omega
    have c2:(c.toNat:Int)≤57:=by omega
    have f1:(((fmC k).toNat:Int)==48)=true:=by rw[hfm];rfl
    have f2:(((fmC k).toNat:Int) != 48)=false:=by rw[hfm];rfl
    clear hok hcl hfm
    go_wp2
    go_quiet (fail)
    go_wp2
    go_roundw
    case rel=>exact⟨k+1,by omega,by go_num,_,rfl⟩
    case measure=>simp[intOf];omega
   ·rw[okAt_sep hfm,beq_iff_eq]at hok
    have f1:(((fmC k).toNat:Int)==48)=false:=by
     rw[beq_eq_false_iff_ne];intro e;exact hfm (UInt8.toNat_inj.1 (by show(fmC k).toNat=48;omega))
    have f2:(((fmC k).toNat:Int) != 48)=true:=by
     rw[bne_iff_ne];intro e;exact hfm (UInt8.toNat_inj.1 (by show(fmC k).toNat=48;omega))
    have f3:((c.toNat:Int) != ((fmC k).toNat:Int))=false:=by rw[hok];simp
    clear hok hcl hfm
    by_cases c1:48≤(c.toNat:Int)
    ·by_cases c2:(c.toNat:Int)≤57
     ·go_wp2
      go_quiet (fail)
      go_wp2
      go_roundw
      case rel=>exact⟨k+1,by omega,by go_num,_,rfl⟩
      case measure=>simp[intOf];omega
     ·go_wp2
      go_quiet (fail)
      go_wp2
      go_roundw
      case rel=>exact⟨k+1,by omega,by go_num,_,rfl⟩
      case measure=>simp[intOf];omega
    ·go_wp2
     go_quiet (fail)
     go_wp2
     go_roundw
     case rel=>exact⟨k+1,by omega,by go_num,_,rfl⟩
     case measure=>simp[intOf];omega
  ·obtain⟨W0,hW0⟩:∃W0,W0=((w.alloc (.cells #[.string ⟨l.toArray⟩] 9)).alloc (.cells #[.int .i64 0,.int .i64 0,.int .i64 0,.int .i64 0,.int .i64 0,.int .i64 0] 181)).drewN n:=⟨_,rfl⟩
   have hc:Hid (W0.cell? ⟨w.heap.size,0,none⟩=some (.string ⟨l.toArray⟩)):=by rw[Hid,hW0,World.cell?_drewN,World.cell?_alloc_lt _ _ _ (by simp)];simp
   have hR:=Lib.hid (show ∀o,W0.cell? ⟨w.heap.size+1,o,none⟩=(#[.int .i64 0,.int .i64 0,.int .i64 0,.int .i64 0,.int .i64 0,.int .i64 0]:Array Value)[o]? by
    intro o;rw[hW0,World.cell?_drewN];simp)
   have hF:=Lib.hid (show ∀o,W0.frozen? ⟨w.heap.size+1,o,none⟩=false by intro o;rw[hW0];simp)
   have hz:w.heap.size+1<W0.heap.size:=by rw[hW0];simp
   have hE:Ext w W0:=by rw[hW0];exact(((Ext.refl w).alloc _).alloc _).drewN _
   rw[←hW0]
   have hX:Hid (Ext W0 W0):=Ext.refl _
   have hz0:=Lib.hid hz
   clear hW0
   generalize hB:w.heap.size=B at hc hR hF hz ⊢
   have HB:=Lib.hid hB
   clear hB
   rw[HB.out]at hz0
   go_wp2_with (first
    | (go_at_call 307;(with_reducible refine(field_x B l _ 0 4 _ _ hc.out P0.out (by omega) (by omega) (by have:=Hl.out;omega) Hl.out (padN_dg _ _) V0.out 0 4 (by simp) (by simp)).mono ?_);rintro e w1 ⟨rfl,hE1⟩;replace hc:=Lib.hid ((hE1.cells _ _ (by omega)).trans hc.out);replace hX:=Lib.hid (hX.out.trans hE1);replace hz:=hE1.lt hz)
    | (go_at_call 307;(with_reducible refine(field_x B l _ 5 7 _ _ hc.out P1.out (by omega) (by omega) (by have:=Hl.out;omega) Hl.out (padN_dg _ _) V1.out 5 7 (by simp) (by simp)).mono ?_);rintro e w1 ⟨rfl,hE1⟩;replace hc:=Lib.hid ((hE1.cells _ _ (by omega)).trans hc.out);replace hX:=Lib.hid (hX.out.trans hE1);replace hz:=hE1.lt hz)
    | (go_at_call 307;(with_reducible refine(field_x B l _ 8 10 _ _ hc.out P2.out (by omega) (by omega) (by have:=Hl.out;omega) Hl.out (padN_dg _ _) V2.out 8 10 (by simp) (by simp)).mono ?_);rintro e w1 ⟨rfl,hE1⟩;replace hc:=Lib.hid ((hE1.cells _ _ (by omega)).trans hc.out);replace hX:=Lib.hid (hX.out.trans hE1);replace hz:=hE1.lt hz)
    | (go_at_call 307;(with_reducible refine(field_x B l _ 11 13 _ _ hc.out P3.out (by omega) (by omega) (by have:=Hl.out;omega) Hl.out (padN_dg _ _) V3.out 11 13 (by simp) (by simp)).mono ?_);rintro e w1 ⟨rfl,hE1⟩;replace hc:=Lib.hid ((hE1.cells _ _ (by omega)).trans hc.out);replace hX:=Lib.hid (hX.out.trans hE1);replace hz:=hE1.lt hz)
    | (go_at_call 307;(with_reducible refine(field_x B l _ 14 16 _ _ hc.out P4.out (by omega) (by omega) (by have:=Hl.out;omega) Hl.out (padN_dg _ _) V4.out 14 16 (by simp) (by simp)).mono ?_);rintro e w1 ⟨rfl,hE1⟩;replace hc:=Lib.hid ((hE1.cells _ _ (by omega)).trans hc.out);replace hX:=Lib.hid (hX.out.trans hE1);replace hz:=hE1.lt hz)
    | (go_at_call 307;(with_reducible refine(field_x B l _ 17 19 _ _ hc.out P5.out (by omega) (by omega) (by have:=Hl.out;omega) Hl.out (padN_dg _ _) V5.out 17 19 (by simp) (by simp)).mono ?_);rintro e w1 ⟨rfl,hE1⟩;replace hc:=Lib.hid ((hE1.cells _ _ (by omega)).trans hc.out);replace hX:=Lib.hid (hX.out.trans hE1);replace hz:=hE1.lt hz)
    | (go_at_call 264;(with_reducible refine(of_yes y m d hh mi s _ hv ht).mono ?_);go_loud (rintro e w9 ⟨rfl,hE9⟩;have k9:=hE9.cells;have z9:w1.heap.size<w9.heap.size:=(by have:=hE9.size;simp at this;omega);have r0:w9.cell? ⟨B+1,0,none⟩=some (.int .i64 0):=((hE9.cells _ _ (by simp;omega)).trans ((World.cell?_alloc_lt _ _ _ hz).trans ((hX.out.cells _ _ hz0.out).trans (hR.out 0))));have q0:w9.frozen? ⟨B+1,0,none⟩=false:=((hE9.frozens _ _ (by simp;omega)).trans ((World.frozen?_alloc_past _ _ _ hz).trans ((hX.out.frozens _ _ hz0.out).trans (hF.out 0))));have r1:w9.cell? ⟨B+1,1,none⟩=some (.int .i64 0):=((hE9.cells _ _ (by simp;omega)).trans ((World.cell?_alloc_lt _ _ _ hz).trans ((hX.out.cells _ _ hz0.out).trans (hR.out 1))));have q1:w9.frozen? ⟨B+1,1,none⟩=false:=((hE9.frozens _ _ (by simp;omega)).trans ((World.frozen?_alloc_past _ _ _ hz).trans ((hX.out.frozens _ _ hz0.out).trans (hF.out 1))));have r2:w9.cell? ⟨B+1,2,none⟩=some (.int .i64 0):=((hE9.cells _ _ (by simp;omega)).trans ((World.cell?_alloc_lt _ _ _ hz).trans ((hX.out.cells _ _ hz0.out).trans (hR.out 2))));have q2:w9.frozen? ⟨B+1,2,none⟩=false:=((hE9.frozens _ _ (by simp;omega)).trans ((World.frozen?_alloc_past _ _ _ hz).trans ((hX.out.frozens _ _ hz0.out).trans (hF.out 2))));have r3:w9.cell? ⟨B+1,3,none⟩=some (.int .i64 0):=((hE9.cells _ _ (by simp;omega)).trans ((World.cell?_alloc_lt _ _ _ hz).trans ((hX.out.cells _ _ hz0.out).trans (hR.out 3))));have q3:w9.frozen? ⟨B+1,3,none⟩=false:=((hE9.frozens _ _ (by simp;omega)).trans ((World.frozen?_alloc_past _ _ _ hz).trans ((hX.out.frozens _ _ hz0.out).trans (hF.out 3))));have r4:w9.cell? ⟨B+1,4,none⟩=some (.int .i64 0):=((hE9.cells _ _ (by simp;omega)).trans ((World.cell?_alloc_lt _ _ _ hz).trans ((hX.out.cells _ _ hz0.out).trans (hR.out 4))));have q4:w9.frozen? ⟨B+1,4,none⟩=false:=((hE9.frozens _ _ (by simp;omega)).trans ((World.frozen?_alloc_past _ _ _ hz).trans ((hX.out.frozens _ _ hz0.out).trans (hF.out 4))));have r5:w9.cell? ⟨B+1,5,none⟩=some (.int .i64 0):=((hE9.cells _ _ (by simp;omega)).trans ((World.cell?_alloc_lt _ _ _ hz).trans ((hX.out.cells _ _ hz0.out).trans (hR.out 5))));have q5:w9.frozen? ⟨B+1,5,none⟩=false:=((hE9.frozens _ _ (by simp;omega)).trans ((World.frozen?_alloc_past _ _ _ hz).trans ((hX.out.frozens _ _ hz0.out).trans (hF.out 5)))))))
   refine bodyPost_ret (v:=.tuple #[.agg #[.int .i64 y,.int .i64 m,.int .i64 d,.int .i64 hh,.int .i64 mi,.int .i64 s],.int .i64 0]) ?_ rfl ⟨rfl,?_⟩
   ·obtain⟨s0,s1,s2,s3,s4,s5⟩:=set6 w9 (B+1) (v0:=.int .i64 y) (v1:=.int .i64 m) (v2:=.int .i64 d) (v3:=.int .i64 hh) (v4:=.int .i64 mi) (v5:=.int .i64 s) r0 r1 r2 r3 r4 r5
    simp[results,Tryz.results283,go_sem,s0,s1,s2,s3,s4,s5]
   ·have hb:=HB.out
    iterate 6 refine Ext.setCell ?_ (by simp;omega) _
    exact hE.trans (hX.out.trans (((Ext.refl _).alloc _).trans hE9))
theorem parse_i (y m d hh mi s:Int) (w:World) (y0:0≤y) (y1:y≤9999) (m0:0≤m) (m1:m≤99) (d0:0≤d) (d1:d≤99) (h0:0≤hh) (h1:hh≤99) (i0:0≤mi) (i1:mi≤99) (s0:0≤s) (s1:s≤99) (hv:¬(vldB y m d=true∧tmB hh mi s=true)) :
  Calls Tryz.prog 283 #[.string ⟨(mtx y m d hh mi s).toArray⟩] w fun e w'=>e = .returned (.tuple #[.agg #[.int .i64 0,.int .i64 0,.int .i64 0,.int .i64 0,.int .i64 0,.int .i64 0],.int .i64 1])∧Ext w w':=by
 obtain⟨hl,ho⟩:=mtx_form y m d hh mi s
 have Ho:=Lib.hid ho
 have P0:=Lib.hid (mtx_s0 y m d hh mi s)
 have P1:=Lib.hid (mtx_s1 y m d hh mi s)
 have P2:=Lib.hid (mtx_s2 y m d hh mi s)
 have P3:=Lib.hid (mtx_s3 y m d hh mi s)
 have P4:=Lib.hid (mtx_s4 y m d hh mi s)
 have P5:=Lib.hid (mtx_s5 y m d hh mi s)
 have V0:Hid ((val (padN 4 y.toNat):Int)=y):=by rw[Hid,val_padN 4 y.toNat (by omega)];omega
 have V1:Hid ((val (padN 2 m.toNat):Int)=m):=by rw[Hid,val_padN 2 m.toNat (by omega)];omega
 have V2:Hid ((val (padN 2 d.toNat):Int)=d):=by rw[Hid,val_padN 2 d.toNat (by omega)];omega
 have V3:Hid ((val (padN 2 hh.toNat):Int)=hh):=by rw[Hid,val_padN 2 hh.toNat (by omega)];omega
 have V4:Hid ((val (padN 2 mi.toNat):Int)=mi):=by rw[Hid,val_padN 2 mi.toNat (by omega)];omega
 have V5:Hid ((val (padN 2 s.toNat):Int)=s):=by rw[Hid,val_padN 2 s.toNat (by omega)];omega
 have Hl:=Lib.hid hl
 generalize mtx y m d hh mi s=l at hl Ho P0 P1 P2 P3 P4 P5 Hl ⊢
 clear ho
 go_enter Tryz.func283,Tryz.ntmps283
 go_wp2_with fail
 go_loopw [14] (fun t wr=>∃k:Nat,k≤19∧t = .int .i64 (k:Int)∧∃n,wr=((w.alloc (.cells #[.string ⟨l.toArray⟩] 9)).alloc (.cells #[.int .i64 0,.int .i64 0,.int .i64 0,.int .i64 0,.int .i64 0,.int .i64 0] 181)).drewN n) (fun t _=>19-(intOf t).toNat)
 case atStart=>exact⟨0,by omega,rfl,0,rfl⟩
 case round=>
  obtain⟨k,hk,rfl,n,rfl⟩:=hrel
  by_cases hlt:k<19
  ·obtain⟨c,hcl⟩:∃c,c=l[k]'(by omega):=⟨_,rfl⟩
   have hok:=Ho.out k (by omega)
   rw[←hcl]at hok
   have b0:=bget l k (by omega) c hcl
   have hfk:=fm_get k hlt
   by_cases hfm:fmC k=48
   ·rw[okAt_dg hfm,isDg_iff]at hok
    have c1:48≤(c.toNat:Int):=by omega
    have c2:(c.toNat:Int)≤57:=by omega
    have f1:(((fmC k).toNat:Int)==48)=true:=by rw[hfm];rfl
    have f2:(((fmC k).toNat:Int) != 48)=false:=by rw[hfm];rfl
    clear hok hcl hfm
    go_wp2
    go_quiet (fail)
    go_wp2
    go_roundw
    case rel=>exact⟨k+1,by omega,by go_num,_,rfl⟩
    case measure=>simp[intOf];omega
   ·rw[okAt_sep hfm,beq_iff_eq]at hok
    have f1:(((fmC k).toNat:Int)==48)=false:=by
     rw[beq_eq_false_iff_ne];intro e;exact hfm (UInt8.toNat_inj.1 (by show(fmC k).toNat=48;omega))
    have f2:(((fmC k).toNat:Int) != 48)=true:=by
     rw[bne_iff_ne];intro e;exact hfm (UInt8.toNat_inj.1 (by show(fmC k).toNat=48;omega))
    have f3:((c.toNat:Int) != ((fmC k).toNat:Int))=false:=by rw[hok];simp
    clear hok hcl hfm
    by_cases c1:48≤(c.toNat:Int)
    ·by_cases c2:(c.toNat:Int)≤57
     ·go_wp2
      go_quiet (fail)
      go_wp2
      go_roundw
      case rel=>exact⟨k+1,by omega,by go_num,_,rfl⟩
      case measure=>simp[intOf];omega
     ·go_wp2
      go_quiet (fail)
      go_wp2
      go_roundw
      case rel=>exact⟨k+1,by omega,by go_num,_,rfl⟩
      case measure=>simp[intOf];omega
    ·go_wp2
     go_quiet (fail)
     go_wp2
     go_roundw
     case rel=>exact⟨k+1,by omega,by go_num,_,rfl⟩
     case measure=>simp[intOf];omega
  ·obtain⟨W0,hW0⟩:∃W0,W0=((w.alloc (.cells #[.string ⟨l.toArray⟩] 9)).alloc (.cells #[.int .i64 0,.int .i64 0,.int .i64 0,.int .i64 0,.int .i64 0,.int .i64 0] 181)).drewN n:=⟨_,rfl⟩
   have hc:Hid (W0.cell? ⟨w.heap.size,0,none⟩=some (.string ⟨l.toArray⟩)):=by rw[Hid,hW0,World.cell?_drewN,World.cell?_alloc_lt _ _ _ (by simp)];simp
   have hR:=Lib.hid (show ∀o,W0.cell? ⟨w.heap.size+1,o,none⟩=(#[.int .i64 0,.int .i64 0,.int .i64 0,.int .i64 0,.int .i64 0,.int .i64 0]:Array Value)[o]? by
    intro o;rw[hW0,World.cell?_drewN];simp)
   have hF:=Lib.hid (show ∀o,W0.frozen? ⟨w.heap.size+1,o,none⟩=false by intro o;rw[hW0];simp)
   have hz:w.heap.size+1<W0.heap.size:=by rw[hW0];simp
   have hE:Ext w W0:=by rw[hW0];exact(((Ext.refl w).alloc _).alloc _).drewN _
   rw[←hW0]
   have hX:Hid (Ext W0 W0):=Ext.refl _
   have hz0:=Lib.hid hz
   clear hW0
   generalize hB:w.heap.size=B at hc hR hF hz ⊢
   have HB:=Lib.hid hB
   clear hB
   rw[HB.out]at hz0
   go_wp2_with (first
    | (go_at_call 307;(with_reducible refine(field_x B l _ 0 4 _ _ hc.out P0.out (by omega) (by omega) (by have:=Hl.out;omega) Hl.out (padN_dg _ _) V0.out 0 4 (by simp) (by simp)).mono ?_);rintro e w1 ⟨rfl,hE1⟩;replace hc:=Lib.hid ((hE1.cells _ _ (by omega)).trans hc.out);replace hX:=Lib.hid (hX.out.trans hE1);replace hz:=hE1.lt hz)
    | (go_at_call 307;(with_reducible refine(field_x B l _ 5 7 _ _ hc.out P1.out (by omega) (by omega) (by have:=Hl.out;omega) Hl.out (padN_dg _ _) V1.out 5 7 (by simp) (by simp)).mono ?_);rintro e w1 ⟨rfl,hE1⟩;replace hc:=Lib.hid ((hE1.cells _ _ (by omega)).trans hc.out);replace hX:=Lib.hid (hX.out.trans hE1);replace hz:=hE1.lt hz)
    | (go_at_call 307;(with_reducible refine(field_x B l _ 8 10 _ _ hc.out P2.out (by omega) (by omega) (by have:=Hl.out;omega) Hl.out (padN_dg _ _) V2.out 8 10 (by simp) (by simp)).mono ?_);rintro e w1 ⟨rfl,hE1⟩;replace hc:=Lib.hid ((hE1.cells _ _ (by omega)).trans hc.out);replace hX:=Lib.hid (hX.out.trans hE1);replace hz:=hE1.lt hz)
    | (go_at_call 307;(with_reducible refine(field_x B l _ 11 13 _ _ hc.out P3.out (by omega) (by omega) (by have:=Hl.out;omega) Hl.out (padN_dg _ _) V3.out 11 13 (by simp) (by simp)).mono ?_);rintro e w1 ⟨rfl,hE1⟩;replace hc:=Lib.hid ((hE1.cells _ _ (by omega)).trans hc.out);replace hX:=Lib.hid (hX.out.trans hE1);replace hz:=hE1.lt hz)
    | (go_at_call 307;(with_reducible refine(field_x B l _ 14 16 _ _ hc.out P4.out (by omega) (by omega) (by have:=Hl.out;omega) Hl.out (padN_dg _ _) V4.out 14 16 (by simp) (by simp)).mono ?_);rintro e w1 ⟨rfl,hE1⟩;replace hc:=Lib.hid ((hE1.cells _ _ (by omega)).trans hc.out);replace hX:=Lib.hid (hX.out.trans hE1);replace hz:=hE1.lt hz)
    | (go_at_call 307;(with_reducible refine(field_x B l _ 17 19 _ _ hc.out P5.out (by omega) (by omega) (by have:=Hl.out;omega) Hl.out (padN_dg _ _) V5.out 17 19 (by simp) (by simp)).mono ?_);rintro e w1 ⟨rfl,hE1⟩;replace hc:=Lib.hid ((hE1.cells _ _ (by omega)).trans hc.out);replace hX:=Lib.hid (hX.out.trans hE1);replace hz:=hE1.lt hz)
    | (go_at_call 264;(with_reducible refine(of_no y m d hh mi s _ hv).mono ?_);go_loud (rintro e w9 ⟨rfl,hE9⟩;have k9:=hE9.cells;have z9:w1.heap.size<w9.heap.size:=(by have:=hE9.size;simp at this;omega);have r0:w9.cell? ⟨B+1,0,none⟩=some (.int .i64 0):=((hE9.cells _ _ (by simp;omega)).trans ((World.cell?_alloc_lt _ _ _ hz).trans ((hX.out.cells _ _ hz0.out).trans (hR.out 0))));have q0:w9.frozen? ⟨B+1,0,none⟩=false:=((hE9.frozens _ _ (by simp;omega)).trans ((World.frozen?_alloc_past _ _ _ hz).trans ((hX.out.frozens _ _ hz0.out).trans (hF.out 0))));have r1:w9.cell? ⟨B+1,1,none⟩=some (.int .i64 0):=((hE9.cells _ _ (by simp;omega)).trans ((World.cell?_alloc_lt _ _ _ hz).trans ((hX.out.cells _ _ hz0.out).trans (hR.out 1))));have q1:w9.frozen? ⟨B+1,1,none⟩=false:=((hE9.frozens _ _ (by simp;omega)).trans ((World.frozen?_alloc_past _ _ _ hz).trans ((hX.out.frozens _ _ hz0.out).trans (hF.out 1))));have r2:w9.cell? ⟨B+1,2,none⟩=some (.int .i64 0):=((hE9.cells _ _ (by simp;omega)).trans ((World.cell?_alloc_lt _ _ _ hz).trans ((hX.out.cells _ _ hz0.out).trans (hR.out 2))));have q2:w9.frozen? ⟨B+1,2,none⟩=false:=((hE9.frozens _ _ (by simp;omega)).trans ((World.frozen?_alloc_past _ _ _ hz).trans ((hX.out.frozens _ _ hz0.out).trans (hF.out 2))));have r3:w9.cell? ⟨B+1,3,none⟩=some (.int .i64 0):=((hE9.cells _ _ (by simp;omega)).trans ((World.cell?_alloc_lt _ _ _ hz).trans ((hX.out.cells _ _ hz0.out).trans (hR.out 3))));have q3:w9.frozen? ⟨B+1,3,none⟩=false:=((hE9.frozens _ _ (by simp;omega)).trans ((World.frozen?_alloc_past _ _ _ hz).trans ((hX.out.frozens _ _ hz0.out).trans (hF.out 3))));have r4:w9.cell? ⟨B+1,4,none⟩=some (.int .i64 0):=((hE9.cells _ _ (by simp;omega)).trans ((World.cell?_alloc_lt _ _ _ hz).trans ((hX.out.cells _ _ hz0.out).trans (hR.out 4))));have q4:w9.frozen? ⟨B+1,4,none⟩=false:=((hE9.frozens _ _ (by simp;omega)).trans ((World.frozen?_alloc_past _ _ _ hz).trans ((hX.out.frozens _ _ hz0.out).trans (hF.out 4))));have r5:w9.cell? ⟨B+1,5,none⟩=some (.int .i64 0):=((hE9.cells _ _ (by simp;omega)).trans ((World.cell?_alloc_lt _ _ _ hz).trans ((hX.out.cells _ _ hz0.out).trans (hR.out 5))));have q5:w9.frozen? ⟨B+1,5,none⟩=false:=((hE9.frozens _ _ (by simp;omega)).trans ((World.frozen?_alloc_past _ _ _ hz).trans ((hX.out.frozens _ _ hz0.out).trans (hF.out 5)))))))
   refine bodyPost_ret (v:=.tuple #[.agg #[.int .i64 0,.int .i64 0,.int .i64 0,.int .i64 0,.int .i64 0,.int .i64 0],.int .i64 1]) ?_ rfl ⟨rfl,?_⟩
   ·obtain⟨s0,s1,s2,s3,s4,s5⟩:=set6 w9 (B+1) (v0:=.int .i64 0) (v1:=.int .i64 0) (v2:=.int .i64 0) (v3:=.int .i64 0) (v4:=.int .i64 0) (v5:=.int .i64 0) r0 r1 r2 r3 r4 r5
    simp[results,Tryz.results283,go_sem,s0,s1,s2,s3,s4,s5]
   ·have hb:=HB.out
    iterate 6 refine Ext.setCell ?_ (by simp;omega) _
    exact hE.trans (hX.out.trans (((Ext.refl _).alloc _).trans hE9))
end Go.Proofs.YtlmeinikknoeeaaGreatDoor
