/- The walks of package clock and of its reference: moments out of range; the reference's moment; rounding. -/
import Derived.Test.YtlmeinikknoeeaaGreatDoorQ09
import Derived.Test.YtlmeinikknoeeaaGreatDoorQ10
namespace Go.Proofs.YtlmeinikknoeeaaGreatDoor
open Go.RowKit
def mom0:Value:=.agg #[.int .i64 0,.int .i64 0,.int .i64 0,.int .i64 0,.int .i64 0,.int .i64 0]
def rnd (n u k:Int):Int:=if n%u > 0∧(k=2∨k=3∧2*(n%u)≥u)then n-n%u+u else n-n%u
def lineB (n:Int):Bool:=decide (-4398046511104≤n∧n≤4398046511104)
def argB (u k:Int):Bool:=decide (1≤u∧u≤4398046511104∧1≤k∧k≤3)
def rndE (n u k:Int):Int:=if argB u k=false then 1 else if lineB n=false∨lineB (rnd n u k)=false then 2 else 0
def rndV (n u k:Int):Int:=if rndE n u k=0 then rnd n u k else 0
theorem mul_div_mod (n u:Int):u*(n/u)=n-n%u:=by
 have:=Int.mul_ediv_add_emod n u
 omega
end Go.Proofs.YtlmeinikknoeeaaGreatDoor
namespace Go.Proofs.YtlmeinikknoeeaaGreatDoor
open Go.RowKit
theorem ext3 {W W':World} {B:Nat} {v0 v1 v2:Value} (hE:Ext W W') (h:W.cell? ⟨B,0,none⟩=some v0∧W.cell? ⟨B,1,none⟩=some v1∧W.cell? ⟨B,2,none⟩=some v2∧B<W.heap.size) :
  W'.cell? ⟨B,0,none⟩=some v0∧W'.cell? ⟨B,1,none⟩=some v1∧W'.cell? ⟨B,2,none⟩=some v2∧B<W'.heap.size:=
 ⟨(hE.cells _ _ h.2.2.2).trans h.1,(hE.cells _ _ h.2.2.2).trans h.2.1,(hE.cells _ _ h.2.2.2).trans h.2.2.1,Nat.lt_of_lt_of_le h.2.2.2 hE.size⟩
theorem ext6 {W W':World} {B:Nat} {v0 v1 v2 v3 v4 v5:Value} (hE:Ext W W') (h:W.cell? ⟨B,0,none⟩=some v0∧W.cell? ⟨B,1,none⟩=some v1∧W.cell? ⟨B,2,none⟩=some v2∧W.cell? ⟨B,3,none⟩=some v3∧W.cell? ⟨B,4,none⟩=some v4∧W.cell? ⟨B,5,none⟩=some v5∧B<W.heap.size) :
  W'.cell? ⟨B,0,none⟩=some v0∧W'.cell? ⟨B,1,none⟩=some v1∧W'.cell? ⟨B,2,none⟩=some v2∧W'.cell? ⟨B,3,none⟩=some v3∧W'.cell? ⟨B,4,none⟩=some v4∧W'.cell? ⟨B,5,none⟩=some v5∧B<W'.heap.size:=by
 obtain⟨h0,h1,h2,h3,h4,h5,hb⟩:=h
 exact⟨(hE.cells _ _ hb).trans h0,(hE.cells _ _ hb).trans h1,(hE.cells _ _ hb).trans h2,(hE.cells _ _ hb).trans h3,(hE.cells _ _ hb).trans h4,(hE.cells _ _ hb).trans h5,Nat.lt_of_lt_of_le hb hE.size⟩
def dtx (y m d:Int):List UInt8:=padN 4 y.toNat ++ [45]++padN 2 m.toNat ++ [45]++padN 2 d.toNat
theorem itxI_pad (n:Int) (k:Nat) (hk:1≤k) (h0:0≤n) (h:n<10 ^ k):itxI n k=padN k n.toNat:=by
 unfold itxI
 rw[if_neg (by omega),show n.natAbs=n.toNat from by omega]
 exact itx_small hk (by
  have:((n.toNat:Nat):Int)<((10 ^ k:Nat):Int):=by
   rw[Int.toNat_of_nonneg h0];simpa using h
  exact Int.ofNat_lt.1 this)
theorem text_pad (n:Int) (k:Nat) (w:World) (hk:1≤k) (hk2:k≤4) (h0:0≤n) (h:n<10 ^ k) :
  Calls Tryz.prog 204 #[.int .i64 n,.int .i64 (k:Int)] w fun e w'=>e = .returned (.string ⟨(padN k n.toNat).toArray⟩)∧Ext w w':=by
 have hb:n<10000:=by
  have:(10:Int) ^ k≤10 ^ 4:=by
   rcases (show k=1∨k=2∨k=3∨k=4 by omega)with rfl|rfl|rfl|rfl<;>decide
  have:(10:Int) ^ 4=10000:=by decide
  omega
 have:=text_c n (k:Int) w (by omega) (by omega) (by omega) (by omega)
 rw[Int.toNat_natCast,itxI_pad n k hk h0 h]at this
 exact this
theorem text_4 (n:Int) (w:World) (h0:0≤n) (h:n≤9999) :
  Calls Tryz.prog 204 #[.int .i64 n,.int .i64 4] w fun e w'=>e = .returned (.string ⟨(padN 4 n.toNat).toArray⟩)∧Ext w w':=
 text_pad n 4 w (by omega) (by omega) h0 (by simp;omega)
theorem text_2 (n:Int) (w:World) (h0:0≤n) (h:n≤99) :
  Calls Tryz.prog 204 #[.int .i64 n,.int .i64 2] w fun e w'=>e = .returned (.string ⟨(padN 2 n.toNat).toArray⟩)∧Ext w w':=
 text_pad n 2 w (by omega) (by omega) h0 (by simp;omega)
set_option maxRecDepth 100000 in
set_option maxHeartbeats 1000000 in
theorem ctext_yes (y m d:Int) (w:World) (hv:vldB y m d=true):Calls Tryz.prog 266 #[.agg #[.int .i64 y,.int .i64 m,.int .i64 d]] w fun e w'=>e = .returned (.string ⟨(dtx y m d).toArray⟩)∧Ext w w':=by
 obtain⟨a,b,c,f,g,i,_⟩:=vld_parts hv
 have L1:=padN_length 4 y.toNat
 have L2:=padN_length 2 m.toNat
 have L3:=padN_length 2 d.toNat
 go_enter Tryz.func266,Tryz.ntmps266
 go_wp2_with (first
  | (go_at_call 301;refine(valid_c _ _ _ _).mono ?_;rintro e w1 ⟨rfl,hE⟩))
 have hz:w.heap.size<w1.heap.size:=by have:=hE.size;simp at this;omega
 have hc0:w1.cell? ⟨w.heap.size,0,none⟩=some (.int .i64 y):=by rw[hE.cells _ _ (by simp)];simp
 have hc1:w1.cell? ⟨w.heap.size,1,none⟩=some (.int .i64 m):=by rw[hE.cells _ _ (by simp)];simp
 have hc2:w1.cell? ⟨w.heap.size,2,none⟩=some (.int .i64 d):=by rw[hE.cells _ _ (by simp)];simp
 generalize hbk:w.heap.size=B at hz hc0 hc1 hc2 ⊢
 have Hbk:=Lib.hid hbk
 clear hbk
 go_wp2_with fail
 go_region_held3 (fun w'=>w'.cell? ⟨B,0,none⟩=some (.int .i64 y)∧w'.cell? ⟨B,1,none⟩=some (.int .i64 m)∧w'.cell? ⟨B,2,none⟩=some (.int .i64 d)∧B<w'.heap.size) (first|go_keep|exact S2.out|exact S3.out|exact S4.out)
  (first
    | (go_at_call 204;(with_reducible refine(text_4 y _ (by omega) (by omega)).mono ?_);rintro e w2 ⟨rfl,hE2⟩;have S2:=Lib.hid (ext3 hE2 ⟨hc0,hc1,hc2,hz⟩))
    | (go_at_call 204;(with_reducible refine(text_2 m _ (by omega) (by omega)).mono ?_);rintro e w3 ⟨rfl,hE3⟩;have S3:=Lib.hid (ext3 hE3 S2.out))
    | (go_at_call 204;(with_reducible refine(text_2 d _ (by omega) (by omega)).mono ?_);rintro e w4 ⟨rfl,hE4⟩;have S4:=Lib.hid (ext3 hE4 S3.out)))
 all_goals
  go_wp2
  go_ret
  refine⟨ret_s (by apply ByteArray.ext;simp[dtx]),?_⟩
  exact((((Ext.refl w).alloc _).trans hE).drew).trans (hE2.trans (hE3.trans hE4))
end Go.Proofs.YtlmeinikknoeeaaGreatDoor
