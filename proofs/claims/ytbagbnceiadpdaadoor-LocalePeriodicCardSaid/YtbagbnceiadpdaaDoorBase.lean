/- Small lemmas on worlds and results that every walk of this seat uses; nothing of the program is in sight here. -/
import Derived.Test.YtbagbnceiadpdaaDoorRows
import Derived.WalkKit
import Derived.WalkSpells
import Derived.WalkLawsBesides
import Derived.BigQuiet
import Derived.Deep.QuietTactic
import Derived.Deep.RegionHeld3
import Derived.Lib.Hide
namespace Go.Proofs.YtbagbnceiadpdaaDoor
open Go.RowKit

/-- The world w' has all the blocks of w as they were. -/
def Ext (w w' : World) : Prop := Below w.heap.size w w'
theorem Ext.refl (w : World) : Ext w w := Below.refl _ _
theorem Ext.size {w w' : World} (h : Ext w w') : w.heap.size ≤ w'.heap.size := Below.size h
theorem Ext.trans {a b c : World} (h : Ext a b) (k : Ext b c) : Ext a c := Below.trans h (Below.mono k h.size)
theorem Ext.drewN {a w : World} (h : Ext a w) (n : Nat) : Ext a (w.drewN n) := ⟨h.os, h.tape, h.output, h.size, h.block⟩
theorem Ext.drew {a w : World} (h : Ext a w) : Ext a w.drew := ⟨h.os, h.tape, h.output, h.size, h.block⟩
theorem Ext.alloc {a w : World} (h : Ext a w) (o : Obj) : Ext a (w.alloc o) := Below.alloc h h.size o
theorem Ext.setCell {a w : World} (h : Ext a w) {p : Addr} (hp : a.heap.size ≤ p.block) (u : Value) : Ext a (w.setCell p u) := Below.setCell h hp u
theorem Ext.cells {w w' : World} (h : Ext w w') : ∀ b o, b < w.heap.size → w'.cell? ⟨b, o, none⟩ = w.cell? ⟨b, o, none⟩ := fun b o hb => Below.cell h (p := ⟨b, o, none⟩) hb
theorem Ext.frozens {w w' : World} (h : Ext w w') : ∀ b o, b < w.heap.size → w'.frozen? ⟨b, o, none⟩ = w.frozen? ⟨b, o, none⟩ := fun b o hb => Below.frozen h (p := ⟨b, o, none⟩) hb
theorem Ext.lt {w w' : World} (h : Ext w w') {n : Nat} (hn : n < w.heap.size) : n < w'.heap.size := Nat.lt_of_lt_of_le hn h.size
theorem Ext.of_drewN {w w' : World} (h : ∃ n, w.drewN n = w') : Ext w w' := by
  obtain ⟨n, rfl⟩ := h
  exact (Ext.refl w).drewN n
theorem Ext.drewN_left {w w' : World} {n : Nat} (h : Ext (w.drewN n) w') : Ext w w' := ⟨h.os, h.tape, h.output, h.size, h.block⟩

theorem ret_i {k : IntKind} {a a' : Int} (h : a = a') : Ending.returned (.int k a) = .returned (.int k a') := by rw [h]
theorem ret_b {a a' : Bool} (h : a = a') : Ending.returned (.bool a) = .returned (.bool a') := by rw [h]
theorem ret_s {a a' : ByteArray} (h : a = a') : Ending.returned (.string a) = .returned (.string a') := by rw [h]
theorem ret_i2 {k1 k2 : IntKind} {a b a' b' : Int} (h1 : a = a') (h2 : b = b') : Ending.returned (.tuple #[.int k1 a, .int k2 b]) = .returned (.tuple #[.int k1 a', .int k2 b']) := by rw [h1, h2]
theorem ret_i3 {k1 k2 k3 : IntKind} {a b c a' b' c' : Int} (h1 : a = a') (h2 : b = b') (h3 : c = c') : Ending.returned (.tuple #[.int k1 a, .int k2 b, .int k3 c]) = .returned (.tuple #[.int k1 a', .int k2 b', .int k3 c']) := by rw [h1, h2, h3]

theorem quiet_of {P : Program} {f : FuncId} {args : Array Value} {w : World} {a n : Nat} {v : Value}
    (h : Calls P f args (w.drewN (a + n)) fun e w' => e = .returned v ∧ ∃ m, (w.drewN (a + n)).drewN m = w') :
    Calls P f args (w.drewN (a + n)) fun e w'' => e = .returned v ∧ ∃ m, w'' = w.drewN (a + m) :=
  h.mono fun _ _ ⟨he, m, hm⟩ => ⟨he, n + m, by rw [← hm, World.drewN_drewN, Nat.add_assoc]⟩
theorem quiet_of0 {P : Program} {f : FuncId} {args : Array Value} {w : World} {n : Nat} {v : Value}
    (h : Calls P f args (w.drewN n) fun e w' => e = .returned v ∧ ∃ m, (w.drewN n).drewN m = w') :
    Calls P f args (w.drewN n) fun e w'' => e = .returned v ∧ ∃ m, w'' = w.drewN m :=
  h.mono fun _ _ ⟨he, m, hm⟩ => ⟨he, n + m, by rw [← hm, World.drewN_drewN]⟩

theorem neg_div (n b : Int) (hb : 0 < b) : (-n) / b = if n % b = 0 then -(n / b) else -(n / b) - 1 := by
  have h1 := Int.mul_ediv_add_emod n b
  have h2 := Int.emod_nonneg n (show b ≠ 0 by omega)
  have h3 := Int.emod_lt_of_pos n hb
  have e1 : -(n / b) * b = - (b * (n / b)) := by rw [Int.neg_mul, Int.mul_comm]
  split
  · rename_i h
    rw [Int.ediv_eq_iff_of_pos hb]
    rw [e1]; omega
  · rename_i h
    rw [Int.ediv_eq_iff_of_pos hb, Int.sub_mul, e1]; omega

theorem neg_mod (n b : Int) (hb : 0 < b) : (-n) % b = if n % b = 0 then 0 else b - n % b := by
  have h1 := Int.mul_ediv_add_emod n b
  have h2 := Int.mul_ediv_add_emod (-n) b
  rw [neg_div n b hb] at h2
  split
  · rename_i h
    rw [if_pos h, Int.mul_neg] at h2
    omega
  · rename_i h
    rw [if_neg h, Int.mul_sub, Int.mul_neg] at h2
    omega

theorem div_half (a b : Int) (ha : 0 ≤ a) (hb : 2 ≤ b) : 2 * (a / b) ≤ a := by
  have h1 := Int.mul_ediv_add_emod a b
  have h2 := Int.emod_nonneg a (show b ≠ 0 by omega)
  have h3 := Int.ediv_nonneg (a := a) (b := b) ha (by omega)
  have h4 : 2 * (a / b) ≤ b * (a / b) := Int.mul_le_mul_of_nonneg_right hb h3
  omega
end Go.Proofs.YtbagbnceiadpdaaDoor
