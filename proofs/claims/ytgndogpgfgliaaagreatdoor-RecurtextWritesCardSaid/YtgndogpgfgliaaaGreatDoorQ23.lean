/- Recurrence rules, plainly: their description. No program in sight. -/
import Derived.Test.YtgndogpgfgliaaaGreatDoorQ02
import Derived.Test.YtgndogpgfgliaaaGreatDoorQ14
namespace Go.Proofs.YtgndogpgfgliaaaGreatDoor
set_option linter.unusedVariables false
set_option linter.unnecessarySimpa false
set_option linter.unusedSimpArgs false
open Go.RowKit

def moW : List (List UInt8) := [[74, 97, 110], [70, 101, 98], [77, 97, 114], [65, 112, 114], [77, 97, 121], [74, 117, 110], [74, 117, 108], [65, 117, 103], [83, 101, 112], [79, 99, 116], [78, 111, 118], [68, 101, 99]]
def wdW : List (List UInt8) := [[77, 111, 110], [84, 117, 101], [87, 101, 100], [84, 104, 117], [70, 114, 105], [83, 97, 116], [83, 117, 110]]
def unW : List (List UInt8) := [[121, 101, 97, 114], [109, 111, 110, 116, 104], [119, 101, 101, 107], [100, 97, 121], [104, 111, 117, 114]]
def getW (l : List (List UInt8)) (n : Int) : List UInt8 := if n < 1 ∨ (l.length : Int) < n then [] else l.getD (n - 1).toNat []
def sAnd : List UInt8 := [32, 97, 110, 100, 32]
def sCom : List UInt8 := [44, 32]
def sCAnd : List UInt8 := [44, 32, 97, 110, 100, 32]
/-- The list of some words. -/
def wordsT (l : List (List UInt8)) : List UInt8 := if l.length < 3 then Lib.join l sAnd else Lib.join l.dropLast sCom ++ (sCAnd ++ l.getLastD [])
/-- The same, word by word. -/
def pceW (n i : Nat) (x : List UInt8) : List UInt8 := (if 0 < i ∧ 2 < n then sCom else []) ++ ((if 0 < i ∧ n = 2 then [32] else []) ++ ((if 0 < i ∧ i + 1 = n then [97, 110, 100, 32] else []) ++ x))
def accW (l : List (List UInt8)) (k : Nat) : List UInt8 := ((List.range k).map fun i => pceW l.length i (l.getD i [])).flatten
theorem accW_0 (l : List (List UInt8)) : accW l 0 = [] := rfl
theorem accW_succ (l : List (List UInt8)) (k : Nat) : accW l (k + 1) = accW l k ++ pceW l.length k (l.getD k []) := by
  unfold accW
  rw [List.range_succ, List.map_append, List.flatten_append]
  simp
theorem join_snoc30 (sep y : List UInt8) : ∀ xs : List (List UInt8), Lib.join (xs ++ [y]) sep = if xs = [] then y else Lib.join xs sep ++ (sep ++ y)
  | [] => by rw [List.nil_append, Lib.join_one, if_pos rfl]
  | [x] => by
    rw [if_neg (by simp), Lib.join_one]
    show Lib.join [x, y] sep = _
    rw [Lib.join_cons]; simp [Lib.joinTail]
  | x :: z :: r => by
    have ih := join_snoc30 sep y (z :: r)
    have e : ∀ t, Lib.join (x :: z :: t) sep = x ++ (sep ++ Lib.join (z :: t) sep) := fun t => by rw [Lib.join_cons, Lib.join_cons]; simp [Lib.joinTail]
    rw [if_neg (by simp)] at ih ⊢
    show Lib.join (x :: z :: (r ++ [y])) sep = _
    rw [e, e, show Lib.join (z :: (r ++ [y])) sep = _ from ih]
    simp
theorem accW_com (l : List (List UInt8)) (h3 : 3 ≤ l.length) : ∀ k, k + 1 ≤ l.length → accW l k = Lib.join (l.take k) sCom
  | 0, _ => by rw [accW_0]; rfl
  | k + 1, hk => by
    have ih := accW_com l h3 k (by omega)
    have hl : k < l.length := by omega
    rw [accW_succ, ih, List.take_succ_eq_append_getElem hl, join_snoc30]
    have hg : l.getD k [] = l[k] := by simp [hl]
    unfold pceW
    rw [hg]
    have h2 : ¬ (0 < k ∧ l.length = 2) := by omega
    have h1 : ¬ (0 < k ∧ k + 1 = l.length) := by omega
    rw [if_neg h2, if_neg h1]
    by_cases h0 : k = 0
    · subst h0
      rw [if_neg (show ¬ (0 < 0 ∧ 2 < l.length) by omega), if_pos (by simp)]
      simp [Lib.join]
    · have ht : l.take k ≠ [] := by
        intro e
        have := congrArg List.length e
        rw [List.length_take, List.length_nil] at this
        omega
      rw [if_pos (show 0 < k ∧ 2 < l.length by omega), if_neg ht]
      simp
/-- Both lists of words are the same. -/
theorem accW_words (l : List (List UInt8)) : accW l l.length = wordsT l := by
  by_cases h3 : 3 ≤ l.length
  · obtain ⟨m, hm⟩ : ∃ m, l.length = m + 1 := ⟨l.length - 1, by omega⟩
    have hl : m < l.length := by omega
    have hg : l.getD m [] = l[m] := by simp [hl]
    have hla : l.getLastD [] = l[m] := by
      rw [List.getLastD_eq_getLast?, List.getLast?_eq_getElem?, show l.length - 1 = m by omega, List.getElem?_eq_getElem hl]
      rfl
    have hd : l.dropLast = l.take m := by rw [List.dropLast_eq_take, show l.length - 1 = m by omega]
    have hs := accW_succ l m
    unfold wordsT
    rw [if_neg (by omega), hd, hla, ← accW_com l h3 m (by omega)]
    rw [show accW l l.length = accW l (m + 1) by rw [hm], hs]
    congr 1
    unfold pceW
    rw [hg, if_pos (show 0 < m ∧ 2 < l.length by omega), if_neg (show ¬ (0 < m ∧ l.length = 2) by omega), if_pos (show 0 < m ∧ m + 1 = l.length by omega)]
    simp [sCom, sCAnd]
  · unfold wordsT
    rw [if_pos (by omega)]
    match l, h3 with
    | [], _ => rfl
    | [x], _ => rw [Lib.join_one]; simp [accW, pceW]
    | [x, y], _ =>
      rw [Lib.join_cons, show ([x, y] : List (List UInt8)).length = 0 + 1 + 1 from rfl, accW_succ, accW_succ, accW_0]
      simp [pceW, Lib.joinTail, sAnd]
    | x :: y :: z :: r, h => exact absurd (by simp) h
def dayD (o : Int × Int) : List UInt8 := if o.1 = 0 then getW wdW o.2 else decZ o.1 ++ ([46, 32] ++ getW wdW o.2)
/-- The pieces of the description. -/
def pceZ (momT : Int → List UInt8) (R : RecD) : List (List UInt8) :=
  [[101, 118, 101, 114, 121, 32] ++ (if R.iv = 1 then getW unW R.fr else decZ R.iv ++ (32 :: (getW unW R.fr ++ [115])))] ++
  (if R.mo = [] then [] else [[105, 110, 32] ++ wordsT (R.mo.map (getW moW))]) ++
  (if R.wk = [] then [] else [[105, 110, 32, 116, 104, 101, 32, 119, 101, 101, 107, 115, 32] ++ wordsT (R.wk.map decZ)]) ++
  (if R.yd = [] then [] else [[111, 110, 32, 116, 104, 101, 32, 100, 97, 121, 115, 32, 111, 102, 32, 116, 104, 101, 32, 121, 101, 97, 114, 32] ++ wordsT (R.yd.map decZ)]) ++
  (if R.md = [] then [] else [[111, 110, 32, 116, 104, 101, 32, 100, 97, 121, 115, 32, 111, 102, 32, 116, 104, 101, 32, 109, 111, 110, 116, 104, 32] ++ wordsT (R.md.map decZ)]) ++
  (if R.da = [] then [] else [[111, 110, 32] ++ wordsT (R.da.map dayD)]) ++
  (if R.ho = [] then [] else [[97, 116, 32, 116, 104, 101, 32, 104, 111, 117, 114, 115, 32] ++ wordsT (R.ho.map decZ)]) ++
  (if R.mi = [] then [] else [[97, 116, 32, 116, 104, 101, 32, 109, 105, 110, 117, 116, 101, 115, 32] ++ wordsT (R.mi.map decZ)]) ++
  (if R.se = [] then [] else [[97, 116, 32, 116, 104, 101, 32, 115, 101, 99, 111, 110, 100, 115, 32] ++ wordsT (R.se.map decZ)]) ++
  (if R.po = [] then [] else [[111, 110, 108, 121, 32, 116, 104, 101, 32, 110, 117, 109, 98, 101, 114, 115, 32] ++ wordsT (R.po.map decZ)]) ++
  (if R.ct = 0 then [] else [decZ R.ct ++ [32, 116, 105, 109, 101, 115]]) ++
  (if R.un = 0 then [] else [[117, 110, 116, 105, 108, 32] ++ momT R.un]) ++
  (if R.ws = 1 then [] else [[119, 101, 101, 107, 115, 32, 98, 101, 103, 105, 110, 32, 111, 110, 32] ++ getW wdW R.ws])
def desZ (momT : Int → List UInt8) (R : RecD) : List UInt8 := Lib.join (pceZ momT R) sCom
end Go.Proofs.YtgndogpgfgliaaaGreatDoor
/- Recurrence rules: the walks of the names of months and weekdays, of words and mapped. -/
namespace Go.Proofs.YtgndogpgfgliaaaGreatDoor
set_option linter.unusedVariables false
set_option linter.unnecessarySimpa false
set_option linter.unusedSimpArgs false
open Go.RowKit

theorem ret_str {a b : ByteArray} (h : a = b) : Ending.returned (.string a) = .returned (.string b) := by rw [h]
theorem getW_len {l : List (List UInt8)} {n : Int} {m : Nat} (h : ∀ a ∈ l, a.length ≤ m) : (getW l n).length ≤ m := by
  unfold getW
  split
  · simp
  · rename_i q
    have hk : (n - 1).toNat < l.length := by omega
    rw [show l.getD (n - 1).toNat [] = l[(n - 1).toNat] by rw [List.getD_eq_getElem?_getD, List.getElem?_eq_getElem hk]; rfl]
    exact h _ (List.getElem_mem _)
set_option maxRecDepth 100000 in
set_option maxHeartbeats 1000000 in
theorem zget_c (L : List (List UInt8)) (n : Int) (H : Nat) (X : List UInt8) (w : World) (h : RdS L H 0 w) (hL : L.length ≤ 100) (hn : i64 n) (hX : getW L n = X) :
    Calls Tryz.prog 103 #[.slice (some ⟨H, 0, none⟩) L.length L.length, .int .i64 n] w fun e w' => e = .returned (.string ⟨X.toArray⟩) ∧ w = w' := by
  unfold getW at hX
  unfold i64 at hn
  by_cases q1 : n < 1
  · rw [if_pos (.inl q1)] at hX
    subst hX
    have t1 : decide (n < 1) = true := decide_eq_true q1
    clear q1 h
    go_enter Tryz.func103, Tryz.ntmps103
    go_wp2_with fail
    go_ret
    exact ⟨rfl, rfl⟩
  have t1 : decide (n < 1) = false := decide_eq_false q1
  by_cases q2 : (L.length : Int) < n
  · rw [if_pos (.inr q2)] at hX
    subst hX
    have t2 : decide ((L.length : Int) < n) = true := decide_eq_true q2
    clear q1 q2 h
    go_enter Tryz.func103, Tryz.ntmps103
    go_wp2_with fail
    go_ret
    exact ⟨rfl, rfl⟩
  have t2 : decide ((L.length : Int) < n) = false := decide_eq_false q2
  rw [if_neg (by omega)] at hX
  obtain ⟨k, rfl⟩ : ∃ k : Nat, n = (k : Int) + 1 := ⟨(n - 1).toNat, by omega⟩
  have hk : k < L.length := by omega
  have x0 := h.2 k hk
  rw [Nat.zero_add] at x0
  rw [show ((k : Int) + 1 - 1).toNat = k by omega, show L.getD k [] = L[k] by simp [List.getD, hk]] at hX
  rw [hX] at x0
  have hz := h.1
  have hw1 : IntKind.i64.wrap ((k : Int) + 1 - 1) = (k : Int) := by rw [IntWalk.i64_in _ (by omega)]; omega
  have hw2 : IntKind.i64.wrap (k : Int) = (k : Int) := IntWalk.i64_in _ (by omega)
  obtain ⟨N, hN⟩ : ∃ N, N = L.length := ⟨_, rfl⟩
  rw [← hN] at t2 hk ⊢
  clear hX q1 q2 h hN hL
  go_enter Tryz.func103, Tryz.ntmps103
  go_wp2_with fail
  go_ret
  exact ⟨rfl, rfl⟩
theorem months_c (w : World) : Calls Tryz.prog 104 #[] w fun e w' => (∃ H, e = .returned (.slice (some ⟨H, 0, none⟩) 12 12) ∧ RdS moW H 0 w') ∧ Ext w w' := by
  have hR0 : RdS moW w.heap.size 0 (w.alloc (.cells (sv moW).toArray 9)) := by
    refine ⟨by simp, fun i hi => ?_⟩
    rw [Nat.zero_add, World.cell?_alloc_new]
    simp [sv, hi]
  go_enter Tryz.func104, Tryz.ntmps104
  go_wp2_with fail
  go_ret
  exact ⟨⟨_, rfl, hR0⟩, (Ext.refl w).alloc _⟩
theorem zwkdays_c (w : World) : Calls Tryz.prog 105 #[] w fun e w' => (∃ H, e = .returned (.slice (some ⟨H, 0, none⟩) 7 7) ∧ RdS wdW H 0 w') ∧ Ext w w' := by
  have hR0 : RdS wdW w.heap.size 0 (w.alloc (.cells (sv wdW).toArray 9)) := by
    refine ⟨by simp, fun i hi => ?_⟩
    rw [Nat.zero_add, World.cell?_alloc_new]
    simp [sv, hi]
  go_enter Tryz.func105, Tryz.ntmps105
  go_wp2_with fail
  go_ret
  exact ⟨⟨_, rfl, hR0⟩, (Ext.refl w).alloc _⟩
theorem mname_c (n : Int) (X : List UInt8) (w : World) (hn : i64 n) (hX : getW moW n = X) : Calls Tryz.prog 44 #[.int .i64 n] w fun e w' => e = .returned (.string ⟨X.toArray⟩) ∧ Ext w w' := by
  have HG : Hid (∀ H w', RdS moW H 0 w' → Calls Tryz.prog 103 #[.slice (some ⟨H, 0, none⟩) 12 12, .int .i64 n] w' fun e w'' => e = .returned (.string ⟨X.toArray⟩) ∧ w' = w'') := fun H w' q => zget_c moW n H X w' q (by decide) hn hX
  clear hn hX
  go_enter Tryz.func44, Tryz.ntmps44
  go_wp2_with (first
    | (go_at_call 104; (with_reducible refine (months_c _).mono ?_); rintro e w1 ⟨⟨H, rfl, hR⟩, hE1⟩; have HG2 := Lib.hid (HG.out H w1 hR); clear hR)
    | (go_at_call 103; (with_reducible refine HG2.out.mono ?_); rintro e w2 ⟨rfl, rfl⟩))
  go_ret
  exact ⟨rfl, hE1⟩
theorem wname_c (n : Int) (X : List UInt8) (w : World) (hn : i64 n) (hX : getW wdW n = X) : Calls Tryz.prog 47 #[.int .i64 n] w fun e w' => e = .returned (.string ⟨X.toArray⟩) ∧ Ext w w' := by
  have HG : Hid (∀ H w', RdS wdW H 0 w' → Calls Tryz.prog 103 #[.slice (some ⟨H, 0, none⟩) 7 7, .int .i64 n] w' fun e w'' => e = .returned (.string ⟨X.toArray⟩) ∧ w' = w'') := fun H w' q => zget_c wdW n H X w' q (by decide) hn hX
  clear hn hX
  go_enter Tryz.func47, Tryz.ntmps47
  go_wp2_with (first
    | (go_at_call 105; (with_reducible refine (zwkdays_c _).mono ?_); rintro e w1 ⟨⟨H, rfl, hR⟩, hE1⟩; have HG2 := Lib.hid (HG.out H w1 hR); clear hR)
    | (go_at_call 103; (with_reducible refine HG2.out.mono ?_); rintro e w2 ⟨rfl, rfl⟩))
  go_ret
  exact ⟨rfl, hE1⟩
set_option maxRecDepth 100000 in
set_option maxHeartbeats 1000000 in
theorem ddesc_c (n d : Int) (X : List UInt8) (w : World) (hn : i64 n) (hd : i64 d) (hX : dayD (n, d) = X) :
    Calls Tryz.prog 46 #[.agg #[.int .i64 n, .int .i64 d]] w fun e w' => e = .returned (.string ⟨X.toArray⟩) ∧ Ext w w' := by
  have hE0 : Ext w (w.alloc (.cells #[.int .i64 n, .int .i64 d] 48)) := (Ext.refl w).alloc _
  have HE0 := Lib.hid hE0
  have hcc : ∀ o, (w.alloc (.cells #[.int .i64 n, .int .i64 d] 48)).cell? ⟨w.heap.size, o, none⟩ = (#[.int .i64 n, .int .i64 d] : Array Value)[o]? := fun o => World.cell?_alloc_new _ _ _ _
  have k0 := hcc 0
  have k1 := hcc 1
  simp only [List.getElem?_toArray, List.getElem?_cons_zero, List.getElem?_cons_succ] at k0 k1
  have hkl : w.heap.size < (w.alloc (.cells #[.int .i64 n, .int .i64 d] 48)).heap.size := by simp
  obtain ⟨Z, hZ⟩ : ∃ Z, Z = getW wdW d := ⟨_, rfl⟩
  have hZl : Z.length ≤ 3 := by rw [hZ]; exact getW_len (by decide)
  have HW : Hid (∀ w', Calls Tryz.prog 47 #[.int .i64 d] w' fun e w'' => e = .returned (.string ⟨Z.toArray⟩) ∧ Ext w' w'') := fun w' => wname_c d Z w' hd hZ.symm
  unfold dayD at hX
  simp only at hX
  rw [← hZ] at hX
  clear hE0 hcc hZ
  by_cases h0 : n = 0
  · rw [if_pos h0] at hX
    subst hX
    have t1 : (n == 0) = true := by simpa using h0
    clear h0
    go_enter Tryz.func46, Tryz.ntmps46
    go_upto_region 1 with fail
    generalize w.alloc (.cells #[.int .i64 n, .int .i64 d] 48) = W0 at *
    generalize w.heap.size = B at *
    go_wp2_with (go_at_call 47; (with_reducible refine (HW.out _).mono ?_); rintro e w1 ⟨rfl, hE1⟩)
    go_ret
    exact ⟨rfl, HE0.out.trans hE1⟩
  · rw [if_neg h0] at hX
    have t1 : (n == 0) = false := by simpa using h0
    obtain ⟨Y, hY⟩ : ∃ Y, Y = decZ n := ⟨_, rfl⟩
    have hYl : Y.length ≤ 20 := by rw [hY]; exact decZ_20 hn
    have HD : Hid (∀ w', Calls Tryz.prog 42 #[.int .i64 n] w' fun e w'' => e = .returned (.string ⟨Y.toArray⟩) ∧ Ext w' w'') := fun w' => udec_c n Y w' hn hY.symm
    rw [← hY] at hX
    have HX := Lib.hid hX
    clear h0 hY hX
    go_enter Tryz.func46, Tryz.ntmps46
    go_upto_region 3 with fail
    generalize w.alloc (.cells #[.int .i64 n, .int .i64 d] 48) = W0 at *
    generalize w.heap.size = B at *
    go_region_with (first
      | (go_at_call 47; (with_reducible refine (HW.out _).mono ?_); rintro e w1 ⟨rfl, hE1⟩; have hY1 := Ext.trans (show Ext W0 _ from (by (repeat (with_reducible (first | assumption | exact Ext.refl _ | refine Ext.alloc ?_ _ | refine Ext.drewN ?_ _ | refine Ext.drew ?_))))) hE1; have g0 := (hY1.cells B 0 hkl).trans k0; have hl1 := hY1.lt hkl)
      | (go_at_call 42; (with_reducible refine (HD.out _).mono ?_); rintro e w2 ⟨rfl, hE2⟩; have hY2 := Ext.trans (show Ext W0 _ from (by (repeat (with_reducible (first | assumption | exact Ext.refl _ | refine Ext.alloc ?_ _ | refine Ext.drewN ?_ _ | refine Ext.drew ?_))))) hE2; have g1 := (hY2.cells B 1 hkl).trans k1; have hl2 := hY2.lt hkl))
    all_goals
      go_wp2_with fail
      go_ret
      refine ⟨(ret_str ?_), HE0.out.trans (by (repeat (with_reducible (first | assumption | exact Ext.refl _ | refine Ext.alloc ?_ _ | refine Ext.drewN ?_ _ | refine Ext.drew ?_))))⟩
      rw [← HX.out]
      apply ByteArray.ext
      simp
set_option maxRecDepth 100000 in
set_option maxHeartbeats 1000000 in
theorem words_c (ws : List (List UInt8)) (base : Nat) (ao : Option Addr) (cap : Nat) (X : List UInt8) (w : World) (h : w.ownsRow base 9 1 (.slice ao ws.length cap) ws.length (sv ws)) (hn : ws.length ≤ 1000) (hl : ∀ a ∈ ws, a.length ≤ 100) (hX : wordsT ws = X) :
    Calls Tryz.prog 102 #[.slice ao ws.length cap] w fun e w' => e = .returned (.string ⟨X.toArray⟩) ∧ Ext w w' := by
  unfold wordsT at hX
  by_cases h3 : ws.length < 3
  · rw [if_pos h3] at hX
    have HJ := Lib.hid (ojoin_c ws base 9 ao cap sAnd X w h (by omega) (Nat.le_trans (join_le ws sAnd 100 hl) (by have : sAnd.length = 5 := rfl; rw [this]; omega)) hX)
    have t1 : decide ((ws.length : Int) < 3) = true := decide_eq_true (by omega)
    obtain ⟨N, hN⟩ : ∃ N, N = ws.length := ⟨_, rfl⟩
    rw [← hN] at HJ t1 ⊢
    have HJ2 : Hid (Calls Tryz.prog 34 #[.slice ao N cap, .string ⟨#[32, 97, 110, 100, 32]⟩] w fun e w' => e = .returned (.string ⟨X.toArray⟩) ∧ Ext w w') := HJ.out
    clear h h3 hn hX HJ hN
    go_enter Tryz.func102, Tryz.ntmps102
    go_wp2_with (go_at_call 34; (with_reducible refine HJ2.out.mono ?_); rintro e w1 ⟨rfl, hE1⟩)
    go_ret
    exact ⟨rfl, hE1⟩
  · rw [if_neg h3] at hX
    obtain ⟨m, hm⟩ : ∃ m, ws.length = m + 1 := ⟨ws.length - 1, by omega⟩
    have t1 : decide (((m + 1 : Nat) : Int) < 3) = false := decide_eq_false (by omega)
    have t1' : decide ((m : Int) + 1 < 3) = false := decide_eq_false (by omega)
    obtain ⟨R, cp, he, h1, h2, hR, -⟩ := RdS.of_own h rfl (by intro e; rw [e] at hm; cases hm)
    injection he with e1 e2 e3
    subst e1; subst e3
    have hRz := hR.1
    have hml : m < ws.length := by omega
    have x0 := hR.2 m hml
    rw [Nat.zero_add] at x0
    have hla : ws.getLastD [] = ws[m] := by
      rw [List.getLastD_eq_getLast?, List.getLast?_eq_getElem?, show ws.length - 1 = m by omega, List.getElem?_eq_getElem hml]
      rfl
    have hd : ws.dropLast = ws.take m := by rw [List.dropLast_eq_take, show ws.length - 1 = m by omega]
    rw [hla, hd] at hX
    have hyl := hl ws[m] (List.getElem_mem _)
    obtain ⟨Y, hY⟩ : ∃ Y, Y = ws[m] := ⟨_, rfl⟩
    rw [← hY] at hX x0 hyl
    obtain ⟨J, hJ⟩ : ∃ J, Lib.join (ws.take m) sCom = J := ⟨_, rfl⟩
    rw [hJ] at hX
    have htl : (ws.take m).length = m := by rw [List.length_take]; omega
    have hJb := join_le (ws.take m) sCom 100 (fun a ha => hl a (List.mem_of_mem_take ha))
    rw [htl, show sCom.length = 2 from rfl, hJ] at hJb
    have hJl : J.length ≤ 200000 := Nat.le_trans hJb (by omega)
    have HJ2 : Hid (∀ W, Ext w W → Calls Tryz.prog 34 #[.slice (some ⟨R, 0, none⟩) m cap, .string ⟨#[44, 32]⟩] W fun e w' => e = .returned (.string ⟨J.toArray⟩) ∧ Ext W w') := fun W hE => by
      have hRt : RdS (ws.take m) R 0 W := ⟨hE.lt hR.1, fun i hi => by
        have := (hR.ext hE).2 i (by rw [htl] at hi; omega)
        rw [this, List.getElem_take]⟩
      have := sjoin_c (ws.take m) R 0 cap sCom J W hRt (by rw [htl]; omega) (by rw [htl]; omega) (by rw [hJ]; omega) hJ
      rw [htl] at this
      exact this
    have HX := Lib.hid hX
    have hw1 : IntKind.i64.wrap ((m : Int) + 1 - 1) = (m : Int) := by rw [IntWalk.i64_in _ (by omega)]; omega
    have hw2 : IntKind.i64.wrap (m : Int) = (m : Int) := IntWalk.i64_in _ (by omega)
    have hmc : m + 1 ≤ cap := by omega
    have hm0 : (0 : Int) ≤ (m : Int) := by omega
    have hm1 : (m : Int) < ((m + 1 : Nat) : Int) := by omega
    have hm2 : (m : Int) ≤ (cap : Int) := by omega
    rw [hm]
    have hmb : m ≤ 1000 := by omega
    unfold maxLen at h2
    clear h h3 hn hl hX hm hml hla hd hY hJ htl hJb hR h1
    go_enter Tryz.func102, Tryz.ntmps102
    go_upto_region 4 with fail
    go_region_with (go_at_call 34; (with_reducible refine (HJ2.out _ (by (repeat (with_reducible (first | assumption | exact Ext.refl _ | refine Ext.alloc ?_ _ | refine Ext.drewN ?_ _ | refine Ext.drew ?_))))).mono ?_); rintro e w1 ⟨rfl, hE1⟩; have hY1 := Ext.trans (show Ext w _ from (by (repeat (with_reducible (first | assumption | exact Ext.refl _ | refine Ext.alloc ?_ _ | refine Ext.drewN ?_ _ | refine Ext.drew ?_))))) hE1; have g0 := (hY1.cells R m hRz).trans x0; have hl1 := hY1.lt hRz)
    all_goals
      go_wp2_with fail
      go_ret
      refine ⟨(ret_str ?_), (by (repeat (with_reducible (first | assumption | exact Ext.refl _ | refine Ext.alloc ?_ _ | refine Ext.drewN ?_ _ | refine Ext.drew ?_))))⟩
      rw [← HX.out]
      apply ByteArray.ext
      simp [sCAnd]
end Go.Proofs.YtgndogpgfgliaaaGreatDoor
