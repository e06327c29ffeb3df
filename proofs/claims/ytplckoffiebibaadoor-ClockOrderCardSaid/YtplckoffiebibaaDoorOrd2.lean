/- The walk of the law ClockOrder. -/
import Derived.Test.YtplckoffiebibaaDoorOrd
import Derived.Test.YtplckoffiebibaaDoorLaw6
import Derived.Test.YtplckoffiebibaaDoorShelf
namespace Go.Proofs.YtplckoffiebibaaDoor
set_option linter.unusedVariables false
set_option linter.unusedSimpArgs false
open Go.RowKit

theorem ext12 {W W' : World} (hE : Ext W W') {B1 B2 : Nat} {a0 a1 a2 a3 a4 a5 b0 b1 b2 b3 b4 b5 : Int} (h : W.cell? ⟨B1, 0, none⟩ = some (.int .i64 a0) ∧ W.cell? ⟨B1, 1, none⟩ = some (.int .i64 a1) ∧ W.cell? ⟨B1, 2, none⟩ = some (.int .i64 a2) ∧ W.cell? ⟨B1, 3, none⟩ = some (.int .i64 a3) ∧ W.cell? ⟨B1, 4, none⟩ = some (.int .i64 a4) ∧ W.cell? ⟨B1, 5, none⟩ = some (.int .i64 a5) ∧ W.cell? ⟨B2, 0, none⟩ = some (.int .i64 b0) ∧ W.cell? ⟨B2, 1, none⟩ = some (.int .i64 b1) ∧ W.cell? ⟨B2, 2, none⟩ = some (.int .i64 b2) ∧ W.cell? ⟨B2, 3, none⟩ = some (.int .i64 b3) ∧ W.cell? ⟨B2, 4, none⟩ = some (.int .i64 b4) ∧ W.cell? ⟨B2, 5, none⟩ = some (.int .i64 b5) ∧ B1 < W.heap.size ∧ B2 < W.heap.size) : W'.cell? ⟨B1, 0, none⟩ = some (.int .i64 a0) ∧ W'.cell? ⟨B1, 1, none⟩ = some (.int .i64 a1) ∧ W'.cell? ⟨B1, 2, none⟩ = some (.int .i64 a2) ∧ W'.cell? ⟨B1, 3, none⟩ = some (.int .i64 a3) ∧ W'.cell? ⟨B1, 4, none⟩ = some (.int .i64 a4) ∧ W'.cell? ⟨B1, 5, none⟩ = some (.int .i64 a5) ∧ W'.cell? ⟨B2, 0, none⟩ = some (.int .i64 b0) ∧ W'.cell? ⟨B2, 1, none⟩ = some (.int .i64 b1) ∧ W'.cell? ⟨B2, 2, none⟩ = some (.int .i64 b2) ∧ W'.cell? ⟨B2, 3, none⟩ = some (.int .i64 b3) ∧ W'.cell? ⟨B2, 4, none⟩ = some (.int .i64 b4) ∧ W'.cell? ⟨B2, 5, none⟩ = some (.int .i64 b5) ∧ B1 < W'.heap.size ∧ B2 < W'.heap.size := by
  obtain ⟨h0, h1, h2, h3, h4, h5, k0, k1, k2, k3, k4, k5, g1, g2⟩ := h
  refine ⟨?_, ?_, ?_, ?_, ?_, ?_, ?_, ?_, ?_, ?_, ?_, ?_, hE.lt g1, hE.lt g2⟩
  all_goals (rw [hE.cells _ _ (by assumption)]; assumption)
theorem scount_c (X : List UInt8) (w : World) (h : X.count 58 = 2) : Calls Tryd.prog 41 #[.string ⟨X.toArray⟩, .string ⟨#[58]⟩] w fun e w' => e = .returned (.int .i64 2) ∧ w = w' := by
  refine (Tryd.strings_Count_one ⟨X.toArray⟩ 58 w).mono ?_
  rintro e w' ⟨rfl, rfl⟩
  refine ⟨?_, rfl⟩
  show Ending.returned (.int .i64 ((X.count 58 : Nat) : Int)) = _
  rw [h]; rfl
theorem moment_mom (t : Int) (w : World) (h : insT t = true) :
    Calls Tryd.prog 26 #[.int .i64 t] w fun e w' => ∃ y m d : Int, e = .returned (.tuple #[.agg #[.int .i64 y, .int .i64 m, .int .i64 d, .int .i64 (t % 86400 / 3600), .int .i64 (t % 86400 / 60 % 60), .int .i64 (t % 86400 % 60)], .int .i64 0]) ∧ Ext w w' :=
  (moment_yes t w h).mono fun e w' ⟨y, m, d, h1, _, h2⟩ => ⟨y, m, d, h1, h2⟩
theorem moment_no' (t : Int) (w : World) (h : insT t = false) :
    Calls Tryd.prog 26 #[.int .i64 t] w fun e w' => e = .returned (.tuple #[.agg #[.int .i64 0, .int .i64 0, .int .i64 0, .int .i64 0, .int .i64 0, .int .i64 0], .int .i64 2]) ∧ Ext w w' := moment_no t w h
set_option maxRecDepth 100000 in
set_option maxHeartbeats 2000000 in
theorem order_lt (t u A B C a b c : Int) (w : World) (hL : Laid w) (h : insT t = true) (h' : insT u = true) (e1 : hmsOf t A B C) (e2 : hmsOf u a b c) (hlt : t < u) :
    Calls Tryd.prog 11 #[.int .i64 t, .int .i64 u] w fun e w' => e = .returned (.bool true) ∧ Ext w w' := by
  have HL := Lib.hid hL
  have H1 := Lib.hid h
  have H2 := Lib.hid h'
  have E1 := Lib.hid e1
  have E2 := Lib.hid e2
  have d1 : decide (t < u) = true := by (try have hlt := hlt.out); simp; omega
  have d2 : (t == u) = false := by (try have hlt := hlt.out); simp; omega
  clear hL h h' e1 e2
  go_enter Tryd.func11, Tryd.ntmps11
  go_wp2_with (first
    | (go_at_call 13; refine (awake_c _ HL.out).mono ?_; rintro e w1 ⟨rfl, hE1⟩)
    | (go_at_call 26; (with_reducible refine (moment_hms t _ H1.out E1.out).mono ?_); rintro e w2 ⟨y, m, d, rfl, hD, hE2⟩; have H1 := (); have z2 := hE2.size)
    | (go_at_call 26; (with_reducible refine (moment_hms u _ H2.out E2.out).mono ?_); rintro e w3 ⟨y', m', d', rfl, hD', hE3⟩; have hc3 := hE3.cells; have z3 : w2.heap.size < w3.heap.size := (by have := hE3.size; (try simp at this); omega)))
  have hE4 : Ext w (w3.alloc (.cells #[.int .i64 y', .int .i64 m', .int .i64 d', .int .i64 a, .int .i64 b, .int .i64 c] 44)) := (hE1.trans (hE2.trans (((Ext.refl _).alloc _).trans hE3))).alloc _
  obtain ⟨w4, hw4⟩ : ∃ w4, w4 = w3.alloc (.cells #[.int .i64 y', .int .i64 m', .int .i64 d', .int .i64 a, .int .i64 b, .int .i64 c] 44) := ⟨_, rfl⟩
  have k0 : w4.cell? ⟨w2.heap.size, 0, none⟩ = some (.int .i64 y) := by rw [hw4, World.cell?_alloc_lt _ _ _ z3, hc3 _ _ (by simp)]; simp
  have k1 : w4.cell? ⟨w2.heap.size, 1, none⟩ = some (.int .i64 m) := by rw [hw4, World.cell?_alloc_lt _ _ _ z3, hc3 _ _ (by simp)]; simp
  have k2 : w4.cell? ⟨w2.heap.size, 2, none⟩ = some (.int .i64 d) := by rw [hw4, World.cell?_alloc_lt _ _ _ z3, hc3 _ _ (by simp)]; simp
  have k3 : w4.cell? ⟨w2.heap.size, 3, none⟩ = some (.int .i64 A) := by rw [hw4, World.cell?_alloc_lt _ _ _ z3, hc3 _ _ (by simp)]; simp
  have k4 : w4.cell? ⟨w2.heap.size, 4, none⟩ = some (.int .i64 B) := by rw [hw4, World.cell?_alloc_lt _ _ _ z3, hc3 _ _ (by simp)]; simp
  have k5 : w4.cell? ⟨w2.heap.size, 5, none⟩ = some (.int .i64 C) := by rw [hw4, World.cell?_alloc_lt _ _ _ z3, hc3 _ _ (by simp)]; simp
  have l0 : w4.cell? ⟨w3.heap.size, 0, none⟩ = some (.int .i64 y') := by rw [hw4]; simp
  have l1 : w4.cell? ⟨w3.heap.size, 1, none⟩ = some (.int .i64 m') := by rw [hw4]; simp
  have l2 : w4.cell? ⟨w3.heap.size, 2, none⟩ = some (.int .i64 d') := by rw [hw4]; simp
  have l3 : w4.cell? ⟨w3.heap.size, 3, none⟩ = some (.int .i64 a) := by rw [hw4]; simp
  have l4 : w4.cell? ⟨w3.heap.size, 4, none⟩ = some (.int .i64 b) := by rw [hw4]; simp
  have l5 : w4.cell? ⟨w3.heap.size, 5, none⟩ = some (.int .i64 c) := by rw [hw4]; simp
  have g1 : w2.heap.size < w4.heap.size := by rw [hw4]; simp; omega
  have g2 : w3.heap.size < w4.heap.size := by rw [hw4]; simp
  rw [← hw4] at hE4 ⊢
  clear hw4 hc3 hE3
  have hV := hD.1
  have hV' := hD'.1
  have ht1 := hms_tm E1.out
  have ht2 := hms_tm E2.out
  generalize w2.heap.size = B1 at k0 k1 k2 k3 k4 k5 g1 ⊢
  generalize w3.heap.size = B2 at l0 l1 l2 l3 l4 l5 g2 ⊢
  go_region_held3 (fun w' => w'.cell? ⟨B1, 0, none⟩ = some (.int .i64 y) ∧ w'.cell? ⟨B1, 1, none⟩ = some (.int .i64 m) ∧ w'.cell? ⟨B1, 2, none⟩ = some (.int .i64 d) ∧ w'.cell? ⟨B1, 3, none⟩ = some (.int .i64 A) ∧ w'.cell? ⟨B1, 4, none⟩ = some (.int .i64 B) ∧ w'.cell? ⟨B1, 5, none⟩ = some (.int .i64 C) ∧ w'.cell? ⟨B2, 0, none⟩ = some (.int .i64 y') ∧ w'.cell? ⟨B2, 1, none⟩ = some (.int .i64 m') ∧ w'.cell? ⟨B2, 2, none⟩ = some (.int .i64 d') ∧ w'.cell? ⟨B2, 3, none⟩ = some (.int .i64 a) ∧ w'.cell? ⟨B2, 4, none⟩ = some (.int .i64 b) ∧ w'.cell? ⟨B2, 5, none⟩ = some (.int .i64 c) ∧ B1 < w'.heap.size ∧ B2 < w'.heap.size) (first | go_keep | exact S5.out | exact S6.out)
    (first
      | (go_at_call 40; (with_reducible refine (mtext_yes y m d A B C _ hV ht1).mono ?_); rintro e w5 ⟨rfl, hE5⟩; have S5 := Lib.hid (ext12 hE5 ⟨k0, k1, k2, k3, k4, k5, l0, l1, l2, l3, l4, l5, g1, g2⟩))
      | (go_at_call 40; (with_reducible refine (mtext_yes y' m' d' a b c _ hV' ht2).mono ?_); rintro e w6 ⟨rfl, hE6⟩; have S6 := Lib.hid (ext12 hE6 S5.out)))
  all_goals
    have q1 := mtx_less hD.1 hD'.1 (hms_tm E1.out) (hms_tm E2.out)
    have q2 := mtx_eq hD.1 hD'.1 (hms_tm E1.out) (hms_tm E2.out)
    rw [inst_back hD E1.out, inst_back hD' E2.out] at q1 q2
    have q3 := mtx_length y m d A B C
    have q4 := mtx_count y m d A B C
    have q3' := mtx_length y' m' d' a b c
    have q4' := mtx_count y' m' d' a b c
    have q5 : mtx y m d A B C = mtx y' m' d' a b c ↔ t = u := ⟨q2, fun e => by subst e
                                                                               obtain ⟨rfl, rfl, rfl⟩ := hD.inj hD'
                                                                               obtain ⟨rfl, rfl, rfl⟩ := E1.out
                                                                               obtain ⟨rfl, rfl, rfl⟩ := E2.out
                                                                               rfl⟩
    clear q2
    generalize mtx y m d A B C = X at q1 q3 q4 q5 ⊢
    generalize mtx y' m' d' a b c = Y at q1 q3' q4' q5 ⊢
    have f1 : Op.bytesLess X Y = true := q1.trans d1
    have f2 : (X == Y) = false := by rw [← d2, Bool.eq_iff_iff, beq_iff_eq, beq_iff_eq]; exact q5
    have Q4 := Lib.hid q4
    have Q4' := Lib.hid q4'
    clear q1 q4 q4' q5
    go_wp2_with (first
      | (go_at_call 41; (with_reducible refine (scount_c X _ Q4.out).mono ?_); rintro e w7 ⟨rfl, rfl⟩)
      | (go_at_call 41; (with_reducible refine (scount_c Y _ Q4'.out).mono ?_); rintro e w7 ⟨rfl, rfl⟩))
    go_ret
    exact ⟨rfl, (hE4.drew).trans (hE5.trans hE6)⟩
set_option maxRecDepth 100000 in
set_option maxHeartbeats 2000000 in
theorem order_eq (t u A B C a b c : Int) (w : World) (hL : Laid w) (h : insT t = true) (h' : insT u = true) (e1 : hmsOf t A B C) (e2 : hmsOf u a b c) (hlt : Hid (t = u)) :
    Calls Tryd.prog 11 #[.int .i64 t, .int .i64 u] w fun e w' => e = .returned (.bool true) ∧ Ext w w' := by
  have HL := Lib.hid hL
  have H1 := Lib.hid h
  have H2 := Lib.hid h'
  have E1 := Lib.hid e1
  have E2 := Lib.hid e2
  have d1 : decide (t < u) = false := by (try have hlt := hlt.out); simp; omega
  have d2 : (t == u) = true := by (try have hlt := hlt.out); simp; omega
  clear hL h h' e1 e2
  go_enter Tryd.func11, Tryd.ntmps11
  go_wp2_with (first
    | (go_at_call 13; refine (awake_c _ HL.out).mono ?_; rintro e w1 ⟨rfl, hE1⟩)
    | (go_at_call 26; (with_reducible refine (moment_hms t _ H1.out E1.out).mono ?_); rintro e w2 ⟨y, m, d, rfl, hD, hE2⟩; have H1 := (); have z2 := hE2.size)
    | (go_at_call 26; (with_reducible refine (moment_hms u _ H2.out E2.out).mono ?_); rintro e w3 ⟨y', m', d', rfl, hD', hE3⟩; have hc3 := hE3.cells; have z3 : w2.heap.size < w3.heap.size := (by have := hE3.size; (try simp at this); omega)))
  have hE4 : Ext w (w3.alloc (.cells #[.int .i64 y', .int .i64 m', .int .i64 d', .int .i64 a, .int .i64 b, .int .i64 c] 44)) := (hE1.trans (hE2.trans (((Ext.refl _).alloc _).trans hE3))).alloc _
  obtain ⟨w4, hw4⟩ : ∃ w4, w4 = w3.alloc (.cells #[.int .i64 y', .int .i64 m', .int .i64 d', .int .i64 a, .int .i64 b, .int .i64 c] 44) := ⟨_, rfl⟩
  have k0 : w4.cell? ⟨w2.heap.size, 0, none⟩ = some (.int .i64 y) := by rw [hw4, World.cell?_alloc_lt _ _ _ z3, hc3 _ _ (by simp)]; simp
  have k1 : w4.cell? ⟨w2.heap.size, 1, none⟩ = some (.int .i64 m) := by rw [hw4, World.cell?_alloc_lt _ _ _ z3, hc3 _ _ (by simp)]; simp
  have k2 : w4.cell? ⟨w2.heap.size, 2, none⟩ = some (.int .i64 d) := by rw [hw4, World.cell?_alloc_lt _ _ _ z3, hc3 _ _ (by simp)]; simp
  have k3 : w4.cell? ⟨w2.heap.size, 3, none⟩ = some (.int .i64 A) := by rw [hw4, World.cell?_alloc_lt _ _ _ z3, hc3 _ _ (by simp)]; simp
  have k4 : w4.cell? ⟨w2.heap.size, 4, none⟩ = some (.int .i64 B) := by rw [hw4, World.cell?_alloc_lt _ _ _ z3, hc3 _ _ (by simp)]; simp
  have k5 : w4.cell? ⟨w2.heap.size, 5, none⟩ = some (.int .i64 C) := by rw [hw4, World.cell?_alloc_lt _ _ _ z3, hc3 _ _ (by simp)]; simp
  have l0 : w4.cell? ⟨w3.heap.size, 0, none⟩ = some (.int .i64 y') := by rw [hw4]; simp
  have l1 : w4.cell? ⟨w3.heap.size, 1, none⟩ = some (.int .i64 m') := by rw [hw4]; simp
  have l2 : w4.cell? ⟨w3.heap.size, 2, none⟩ = some (.int .i64 d') := by rw [hw4]; simp
  have l3 : w4.cell? ⟨w3.heap.size, 3, none⟩ = some (.int .i64 a) := by rw [hw4]; simp
  have l4 : w4.cell? ⟨w3.heap.size, 4, none⟩ = some (.int .i64 b) := by rw [hw4]; simp
  have l5 : w4.cell? ⟨w3.heap.size, 5, none⟩ = some (.int .i64 c) := by rw [hw4]; simp
  have g1 : w2.heap.size < w4.heap.size := by rw [hw4]; simp; omega
  have g2 : w3.heap.size < w4.heap.size := by rw [hw4]; simp
  rw [← hw4] at hE4 ⊢
  clear hw4 hc3 hE3
  have hV := hD.1
  have hV' := hD'.1
  have ht1 := hms_tm E1.out
  have ht2 := hms_tm E2.out
  generalize w2.heap.size = B1 at k0 k1 k2 k3 k4 k5 g1 ⊢
  generalize w3.heap.size = B2 at l0 l1 l2 l3 l4 l5 g2 ⊢
  go_region_held3 (fun w' => w'.cell? ⟨B1, 0, none⟩ = some (.int .i64 y) ∧ w'.cell? ⟨B1, 1, none⟩ = some (.int .i64 m) ∧ w'.cell? ⟨B1, 2, none⟩ = some (.int .i64 d) ∧ w'.cell? ⟨B1, 3, none⟩ = some (.int .i64 A) ∧ w'.cell? ⟨B1, 4, none⟩ = some (.int .i64 B) ∧ w'.cell? ⟨B1, 5, none⟩ = some (.int .i64 C) ∧ w'.cell? ⟨B2, 0, none⟩ = some (.int .i64 y') ∧ w'.cell? ⟨B2, 1, none⟩ = some (.int .i64 m') ∧ w'.cell? ⟨B2, 2, none⟩ = some (.int .i64 d') ∧ w'.cell? ⟨B2, 3, none⟩ = some (.int .i64 a) ∧ w'.cell? ⟨B2, 4, none⟩ = some (.int .i64 b) ∧ w'.cell? ⟨B2, 5, none⟩ = some (.int .i64 c) ∧ B1 < w'.heap.size ∧ B2 < w'.heap.size) (first | go_keep | exact S5.out | exact S6.out)
    (first
      | (go_at_call 40; (with_reducible refine (mtext_yes y m d A B C _ hV ht1).mono ?_); rintro e w5 ⟨rfl, hE5⟩; have S5 := Lib.hid (ext12 hE5 ⟨k0, k1, k2, k3, k4, k5, l0, l1, l2, l3, l4, l5, g1, g2⟩))
      | (go_at_call 40; (with_reducible refine (mtext_yes y' m' d' a b c _ hV' ht2).mono ?_); rintro e w6 ⟨rfl, hE6⟩; have S6 := Lib.hid (ext12 hE6 S5.out)))
  all_goals
    have q1 := mtx_less hD.1 hD'.1 (hms_tm E1.out) (hms_tm E2.out)
    have q2 := mtx_eq hD.1 hD'.1 (hms_tm E1.out) (hms_tm E2.out)
    rw [inst_back hD E1.out, inst_back hD' E2.out] at q1 q2
    have q3 := mtx_length y m d A B C
    have q4 := mtx_count y m d A B C
    have q3' := mtx_length y' m' d' a b c
    have q4' := mtx_count y' m' d' a b c
    have q5 : mtx y m d A B C = mtx y' m' d' a b c ↔ t = u := ⟨q2, fun e => by subst e
                                                                               obtain ⟨rfl, rfl, rfl⟩ := hD.inj hD'
                                                                               obtain ⟨rfl, rfl, rfl⟩ := E1.out
                                                                               obtain ⟨rfl, rfl, rfl⟩ := E2.out
                                                                               rfl⟩
    clear q2
    generalize mtx y m d A B C = X at q1 q3 q4 q5 ⊢
    generalize mtx y' m' d' a b c = Y at q1 q3' q4' q5 ⊢
    have f1 : Op.bytesLess X Y = false := q1.trans d1
    have f2 : (X == Y) = true := by rw [← d2, Bool.eq_iff_iff, beq_iff_eq, beq_iff_eq]; exact q5
    have Q4 := Lib.hid q4
    have Q4' := Lib.hid q4'
    clear q1 q4 q4' q5
    go_wp2_with (first
      | (go_at_call 41; (with_reducible refine (scount_c X _ Q4.out).mono ?_); rintro e w7 ⟨rfl, rfl⟩)
      | (go_at_call 41; (with_reducible refine (scount_c Y _ Q4'.out).mono ?_); rintro e w7 ⟨rfl, rfl⟩))
    go_ret
    exact ⟨rfl, (hE4.drew).trans (hE5.trans hE6)⟩
set_option maxRecDepth 100000 in
set_option maxHeartbeats 2000000 in
theorem order_gt (t u A B C a b c : Int) (w : World) (hL : Laid w) (h : insT t = true) (h' : insT u = true) (e1 : hmsOf t A B C) (e2 : hmsOf u a b c) (hlt : u < t) :
    Calls Tryd.prog 11 #[.int .i64 t, .int .i64 u] w fun e w' => e = .returned (.bool true) ∧ Ext w w' := by
  have HL := Lib.hid hL
  have H1 := Lib.hid h
  have H2 := Lib.hid h'
  have E1 := Lib.hid e1
  have E2 := Lib.hid e2
  have d1 : decide (t < u) = false := by (try have hlt := hlt.out); simp; omega
  have d2 : (t == u) = false := by (try have hlt := hlt.out); simp; omega
  clear hL h h' e1 e2
  go_enter Tryd.func11, Tryd.ntmps11
  go_wp2_with (first
    | (go_at_call 13; refine (awake_c _ HL.out).mono ?_; rintro e w1 ⟨rfl, hE1⟩)
    | (go_at_call 26; (with_reducible refine (moment_hms t _ H1.out E1.out).mono ?_); rintro e w2 ⟨y, m, d, rfl, hD, hE2⟩; have H1 := (); have z2 := hE2.size)
    | (go_at_call 26; (with_reducible refine (moment_hms u _ H2.out E2.out).mono ?_); rintro e w3 ⟨y', m', d', rfl, hD', hE3⟩; have hc3 := hE3.cells; have z3 : w2.heap.size < w3.heap.size := (by have := hE3.size; (try simp at this); omega)))
  have hE4 : Ext w (w3.alloc (.cells #[.int .i64 y', .int .i64 m', .int .i64 d', .int .i64 a, .int .i64 b, .int .i64 c] 44)) := (hE1.trans (hE2.trans (((Ext.refl _).alloc _).trans hE3))).alloc _
  obtain ⟨w4, hw4⟩ : ∃ w4, w4 = w3.alloc (.cells #[.int .i64 y', .int .i64 m', .int .i64 d', .int .i64 a, .int .i64 b, .int .i64 c] 44) := ⟨_, rfl⟩
  have k0 : w4.cell? ⟨w2.heap.size, 0, none⟩ = some (.int .i64 y) := by rw [hw4, World.cell?_alloc_lt _ _ _ z3, hc3 _ _ (by simp)]; simp
  have k1 : w4.cell? ⟨w2.heap.size, 1, none⟩ = some (.int .i64 m) := by rw [hw4, World.cell?_alloc_lt _ _ _ z3, hc3 _ _ (by simp)]; simp
  have k2 : w4.cell? ⟨w2.heap.size, 2, none⟩ = some (.int .i64 d) := by rw [hw4, World.cell?_alloc_lt _ _ _ z3, hc3 _ _ (by simp)]; simp
  have k3 : w4.cell? ⟨w2.heap.size, 3, none⟩ = some (.int .i64 A) := by rw [hw4, World.cell?_alloc_lt _ _ _ z3, hc3 _ _ (by simp)]; simp
  have k4 : w4.cell? ⟨w2.heap.size, 4, none⟩ = some (.int .i64 B) := by rw [hw4, World.cell?_alloc_lt _ _ _ z3, hc3 _ _ (by simp)]; simp
  have k5 : w4.cell? ⟨w2.heap.size, 5, none⟩ = some (.int .i64 C) := by rw [hw4, World.cell?_alloc_lt _ _ _ z3, hc3 _ _ (by simp)]; simp
  have l0 : w4.cell? ⟨w3.heap.size, 0, none⟩ = some (.int .i64 y') := by rw [hw4]; simp
  have l1 : w4.cell? ⟨w3.heap.size, 1, none⟩ = some (.int .i64 m') := by rw [hw4]; simp
  have l2 : w4.cell? ⟨w3.heap.size, 2, none⟩ = some (.int .i64 d') := by rw [hw4]; simp
  have l3 : w4.cell? ⟨w3.heap.size, 3, none⟩ = some (.int .i64 a) := by rw [hw4]; simp
  have l4 : w4.cell? ⟨w3.heap.size, 4, none⟩ = some (.int .i64 b) := by rw [hw4]; simp
  have l5 : w4.cell? ⟨w3.heap.size, 5, none⟩ = some (.int .i64 c) := by rw [hw4]; simp
  have g1 : w2.heap.size < w4.heap.size := by rw [hw4]; simp; omega
  have g2 : w3.heap.size < w4.heap.size := by rw [hw4]; simp
  rw [← hw4] at hE4 ⊢
  clear hw4 hc3 hE3
  have hV := hD.1
  have hV' := hD'.1
  have ht1 := hms_tm E1.out
  have ht2 := hms_tm E2.out
  generalize w2.heap.size = B1 at k0 k1 k2 k3 k4 k5 g1 ⊢
  generalize w3.heap.size = B2 at l0 l1 l2 l3 l4 l5 g2 ⊢
  go_region_held3 (fun w' => w'.cell? ⟨B1, 0, none⟩ = some (.int .i64 y) ∧ w'.cell? ⟨B1, 1, none⟩ = some (.int .i64 m) ∧ w'.cell? ⟨B1, 2, none⟩ = some (.int .i64 d) ∧ w'.cell? ⟨B1, 3, none⟩ = some (.int .i64 A) ∧ w'.cell? ⟨B1, 4, none⟩ = some (.int .i64 B) ∧ w'.cell? ⟨B1, 5, none⟩ = some (.int .i64 C) ∧ w'.cell? ⟨B2, 0, none⟩ = some (.int .i64 y') ∧ w'.cell? ⟨B2, 1, none⟩ = some (.int .i64 m') ∧ w'.cell? ⟨B2, 2, none⟩ = some (.int .i64 d') ∧ w'.cell? ⟨B2, 3, none⟩ = some (.int .i64 a) ∧ w'.cell? ⟨B2, 4, none⟩ = some (.int .i64 b) ∧ w'.cell? ⟨B2, 5, none⟩ = some (.int .i64 c) ∧ B1 < w'.heap.size ∧ B2 < w'.heap.size) (first | go_keep | exact S5.out | exact S6.out)
    (first
      | (go_at_call 40; (with_reducible refine (mtext_yes y m d A B C _ hV ht1).mono ?_); rintro e w5 ⟨rfl, hE5⟩; have S5 := Lib.hid (ext12 hE5 ⟨k0, k1, k2, k3, k4, k5, l0, l1, l2, l3, l4, l5, g1, g2⟩))
      | (go_at_call 40; (with_reducible refine (mtext_yes y' m' d' a b c _ hV' ht2).mono ?_); rintro e w6 ⟨rfl, hE6⟩; have S6 := Lib.hid (ext12 hE6 S5.out)))
  all_goals
    have q1 := mtx_less hD.1 hD'.1 (hms_tm E1.out) (hms_tm E2.out)
    have q2 := mtx_eq hD.1 hD'.1 (hms_tm E1.out) (hms_tm E2.out)
    rw [inst_back hD E1.out, inst_back hD' E2.out] at q1 q2
    have q3 := mtx_length y m d A B C
    have q4 := mtx_count y m d A B C
    have q3' := mtx_length y' m' d' a b c
    have q4' := mtx_count y' m' d' a b c
    have q5 : mtx y m d A B C = mtx y' m' d' a b c ↔ t = u := ⟨q2, fun e => by subst e
                                                                               obtain ⟨rfl, rfl, rfl⟩ := hD.inj hD'
                                                                               obtain ⟨rfl, rfl, rfl⟩ := E1.out
                                                                               obtain ⟨rfl, rfl, rfl⟩ := E2.out
                                                                               rfl⟩
    clear q2
    generalize mtx y m d A B C = X at q1 q3 q4 q5 ⊢
    generalize mtx y' m' d' a b c = Y at q1 q3' q4' q5 ⊢
    have f1 : Op.bytesLess X Y = false := q1.trans d1
    have f2 : (X == Y) = false := by rw [← d2, Bool.eq_iff_iff, beq_iff_eq, beq_iff_eq]; exact q5
    have Q4 := Lib.hid q4
    have Q4' := Lib.hid q4'
    clear q1 q4 q4' q5
    go_wp2_with (first
      | (go_at_call 41; (with_reducible refine (scount_c X _ Q4.out).mono ?_); rintro e w7 ⟨rfl, rfl⟩)
      | (go_at_call 41; (with_reducible refine (scount_c Y _ Q4'.out).mono ?_); rintro e w7 ⟨rfl, rfl⟩))
    go_ret
    exact ⟨rfl, (hE4.drew).trans (hE5.trans hE6)⟩
set_option maxHeartbeats 2000000 in
theorem order_onn (t u : Int) (w : World) (hL : Laid w) (h : insT t = false) (h' : insT u = false) :
    Calls Tryd.prog 11 #[.int .i64 t, .int .i64 u] w fun e w' => e = .returned (.bool true) ∧ Ext w w' := by
  have HL := Lib.hid hL
  clear hL
  go_enter Tryd.func11, Tryd.ntmps11
  go_wp2_with (first
    | (go_at_call 13; refine (awake_c _ HL.out).mono ?_; rintro e w1 ⟨rfl, hE1⟩)
    | (go_at_call 26; (with_reducible refine (moment_no' t _ h).mono ?_); rintro e w2 ⟨rfl, hE2⟩; have z2 := hE2.size)
    | (go_at_call 26; (with_reducible refine (moment_no' u _ h').mono ?_); rintro e w3 ⟨rfl, hE3⟩; have z3 := hE3.size)
    | (go_at_call 22; (with_reducible refine (rinst_c t _).mono ?_); rw [h]; rintro e wi ⟨rfl, rfl⟩)
    | (go_at_call 22; (with_reducible refine (rinst_c u _).mono ?_); rw [h']; rintro e wi ⟨rfl, rfl⟩))
  go_ret
  exact ⟨rfl, (hE1.trans (hE2.trans (((Ext.refl _).alloc _).trans hE3))).alloc _⟩
set_option maxHeartbeats 2000000 in
theorem order_ony (t u : Int) (w : World) (hL : Laid w) (h : insT t = false) (h' : insT u = true) :
    Calls Tryd.prog 11 #[.int .i64 t, .int .i64 u] w fun e w' => e = .returned (.bool true) ∧ Ext w w' := by
  have HL := Lib.hid hL
  clear hL
  go_enter Tryd.func11, Tryd.ntmps11
  go_wp2_with (first
    | (go_at_call 13; refine (awake_c _ HL.out).mono ?_; rintro e w1 ⟨rfl, hE1⟩)
    | (go_at_call 26; (with_reducible refine (moment_no' t _ h).mono ?_); rintro e w2 ⟨rfl, hE2⟩; have z2 := hE2.size)
    | (go_at_call 26; (with_reducible refine (moment_mom u _ h').mono ?_); rintro e w3 ⟨y, m, d, rfl, hE3⟩; have z3 := hE3.size)
    | (go_at_call 22; (with_reducible refine (rinst_c t _).mono ?_); rw [h]; rintro e wi ⟨rfl, rfl⟩)
    | (go_at_call 22; (with_reducible refine (rinst_c u _).mono ?_); rw [h']; rintro e wi ⟨rfl, rfl⟩))
  go_ret
  exact ⟨rfl, (hE1.trans (hE2.trans (((Ext.refl _).alloc _).trans hE3))).alloc _⟩
set_option maxHeartbeats 2000000 in
theorem order_oyn (t u : Int) (w : World) (hL : Laid w) (h : insT t = true) (h' : insT u = false) :
    Calls Tryd.prog 11 #[.int .i64 t, .int .i64 u] w fun e w' => e = .returned (.bool true) ∧ Ext w w' := by
  have HL := Lib.hid hL
  clear hL
  go_enter Tryd.func11, Tryd.ntmps11
  go_wp2_with (first
    | (go_at_call 13; refine (awake_c _ HL.out).mono ?_; rintro e w1 ⟨rfl, hE1⟩)
    | (go_at_call 26; (with_reducible refine (moment_mom t _ h).mono ?_); rintro e w2 ⟨y, m, d, rfl, hE2⟩; have z2 := hE2.size)
    | (go_at_call 26; (with_reducible refine (moment_no' u _ h').mono ?_); rintro e w3 ⟨rfl, hE3⟩; have z3 := hE3.size)
    | (go_at_call 22; (with_reducible refine (rinst_c t _).mono ?_); rw [h]; rintro e wi ⟨rfl, rfl⟩)
    | (go_at_call 22; (with_reducible refine (rinst_c u _).mono ?_); rw [h']; rintro e wi ⟨rfl, rfl⟩))
  go_ret
  exact ⟨rfl, (hE1.trans (hE2.trans (((Ext.refl _).alloc _).trans hE3))).alloc _⟩
theorem order_walk (t u : Int) (w : World) (hL : Laid w) (_ : -9223372036854775808 ≤ t) (_ : t ≤ 9223372036854775807) (_ : -9223372036854775808 ≤ u) (_ : u ≤ 9223372036854775807) :
    Calls Tryd.prog 11 #[.int .i64 t, .int .i64 u] w fun e w' => e = .returned (.bool true) ∧ Ext w w' := by
  rcases Bool.eq_false_or_eq_true (insT t) with h | h
  · rcases Bool.eq_false_or_eq_true (insT u) with h' | h'
    · rcases Int.lt_trichotomy t u with q | q | q
      · exact order_lt t u _ _ _ _ _ _ w hL h h' ⟨rfl, rfl, rfl⟩ ⟨rfl, rfl, rfl⟩ q
      · exact order_eq t u _ _ _ _ _ _ w hL h h' ⟨rfl, rfl, rfl⟩ ⟨rfl, rfl, rfl⟩ q
      · exact order_gt t u _ _ _ _ _ _ w hL h h' ⟨rfl, rfl, rfl⟩ ⟨rfl, rfl, rfl⟩ q
    · exact order_oyn t u w hL h h'
  · rcases Bool.eq_false_or_eq_true (insT u) with h' | h'
    · exact order_ony t u w hL h h'
    · exact order_onn t u w hL h h'
end Go.Proofs.YtplckoffiebibaaDoor
