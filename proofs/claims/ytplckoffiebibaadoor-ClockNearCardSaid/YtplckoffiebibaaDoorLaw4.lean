/- The walk of the law ClockNear. -/
import Derived.Test.YtplckoffiebibaaDoorAwk
import Derived.Test.YtplckoffiebibaaDoorNear
namespace Go.Proofs.YtplckoffiebibaaDoor
open Go.RowKit
set_option linter.unusedVariables false
set_option linter.unusedSimpArgs false

theorem round_is {n u k A E : Int} (w : World) (h : rndV n u k = A ∧ rndE n u k = E) : Calls Tryd.prog 38 #[.int .i64 n, .int .i64 u, .int .i64 k] w fun e w' => e = .returned (.tuple #[.int .i64 A, .int .i64 E]) ∧ ∃ q, w.drewN q = w' := by
  obtain ⟨rfl, rfl⟩ := h
  exact round_c n u k w
set_option maxHeartbeats 2000000 in
theorem near_ln (n m u k A B U D R : Int) (w : World) (hL : Laid w) (h1 : rndV n u k = A ∧ rndE n u k = 0) (h2 : rndV m u k = B ∧ rndE m u k = 0) (h3 : rndV A u k = A ∧ rndE A u k = 0)
    (h4 : rndV (-n) u 2 = U ∧ rndE (-n) u 2 = 2) (h5 : rndV n u 1 = D ∧ rndE n u 1 = 2) (h6 : rndV n u 3 = R ∧ rndE n u 3 = 2)
    (u1 : 1 ≤ u) (u2 : u ≤ 4398046511104) (n1 : -4398046511104 ≤ n) (n2 : n ≤ 4398046511104) (a1 : -4398046511104 ≤ A) (a2 : A ≤ 4398046511104) (md : A.tmod u = 0) (d1 : A - n < u) (d2 : n - A < u) (m1 : -9223372036854775808 ≤ m) (m2 : m ≤ 9223372036854775807) (hc : n ≤ m) (hAB : A ≤ B) :
    Calls Tryd.prog 10 #[.int .i64 n, .int .i64 m, .int .i64 u, .int .i64 k] w fun e w' => e = .returned (.bool true) ∧ Ext w w' := by
  have HL := Lib.hid hL
  have H1 := Lib.hid h1
  have H2 := Lib.hid h2
  have H3 := Lib.hid h3
  have H4 := Lib.hid h4
  have H5 := Lib.hid h5
  have H6 := Lib.hid h6
  clear hL h1 h2 h3 h4 h5 h6
  have f1 : decide (u ≤ A - n) = false := by simp; omega
  have f2 : decide (u ≤ n - A) = false := by simp; omega
  have f3 : (u == 0) = false := by simp; omega
  have f4 : (u == -1) = false := by simp; omega
  have g1 : decide (B < A) = false := (by simp; omega)
  go_enter Tryd.func10, Tryd.ntmps10
  go_wp2_with (first
    | (go_at_call 13; refine (awake_c _ HL.out).mono ?_; rintro e w1 ⟨rfl, hE1⟩)
    | (go_at_call 38; with_reducible refine (round_is _ H1.out).mono ?_; rintro e w2 ⟨rfl, q1, rfl⟩)
    | (go_at_call 38; with_reducible refine (round_is _ H2.out).mono ?_; rintro e w2 ⟨rfl, q2, rfl⟩)
    | (go_at_call 38; with_reducible refine (round_is _ H3.out).mono ?_; rintro e w2 ⟨rfl, q3, rfl⟩)
    | (go_at_call 38; with_reducible refine (round_is _ H4.out).mono ?_; rintro e w2 ⟨rfl, q4, rfl⟩)
    | (go_at_call 38; with_reducible refine (round_is _ H5.out).mono ?_; rintro e w2 ⟨rfl, q5, rfl⟩)
    | (go_at_call 38; with_reducible refine (round_is _ H6.out).mono ?_; rintro e w2 ⟨rfl, q6, rfl⟩))
  go_ret
  exact ⟨rfl, hE1.trans ((Ext.refl _).drewN _)⟩
set_option maxHeartbeats 2000000 in
theorem near_lo (n m u k A B U D R : Int) (w : World) (hL : Laid w) (h1 : rndV n u k = A ∧ rndE n u k = 0) (h2 : rndV m u k = B ∧ rndE m u k = 0) (h3 : rndV A u k = A ∧ rndE A u k = 0)
    (h4 : rndV (-n) u 2 = U ∧ rndE (-n) u 2 = 2) (h5 : rndV n u 1 = D ∧ rndE n u 1 = 2) (h6 : rndV n u 3 = R ∧ rndE n u 3 = 0)
    (u1 : 1 ≤ u) (u2 : u ≤ 4398046511104) (n1 : -4398046511104 ≤ n) (n2 : n ≤ 4398046511104) (a1 : -4398046511104 ≤ A) (a2 : A ≤ 4398046511104) (md : A.tmod u = 0) (d1 : A - n < u) (d2 : n - A < u) (m1 : -9223372036854775808 ≤ m) (m2 : m ≤ 9223372036854775807) (hc : n ≤ m) (hAB : A ≤ B) :
    Calls Tryd.prog 10 #[.int .i64 n, .int .i64 m, .int .i64 u, .int .i64 k] w fun e w' => e = .returned (.bool true) ∧ Ext w w' := by
  have HL := Lib.hid hL
  have H1 := Lib.hid h1
  have H2 := Lib.hid h2
  have H3 := Lib.hid h3
  have H4 := Lib.hid h4
  have H5 := Lib.hid h5
  have H6 := Lib.hid h6
  clear hL h1 h2 h3 h4 h5 h6
  have f1 : decide (u ≤ A - n) = false := by simp; omega
  have f2 : decide (u ≤ n - A) = false := by simp; omega
  have f3 : (u == 0) = false := by simp; omega
  have f4 : (u == -1) = false := by simp; omega
  have g1 : decide (B < A) = false := (by simp; omega)
  go_enter Tryd.func10, Tryd.ntmps10
  go_wp2_with (first
    | (go_at_call 13; refine (awake_c _ HL.out).mono ?_; rintro e w1 ⟨rfl, hE1⟩)
    | (go_at_call 38; with_reducible refine (round_is _ H1.out).mono ?_; rintro e w2 ⟨rfl, q1, rfl⟩)
    | (go_at_call 38; with_reducible refine (round_is _ H2.out).mono ?_; rintro e w2 ⟨rfl, q2, rfl⟩)
    | (go_at_call 38; with_reducible refine (round_is _ H3.out).mono ?_; rintro e w2 ⟨rfl, q3, rfl⟩)
    | (go_at_call 38; with_reducible refine (round_is _ H4.out).mono ?_; rintro e w2 ⟨rfl, q4, rfl⟩)
    | (go_at_call 38; with_reducible refine (round_is _ H5.out).mono ?_; rintro e w2 ⟨rfl, q5, rfl⟩)
    | (go_at_call 38; with_reducible refine (round_is _ H6.out).mono ?_; rintro e w2 ⟨rfl, q6, rfl⟩))
  go_ret
  exact ⟨rfl, hE1.trans ((Ext.refl _).drewN _)⟩
set_option maxHeartbeats 2000000 in
theorem near_lz (n m u k A B U D R : Int) (w : World) (hL : Laid w) (h1 : rndV n u k = A ∧ rndE n u k = 0) (h2 : rndV m u k = B ∧ rndE m u k = 0) (h3 : rndV A u k = A ∧ rndE A u k = 0)
    (h4 : rndV (-n) u 2 = U ∧ rndE (-n) u 2 = 0) (h5 : rndV n u 1 = D ∧ rndE n u 1 = 0) (h6 : rndV n u 3 = R ∧ rndE n u 3 = 2)
    (u1 : 1 ≤ u) (u2 : u ≤ 4398046511104) (n1 : -4398046511104 ≤ n) (n2 : n ≤ 4398046511104) (a1 : -4398046511104 ≤ A) (a2 : A ≤ 4398046511104) (md : A.tmod u = 0) (d1 : A - n < u) (d2 : n - A < u) (m1 : -9223372036854775808 ≤ m) (m2 : m ≤ 9223372036854775807) (hc : n ≤ m) (hAB : A ≤ B) (hu : U = -D) (x1 : -4398046511104 ≤ D) (x2 : D ≤ n) :
    Calls Tryd.prog 10 #[.int .i64 n, .int .i64 m, .int .i64 u, .int .i64 k] w fun e w' => e = .returned (.bool true) ∧ Ext w w' := by
  have HL := Lib.hid hL
  have H1 := Lib.hid h1
  have H2 := Lib.hid h2
  have H3 := Lib.hid h3
  have H4 := Lib.hid h4
  have H5 := Lib.hid h5
  have H6 := Lib.hid h6
  clear hL h1 h2 h3 h4 h5 h6
  have f1 : decide (u ≤ A - n) = false := by simp; omega
  have f2 : decide (u ≤ n - A) = false := by simp; omega
  have f3 : (u == 0) = false := by simp; omega
  have f4 : (u == -1) = false := by simp; omega
  subst hu; have g1 : decide (B < A) = false := (by simp; omega)
  go_enter Tryd.func10, Tryd.ntmps10
  go_wp2_with (first
    | (go_at_call 13; refine (awake_c _ HL.out).mono ?_; rintro e w1 ⟨rfl, hE1⟩)
    | (go_at_call 38; with_reducible refine (round_is _ H1.out).mono ?_; rintro e w2 ⟨rfl, q1, rfl⟩)
    | (go_at_call 38; with_reducible refine (round_is _ H2.out).mono ?_; rintro e w2 ⟨rfl, q2, rfl⟩)
    | (go_at_call 38; with_reducible refine (round_is _ H3.out).mono ?_; rintro e w2 ⟨rfl, q3, rfl⟩)
    | (go_at_call 38; with_reducible refine (round_is _ H4.out).mono ?_; rintro e w2 ⟨rfl, q4, rfl⟩)
    | (go_at_call 38; with_reducible refine (round_is _ H5.out).mono ?_; rintro e w2 ⟨rfl, q5, rfl⟩)
    | (go_at_call 38; with_reducible refine (round_is _ H6.out).mono ?_; rintro e w2 ⟨rfl, q6, rfl⟩))
  go_ret
  exact ⟨rfl, hE1.trans ((Ext.refl _).drewN _)⟩
set_option maxHeartbeats 2000000 in
theorem near_la (n m u k A B U D R : Int) (w : World) (hL : Laid w) (h1 : rndV n u k = A ∧ rndE n u k = 0) (h2 : rndV m u k = B ∧ rndE m u k = 0) (h3 : rndV A u k = A ∧ rndE A u k = 0)
    (h4 : rndV (-n) u 2 = U ∧ rndE (-n) u 2 = 0) (h5 : rndV n u 1 = D ∧ rndE n u 1 = 0) (h6 : rndV n u 3 = R ∧ rndE n u 3 = 0)
    (u1 : 1 ≤ u) (u2 : u ≤ 4398046511104) (n1 : -4398046511104 ≤ n) (n2 : n ≤ 4398046511104) (a1 : -4398046511104 ≤ A) (a2 : A ≤ 4398046511104) (md : A.tmod u = 0) (d1 : A - n < u) (d2 : n - A < u) (m1 : -9223372036854775808 ≤ m) (m2 : m ≤ 9223372036854775807) (hc : n ≤ m) (hAB : A ≤ B) (hu : U = -D) (x1 : -4398046511104 ≤ D) (x2 : D ≤ n) (x3 : n - D < u) (x4 : R - n ≤ n - D) (x5 : -4398046511104 ≤ R) (x6 : R ≤ 4398046511104) (x7 : 2 * (n - D) < u) (x8 : R = D) :
    Calls Tryd.prog 10 #[.int .i64 n, .int .i64 m, .int .i64 u, .int .i64 k] w fun e w' => e = .returned (.bool true) ∧ Ext w w' := by
  have HL := Lib.hid hL
  have H1 := Lib.hid h1
  have H2 := Lib.hid h2
  have H3 := Lib.hid h3
  have H4 := Lib.hid h4
  have H5 := Lib.hid h5
  have H6 := Lib.hid h6
  clear hL h1 h2 h3 h4 h5 h6
  have f1 : decide (u ≤ A - n) = false := by simp; omega
  have f2 : decide (u ≤ n - A) = false := by simp; omega
  have f3 : (u == 0) = false := by simp; omega
  have f4 : (u == -1) = false := by simp; omega
  subst hu x8; have g1 : decide (B < A) = false := (by simp; omega)
  go_enter Tryd.func10, Tryd.ntmps10
  go_wp2_with (first
    | (go_at_call 13; refine (awake_c _ HL.out).mono ?_; rintro e w1 ⟨rfl, hE1⟩)
    | (go_at_call 38; with_reducible refine (round_is _ H1.out).mono ?_; rintro e w2 ⟨rfl, q1, rfl⟩)
    | (go_at_call 38; with_reducible refine (round_is _ H2.out).mono ?_; rintro e w2 ⟨rfl, q2, rfl⟩)
    | (go_at_call 38; with_reducible refine (round_is _ H3.out).mono ?_; rintro e w2 ⟨rfl, q3, rfl⟩)
    | (go_at_call 38; with_reducible refine (round_is _ H4.out).mono ?_; rintro e w2 ⟨rfl, q4, rfl⟩)
    | (go_at_call 38; with_reducible refine (round_is _ H5.out).mono ?_; rintro e w2 ⟨rfl, q5, rfl⟩)
    | (go_at_call 38; with_reducible refine (round_is _ H6.out).mono ?_; rintro e w2 ⟨rfl, q6, rfl⟩))
  go_ret
  exact ⟨rfl, hE1.trans ((Ext.refl _).drewN _)⟩
set_option maxHeartbeats 2000000 in
theorem near_lb (n m u k A B U D R : Int) (w : World) (hL : Laid w) (h1 : rndV n u k = A ∧ rndE n u k = 0) (h2 : rndV m u k = B ∧ rndE m u k = 0) (h3 : rndV A u k = A ∧ rndE A u k = 0)
    (h4 : rndV (-n) u 2 = U ∧ rndE (-n) u 2 = 0) (h5 : rndV n u 1 = D ∧ rndE n u 1 = 0) (h6 : rndV n u 3 = R ∧ rndE n u 3 = 0)
    (u1 : 1 ≤ u) (u2 : u ≤ 4398046511104) (n1 : -4398046511104 ≤ n) (n2 : n ≤ 4398046511104) (a1 : -4398046511104 ≤ A) (a2 : A ≤ 4398046511104) (md : A.tmod u = 0) (d1 : A - n < u) (d2 : n - A < u) (m1 : -9223372036854775808 ≤ m) (m2 : m ≤ 9223372036854775807) (hc : n ≤ m) (hAB : A ≤ B) (hu : U = -D) (x1 : -4398046511104 ≤ D) (x2 : D ≤ n) (x3 : n - D < u) (x4 : R - n ≤ n - D) (x5 : -4398046511104 ≤ R) (x6 : R ≤ 4398046511104) (x7 : u ≤ 2 * (n - D)) (x8 : R = D + u) :
    Calls Tryd.prog 10 #[.int .i64 n, .int .i64 m, .int .i64 u, .int .i64 k] w fun e w' => e = .returned (.bool true) ∧ Ext w w' := by
  have HL := Lib.hid hL
  have H1 := Lib.hid h1
  have H2 := Lib.hid h2
  have H3 := Lib.hid h3
  have H4 := Lib.hid h4
  have H5 := Lib.hid h5
  have H6 := Lib.hid h6
  clear hL h1 h2 h3 h4 h5 h6
  have f1 : decide (u ≤ A - n) = false := by simp; omega
  have f2 : decide (u ≤ n - A) = false := by simp; omega
  have f3 : (u == 0) = false := by simp; omega
  have f4 : (u == -1) = false := by simp; omega
  subst hu; have g1 : decide (B < A) = false := (by simp; omega); have g2 : decide (2 * (n - D) < u) = false := (by simp; omega); have g3 : (R == D) = false := (by simp; omega); have g4 : decide (D ≤ R) = true := (by simp; omega); clear x8
  go_enter Tryd.func10, Tryd.ntmps10
  go_wp2_with (first
    | (go_at_call 13; refine (awake_c _ HL.out).mono ?_; rintro e w1 ⟨rfl, hE1⟩)
    | (go_at_call 38; with_reducible refine (round_is _ H1.out).mono ?_; rintro e w2 ⟨rfl, q1, rfl⟩)
    | (go_at_call 38; with_reducible refine (round_is _ H2.out).mono ?_; rintro e w2 ⟨rfl, q2, rfl⟩)
    | (go_at_call 38; with_reducible refine (round_is _ H3.out).mono ?_; rintro e w2 ⟨rfl, q3, rfl⟩)
    | (go_at_call 38; with_reducible refine (round_is _ H4.out).mono ?_; rintro e w2 ⟨rfl, q4, rfl⟩)
    | (go_at_call 38; with_reducible refine (round_is _ H5.out).mono ?_; rintro e w2 ⟨rfl, q5, rfl⟩)
    | (go_at_call 38; with_reducible refine (round_is _ H6.out).mono ?_; rintro e w2 ⟨rfl, q6, rfl⟩))
  go_ret
  exact ⟨rfl, hE1.trans ((Ext.refl _).drewN _)⟩
set_option maxHeartbeats 2000000 in
theorem near_gn (n m u k A B U D R : Int) (w : World) (hL : Laid w) (h1 : rndV n u k = A ∧ rndE n u k = 0) (h2 : rndV m u k = B ∧ rndE m u k = 0) (h3 : rndV A u k = A ∧ rndE A u k = 0)
    (h4 : rndV (-n) u 2 = U ∧ rndE (-n) u 2 = 2) (h5 : rndV n u 1 = D ∧ rndE n u 1 = 2) (h6 : rndV n u 3 = R ∧ rndE n u 3 = 2)
    (u1 : 1 ≤ u) (u2 : u ≤ 4398046511104) (n1 : -4398046511104 ≤ n) (n2 : n ≤ 4398046511104) (a1 : -4398046511104 ≤ A) (a2 : A ≤ 4398046511104) (md : A.tmod u = 0) (d1 : A - n < u) (d2 : n - A < u) (m1 : -9223372036854775808 ≤ m) (m2 : m ≤ 9223372036854775807) (hc : ¬ n ≤ m) :
    Calls Tryd.prog 10 #[.int .i64 n, .int .i64 m, .int .i64 u, .int .i64 k] w fun e w' => e = .returned (.bool true) ∧ Ext w w' := by
  have HL := Lib.hid hL
  have H1 := Lib.hid h1
  have H2 := Lib.hid h2
  have H3 := Lib.hid h3
  have H4 := Lib.hid h4
  have H5 := Lib.hid h5
  have H6 := Lib.hid h6
  clear hL h1 h2 h3 h4 h5 h6
  have f1 : decide (u ≤ A - n) = false := by simp; omega
  have f2 : decide (u ≤ n - A) = false := by simp; omega
  have f3 : (u == 0) = false := by simp; omega
  have f4 : (u == -1) = false := by simp; omega
  have g1 : decide (n ≤ m) = false := (by simp; omega)
  go_enter Tryd.func10, Tryd.ntmps10
  go_wp2_with (first
    | (go_at_call 13; refine (awake_c _ HL.out).mono ?_; rintro e w1 ⟨rfl, hE1⟩)
    | (go_at_call 38; with_reducible refine (round_is _ H1.out).mono ?_; rintro e w2 ⟨rfl, q1, rfl⟩)
    | (go_at_call 38; with_reducible refine (round_is _ H2.out).mono ?_; rintro e w2 ⟨rfl, q2, rfl⟩)
    | (go_at_call 38; with_reducible refine (round_is _ H3.out).mono ?_; rintro e w2 ⟨rfl, q3, rfl⟩)
    | (go_at_call 38; with_reducible refine (round_is _ H4.out).mono ?_; rintro e w2 ⟨rfl, q4, rfl⟩)
    | (go_at_call 38; with_reducible refine (round_is _ H5.out).mono ?_; rintro e w2 ⟨rfl, q5, rfl⟩)
    | (go_at_call 38; with_reducible refine (round_is _ H6.out).mono ?_; rintro e w2 ⟨rfl, q6, rfl⟩))
  go_ret
  exact ⟨rfl, hE1.trans ((Ext.refl _).drewN _)⟩
set_option maxHeartbeats 2000000 in
theorem near_go (n m u k A B U D R : Int) (w : World) (hL : Laid w) (h1 : rndV n u k = A ∧ rndE n u k = 0) (h2 : rndV m u k = B ∧ rndE m u k = 0) (h3 : rndV A u k = A ∧ rndE A u k = 0)
    (h4 : rndV (-n) u 2 = U ∧ rndE (-n) u 2 = 2) (h5 : rndV n u 1 = D ∧ rndE n u 1 = 2) (h6 : rndV n u 3 = R ∧ rndE n u 3 = 0)
    (u1 : 1 ≤ u) (u2 : u ≤ 4398046511104) (n1 : -4398046511104 ≤ n) (n2 : n ≤ 4398046511104) (a1 : -4398046511104 ≤ A) (a2 : A ≤ 4398046511104) (md : A.tmod u = 0) (d1 : A - n < u) (d2 : n - A < u) (m1 : -9223372036854775808 ≤ m) (m2 : m ≤ 9223372036854775807) (hc : ¬ n ≤ m) :
    Calls Tryd.prog 10 #[.int .i64 n, .int .i64 m, .int .i64 u, .int .i64 k] w fun e w' => e = .returned (.bool true) ∧ Ext w w' := by
  have HL := Lib.hid hL
  have H1 := Lib.hid h1
  have H2 := Lib.hid h2
  have H3 := Lib.hid h3
  have H4 := Lib.hid h4
  have H5 := Lib.hid h5
  have H6 := Lib.hid h6
  clear hL h1 h2 h3 h4 h5 h6
  have f1 : decide (u ≤ A - n) = false := by simp; omega
  have f2 : decide (u ≤ n - A) = false := by simp; omega
  have f3 : (u == 0) = false := by simp; omega
  have f4 : (u == -1) = false := by simp; omega
  have g1 : decide (n ≤ m) = false := (by simp; omega)
  go_enter Tryd.func10, Tryd.ntmps10
  go_wp2_with (first
    | (go_at_call 13; refine (awake_c _ HL.out).mono ?_; rintro e w1 ⟨rfl, hE1⟩)
    | (go_at_call 38; with_reducible refine (round_is _ H1.out).mono ?_; rintro e w2 ⟨rfl, q1, rfl⟩)
    | (go_at_call 38; with_reducible refine (round_is _ H2.out).mono ?_; rintro e w2 ⟨rfl, q2, rfl⟩)
    | (go_at_call 38; with_reducible refine (round_is _ H3.out).mono ?_; rintro e w2 ⟨rfl, q3, rfl⟩)
    | (go_at_call 38; with_reducible refine (round_is _ H4.out).mono ?_; rintro e w2 ⟨rfl, q4, rfl⟩)
    | (go_at_call 38; with_reducible refine (round_is _ H5.out).mono ?_; rintro e w2 ⟨rfl, q5, rfl⟩)
    | (go_at_call 38; with_reducible refine (round_is _ H6.out).mono ?_; rintro e w2 ⟨rfl, q6, rfl⟩))
  go_ret
  exact ⟨rfl, hE1.trans ((Ext.refl _).drewN _)⟩
set_option maxHeartbeats 2000000 in
theorem near_gz (n m u k A B U D R : Int) (w : World) (hL : Laid w) (h1 : rndV n u k = A ∧ rndE n u k = 0) (h2 : rndV m u k = B ∧ rndE m u k = 0) (h3 : rndV A u k = A ∧ rndE A u k = 0)
    (h4 : rndV (-n) u 2 = U ∧ rndE (-n) u 2 = 0) (h5 : rndV n u 1 = D ∧ rndE n u 1 = 0) (h6 : rndV n u 3 = R ∧ rndE n u 3 = 2)
    (u1 : 1 ≤ u) (u2 : u ≤ 4398046511104) (n1 : -4398046511104 ≤ n) (n2 : n ≤ 4398046511104) (a1 : -4398046511104 ≤ A) (a2 : A ≤ 4398046511104) (md : A.tmod u = 0) (d1 : A - n < u) (d2 : n - A < u) (m1 : -9223372036854775808 ≤ m) (m2 : m ≤ 9223372036854775807) (hc : ¬ n ≤ m) (hu : U = -D) (x1 : -4398046511104 ≤ D) (x2 : D ≤ n) :
    Calls Tryd.prog 10 #[.int .i64 n, .int .i64 m, .int .i64 u, .int .i64 k] w fun e w' => e = .returned (.bool true) ∧ Ext w w' := by
  have HL := Lib.hid hL
  have H1 := Lib.hid h1
  have H2 := Lib.hid h2
  have H3 := Lib.hid h3
  have H4 := Lib.hid h4
  have H5 := Lib.hid h5
  have H6 := Lib.hid h6
  clear hL h1 h2 h3 h4 h5 h6
  have f1 : decide (u ≤ A - n) = false := by simp; omega
  have f2 : decide (u ≤ n - A) = false := by simp; omega
  have f3 : (u == 0) = false := by simp; omega
  have f4 : (u == -1) = false := by simp; omega
  subst hu; have g1 : decide (n ≤ m) = false := (by simp; omega)
  go_enter Tryd.func10, Tryd.ntmps10
  go_wp2_with (first
    | (go_at_call 13; refine (awake_c _ HL.out).mono ?_; rintro e w1 ⟨rfl, hE1⟩)
    | (go_at_call 38; with_reducible refine (round_is _ H1.out).mono ?_; rintro e w2 ⟨rfl, q1, rfl⟩)
    | (go_at_call 38; with_reducible refine (round_is _ H2.out).mono ?_; rintro e w2 ⟨rfl, q2, rfl⟩)
    | (go_at_call 38; with_reducible refine (round_is _ H3.out).mono ?_; rintro e w2 ⟨rfl, q3, rfl⟩)
    | (go_at_call 38; with_reducible refine (round_is _ H4.out).mono ?_; rintro e w2 ⟨rfl, q4, rfl⟩)
    | (go_at_call 38; with_reducible refine (round_is _ H5.out).mono ?_; rintro e w2 ⟨rfl, q5, rfl⟩)
    | (go_at_call 38; with_reducible refine (round_is _ H6.out).mono ?_; rintro e w2 ⟨rfl, q6, rfl⟩))
  go_ret
  exact ⟨rfl, hE1.trans ((Ext.refl _).drewN _)⟩
set_option maxHeartbeats 2000000 in
theorem near_ga (n m u k A B U D R : Int) (w : World) (hL : Laid w) (h1 : rndV n u k = A ∧ rndE n u k = 0) (h2 : rndV m u k = B ∧ rndE m u k = 0) (h3 : rndV A u k = A ∧ rndE A u k = 0)
    (h4 : rndV (-n) u 2 = U ∧ rndE (-n) u 2 = 0) (h5 : rndV n u 1 = D ∧ rndE n u 1 = 0) (h6 : rndV n u 3 = R ∧ rndE n u 3 = 0)
    (u1 : 1 ≤ u) (u2 : u ≤ 4398046511104) (n1 : -4398046511104 ≤ n) (n2 : n ≤ 4398046511104) (a1 : -4398046511104 ≤ A) (a2 : A ≤ 4398046511104) (md : A.tmod u = 0) (d1 : A - n < u) (d2 : n - A < u) (m1 : -9223372036854775808 ≤ m) (m2 : m ≤ 9223372036854775807) (hc : ¬ n ≤ m) (hu : U = -D) (x1 : -4398046511104 ≤ D) (x2 : D ≤ n) (x3 : n - D < u) (x4 : R - n ≤ n - D) (x5 : -4398046511104 ≤ R) (x6 : R ≤ 4398046511104) (x7 : 2 * (n - D) < u) (x8 : R = D) :
    Calls Tryd.prog 10 #[.int .i64 n, .int .i64 m, .int .i64 u, .int .i64 k] w fun e w' => e = .returned (.bool true) ∧ Ext w w' := by
  have HL := Lib.hid hL
  have H1 := Lib.hid h1
  have H2 := Lib.hid h2
  have H3 := Lib.hid h3
  have H4 := Lib.hid h4
  have H5 := Lib.hid h5
  have H6 := Lib.hid h6
  clear hL h1 h2 h3 h4 h5 h6
  have f1 : decide (u ≤ A - n) = false := by simp; omega
  have f2 : decide (u ≤ n - A) = false := by simp; omega
  have f3 : (u == 0) = false := by simp; omega
  have f4 : (u == -1) = false := by simp; omega
  subst hu x8; have g1 : decide (n ≤ m) = false := (by simp; omega)
  go_enter Tryd.func10, Tryd.ntmps10
  go_wp2_with (first
    | (go_at_call 13; refine (awake_c _ HL.out).mono ?_; rintro e w1 ⟨rfl, hE1⟩)
    | (go_at_call 38; with_reducible refine (round_is _ H1.out).mono ?_; rintro e w2 ⟨rfl, q1, rfl⟩)
    | (go_at_call 38; with_reducible refine (round_is _ H2.out).mono ?_; rintro e w2 ⟨rfl, q2, rfl⟩)
    | (go_at_call 38; with_reducible refine (round_is _ H3.out).mono ?_; rintro e w2 ⟨rfl, q3, rfl⟩)
    | (go_at_call 38; with_reducible refine (round_is _ H4.out).mono ?_; rintro e w2 ⟨rfl, q4, rfl⟩)
    | (go_at_call 38; with_reducible refine (round_is _ H5.out).mono ?_; rintro e w2 ⟨rfl, q5, rfl⟩)
    | (go_at_call 38; with_reducible refine (round_is _ H6.out).mono ?_; rintro e w2 ⟨rfl, q6, rfl⟩))
  go_ret
  exact ⟨rfl, hE1.trans ((Ext.refl _).drewN _)⟩
set_option maxHeartbeats 2000000 in
theorem near_gb (n m u k A B U D R : Int) (w : World) (hL : Laid w) (h1 : rndV n u k = A ∧ rndE n u k = 0) (h2 : rndV m u k = B ∧ rndE m u k = 0) (h3 : rndV A u k = A ∧ rndE A u k = 0)
    (h4 : rndV (-n) u 2 = U ∧ rndE (-n) u 2 = 0) (h5 : rndV n u 1 = D ∧ rndE n u 1 = 0) (h6 : rndV n u 3 = R ∧ rndE n u 3 = 0)
    (u1 : 1 ≤ u) (u2 : u ≤ 4398046511104) (n1 : -4398046511104 ≤ n) (n2 : n ≤ 4398046511104) (a1 : -4398046511104 ≤ A) (a2 : A ≤ 4398046511104) (md : A.tmod u = 0) (d1 : A - n < u) (d2 : n - A < u) (m1 : -9223372036854775808 ≤ m) (m2 : m ≤ 9223372036854775807) (hc : ¬ n ≤ m) (hu : U = -D) (x1 : -4398046511104 ≤ D) (x2 : D ≤ n) (x3 : n - D < u) (x4 : R - n ≤ n - D) (x5 : -4398046511104 ≤ R) (x6 : R ≤ 4398046511104) (x7 : u ≤ 2 * (n - D)) (x8 : R = D + u) :
    Calls Tryd.prog 10 #[.int .i64 n, .int .i64 m, .int .i64 u, .int .i64 k] w fun e w' => e = .returned (.bool true) ∧ Ext w w' := by
  have HL := Lib.hid hL
  have H1 := Lib.hid h1
  have H2 := Lib.hid h2
  have H3 := Lib.hid h3
  have H4 := Lib.hid h4
  have H5 := Lib.hid h5
  have H6 := Lib.hid h6
  clear hL h1 h2 h3 h4 h5 h6
  have f1 : decide (u ≤ A - n) = false := by simp; omega
  have f2 : decide (u ≤ n - A) = false := by simp; omega
  have f3 : (u == 0) = false := by simp; omega
  have f4 : (u == -1) = false := by simp; omega
  subst hu; have g1 : decide (n ≤ m) = false := (by simp; omega); have g2 : decide (2 * (n - D) < u) = false := (by simp; omega); have g3 : (R == D) = false := (by simp; omega); have g4 : decide (D ≤ R) = true := (by simp; omega); clear x8
  go_enter Tryd.func10, Tryd.ntmps10
  go_wp2_with (first
    | (go_at_call 13; refine (awake_c _ HL.out).mono ?_; rintro e w1 ⟨rfl, hE1⟩)
    | (go_at_call 38; with_reducible refine (round_is _ H1.out).mono ?_; rintro e w2 ⟨rfl, q1, rfl⟩)
    | (go_at_call 38; with_reducible refine (round_is _ H2.out).mono ?_; rintro e w2 ⟨rfl, q2, rfl⟩)
    | (go_at_call 38; with_reducible refine (round_is _ H3.out).mono ?_; rintro e w2 ⟨rfl, q3, rfl⟩)
    | (go_at_call 38; with_reducible refine (round_is _ H4.out).mono ?_; rintro e w2 ⟨rfl, q4, rfl⟩)
    | (go_at_call 38; with_reducible refine (round_is _ H5.out).mono ?_; rintro e w2 ⟨rfl, q5, rfl⟩)
    | (go_at_call 38; with_reducible refine (round_is _ H6.out).mono ?_; rintro e w2 ⟨rfl, q6, rfl⟩))
  go_ret
  exact ⟨rfl, hE1.trans ((Ext.refl _).drewN _)⟩

set_option maxHeartbeats 2000000 in
theorem near_oa (n m u k A B E : Int) (w : World) (hL : Laid w) (h1 : rndV n u k = A ∧ rndE n u k = 1) (h2 : rndV m u k = B ∧ rndE m u k = E) (m1 : -9223372036854775808 ≤ m) (m2 : m ≤ 9223372036854775807) :
    Calls Tryd.prog 10 #[.int .i64 n, .int .i64 m, .int .i64 u, .int .i64 k] w fun e w' => e = .returned (.bool true) ∧ Ext w w' := by
  have HL := Lib.hid hL
  have H1 := Lib.hid h1
  have H2 := Lib.hid h2
  clear hL h1 h2
  go_enter Tryd.func10, Tryd.ntmps10
  go_wp2_with (first
    | (go_at_call 13; refine (awake_c _ HL.out).mono ?_; rintro e w1 ⟨rfl, hE1⟩)
    | (go_at_call 38; with_reducible refine (round_is _ H1.out).mono ?_; rintro e w2 ⟨rfl, q1, rfl⟩)
    | (go_at_call 38; with_reducible refine (round_is _ H2.out).mono ?_; rintro e w2 ⟨rfl, q2, rfl⟩))
  go_ret
  exact ⟨rfl, hE1.trans ((Ext.refl _).drewN _)⟩
set_option maxHeartbeats 2000000 in
theorem near_ob (n m u k A B E : Int) (w : World) (hL : Laid w) (h1 : rndV n u k = A ∧ rndE n u k = 2) (h2 : rndV m u k = B ∧ rndE m u k = E) (m1 : -9223372036854775808 ≤ m) (m2 : m ≤ 9223372036854775807) :
    Calls Tryd.prog 10 #[.int .i64 n, .int .i64 m, .int .i64 u, .int .i64 k] w fun e w' => e = .returned (.bool true) ∧ Ext w w' := by
  have HL := Lib.hid hL
  have H1 := Lib.hid h1
  have H2 := Lib.hid h2
  clear hL h1 h2
  go_enter Tryd.func10, Tryd.ntmps10
  go_wp2_with (first
    | (go_at_call 13; refine (awake_c _ HL.out).mono ?_; rintro e w1 ⟨rfl, hE1⟩)
    | (go_at_call 38; with_reducible refine (round_is _ H1.out).mono ?_; rintro e w2 ⟨rfl, q1, rfl⟩)
    | (go_at_call 38; with_reducible refine (round_is _ H2.out).mono ?_; rintro e w2 ⟨rfl, q2, rfl⟩))
  go_ret
  exact ⟨rfl, hE1.trans ((Ext.refl _).drewN _)⟩
set_option maxHeartbeats 2000000 in
theorem near_f2 (n m u k A B E : Int) (w : World) (hL : Laid w) (h1 : rndV n u k = A ∧ rndE n u k = 0) (h2 : rndV m u k = B ∧ rndE m u k = E) (he : (E != 0) = true) (m1 : -9223372036854775808 ≤ m) (m2 : m ≤ 9223372036854775807) :
    Calls Tryd.prog 10 #[.int .i64 n, .int .i64 m, .int .i64 u, .int .i64 k] w fun e w' => e = .returned (.bool true) ∧ Ext w w' := by
  have HL := Lib.hid hL
  have H1 := Lib.hid h1
  have H2 := Lib.hid h2
  clear hL h1 h2
  go_enter Tryd.func10, Tryd.ntmps10
  go_wp2_with (first
    | (go_at_call 13; refine (awake_c _ HL.out).mono ?_; rintro e w1 ⟨rfl, hE1⟩)
    | (go_at_call 38; with_reducible refine (round_is _ H1.out).mono ?_; rintro e w2 ⟨rfl, q1, rfl⟩)
    | (go_at_call 38; with_reducible refine (round_is _ H2.out).mono ?_; rintro e w2 ⟨rfl, q2, rfl⟩))
  go_ret
  exact ⟨rfl, hE1.trans ((Ext.refl _).drewN _)⟩
theorem near_walk (n m u k : Int) (w : World) (hL : Laid w) (n1 : -9223372036854775808 ≤ n) (n2 : n ≤ 9223372036854775807) (m1 : -9223372036854775808 ≤ m) (m2 : m ≤ 9223372036854775807) (_ : -9223372036854775808 ≤ u) (_ : u ≤ 9223372036854775807) (_ : -9223372036854775808 ≤ k) (_ : k ≤ 9223372036854775807) :
    Calls Tryd.prog 10 #[.int .i64 n, .int .i64 m, .int .i64 u, .int .i64 k] w fun e w' => e = .returned (.bool true) ∧ Ext w w' := by
  by_cases z1 : rndE n u k = 0
  · by_cases z2 : rndE m u k = 0
    · have F := nearF z1 z2
      obtain ⟨q1, q2⟩ := near_ud (n := n) F.u1 F.u2
      have a1 : argB u 1 = true := arg_iff.2 ⟨F.u1, F.u2, by omega, by omega⟩
      have a3 : argB u 3 = true := arg_iff.2 ⟨F.u1, F.u2, by omega, by omega⟩
      by_cases z3 : rndE n u 1 = 0
      · have hd : -4398046511104 ≤ rndV n u 1 ∧ rndV n u 1 ≤ n := by
          have b1 := line_iff.1 (rndE_zero.1 z3).2.2
          have w1 : rndV n u 1 = n - n % u := by unfold rndV; rw [if_pos z3]; unfold rnd; rw [if_neg (by omega)]
          have w2 : rnd n u 1 = n - n % u := by unfold rnd; rw [if_neg (by omega)]
          have := Int.emod_nonneg n (show u ≠ 0 by have := F.u1; omega)
          omega
        by_cases z4 : rndE n u 3 = 0
        · obtain ⟨y1, y2, y3, y4, y5, y6, y7⟩ := near_dn F.u1 z3 z4
          by_cases c : n ≤ m
          · rcases y7 with ⟨c1, c2⟩ | ⟨c1, c2⟩
            · exact near_la n m u k _ _ _ _ _ w hL ⟨rfl, z1⟩ ⟨rfl, z2⟩ ⟨F.va, F.ea⟩ ⟨rfl, q1.trans z3⟩ ⟨rfl, z3⟩ ⟨rfl, z4⟩ F.u1 F.u2 F.n1 F.n2 F.a1 F.a2 F.md F.d1 F.d2 m1 m2 c (F.le c) q2 y1 y2 y3 y4 y5 y6 c1 c2
            · exact near_lb n m u k _ _ _ _ _ w hL ⟨rfl, z1⟩ ⟨rfl, z2⟩ ⟨F.va, F.ea⟩ ⟨rfl, q1.trans z3⟩ ⟨rfl, z3⟩ ⟨rfl, z4⟩ F.u1 F.u2 F.n1 F.n2 F.a1 F.a2 F.md F.d1 F.d2 m1 m2 c (F.le c) q2 y1 y2 y3 y4 y5 y6 c1 c2
          · rcases y7 with ⟨c1, c2⟩ | ⟨c1, c2⟩
            · exact near_ga n m u k _ _ _ _ _ w hL ⟨rfl, z1⟩ ⟨rfl, z2⟩ ⟨F.va, F.ea⟩ ⟨rfl, q1.trans z3⟩ ⟨rfl, z3⟩ ⟨rfl, z4⟩ F.u1 F.u2 F.n1 F.n2 F.a1 F.a2 F.md F.d1 F.d2 m1 m2 c q2 y1 y2 y3 y4 y5 y6 c1 c2
            · exact near_gb n m u k _ _ _ _ _ w hL ⟨rfl, z1⟩ ⟨rfl, z2⟩ ⟨F.va, F.ea⟩ ⟨rfl, q1.trans z3⟩ ⟨rfl, z3⟩ ⟨rfl, z4⟩ F.u1 F.u2 F.n1 F.n2 F.a1 F.a2 F.md F.d1 F.d2 m1 m2 c q2 y1 y2 y3 y4 y5 y6 c1 c2
        · have z4 := rndE_two a3 z4
          by_cases c : n ≤ m
          · exact near_lz n m u k _ _ _ _ _ w hL ⟨rfl, z1⟩ ⟨rfl, z2⟩ ⟨F.va, F.ea⟩ ⟨rfl, q1.trans z3⟩ ⟨rfl, z3⟩ ⟨rfl, z4⟩ F.u1 F.u2 F.n1 F.n2 F.a1 F.a2 F.md F.d1 F.d2 m1 m2 c (F.le c) q2 hd.1 hd.2
          · exact near_gz n m u k _ _ _ _ _ w hL ⟨rfl, z1⟩ ⟨rfl, z2⟩ ⟨F.va, F.ea⟩ ⟨rfl, q1.trans z3⟩ ⟨rfl, z3⟩ ⟨rfl, z4⟩ F.u1 F.u2 F.n1 F.n2 F.a1 F.a2 F.md F.d1 F.d2 m1 m2 c q2 hd.1 hd.2
      · have z3 := rndE_two a1 z3
        by_cases z4 : rndE n u 3 = 0
        · by_cases c : n ≤ m
          · exact near_lo n m u k _ _ _ _ _ w hL ⟨rfl, z1⟩ ⟨rfl, z2⟩ ⟨F.va, F.ea⟩ ⟨rfl, q1.trans z3⟩ ⟨rfl, z3⟩ ⟨rfl, z4⟩ F.u1 F.u2 F.n1 F.n2 F.a1 F.a2 F.md F.d1 F.d2 m1 m2 c (F.le c)
          · exact near_go n m u k _ _ _ _ _ w hL ⟨rfl, z1⟩ ⟨rfl, z2⟩ ⟨F.va, F.ea⟩ ⟨rfl, q1.trans z3⟩ ⟨rfl, z3⟩ ⟨rfl, z4⟩ F.u1 F.u2 F.n1 F.n2 F.a1 F.a2 F.md F.d1 F.d2 m1 m2 c
        · have z4 := rndE_two a3 z4
          by_cases c : n ≤ m
          · exact near_ln n m u k _ _ _ _ _ w hL ⟨rfl, z1⟩ ⟨rfl, z2⟩ ⟨F.va, F.ea⟩ ⟨rfl, q1.trans z3⟩ ⟨rfl, z3⟩ ⟨rfl, z4⟩ F.u1 F.u2 F.n1 F.n2 F.a1 F.a2 F.md F.d1 F.d2 m1 m2 c (F.le c)
          · exact near_gn n m u k _ _ _ _ _ w hL ⟨rfl, z1⟩ ⟨rfl, z2⟩ ⟨F.va, F.ea⟩ ⟨rfl, q1.trans z3⟩ ⟨rfl, z3⟩ ⟨rfl, z4⟩ F.u1 F.u2 F.n1 F.n2 F.a1 F.a2 F.md F.d1 F.d2 m1 m2 c
    · exact near_f2 n m u k _ _ _ w hL ⟨rfl, z1⟩ ⟨rfl, rfl⟩ (by simp [z2]) m1 m2
  · rcases rndE_cases n u k with q | q | q
    · exact absurd q z1
    · exact near_oa n m u k _ _ _ w hL ⟨rfl, q⟩ ⟨rfl, rfl⟩ m1 m2
    · exact near_ob n m u k _ _ _ w hL ⟨rfl, q⟩ ⟨rfl, rfl⟩ m1 m2
end Go.Proofs.YtplckoffiebibaaDoor
