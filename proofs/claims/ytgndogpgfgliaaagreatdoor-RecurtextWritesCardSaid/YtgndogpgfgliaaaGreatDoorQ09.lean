/- The walk of the reference's Parse of moments. -/
import Derived.Test.YtgndogpgfgliaaaGreatDoorQ08
import Derived.Test.YtgndogpgfgliaaaGreatDoorQ07
import Derived.StillTailTactics
namespace Go.Proofs.YtgndogpgfgliaaaGreatDoor
set_option linter.unusedVariables false
set_option linter.unnecessarySimpa false
set_option linter.unusedSimpArgs false
open Go.RowKit

theorem rdigit_c (c : UInt8) (w : World) : Calls Tryz.prog 153 #[.int .u8 c.toNat] w fun e w' => e = .returned (.bool (isDg c)) ∧ w = w' := by
  by_cases a : 48 ≤ (c.toNat : Int)
  · by_cases b : (c.toNat : Int) ≤ 57
    · have h : isDg c = true := isDg_iff.2 (by omega)
      rw [h]
      go_enter Tryz.func153, Tryz.ntmps153
      go_wp2
      go_ret
      exact ⟨rfl, rfl⟩
    · have h : isDg c = false := by rw [← Bool.not_eq_true, isDg_iff]; omega
      rw [h]
      go_enter Tryz.func153, Tryz.ntmps153
      go_wp2
      go_ret
      exact ⟨rfl, rfl⟩
  · have h : isDg c = false := by rw [← Bool.not_eq_true, isDg_iff]; omega
    rw [h]
    have d1 : decide (48 ≤ (c.toNat : Int)) = false := by simp; omega
    go_enter Tryz.func153, Tryz.ntmps153
    go_wp2
    go_ret
    exact ⟨rfl, rfl⟩

set_option maxRecDepth 100000 in
set_option maxHeartbeats 2000000 in
theorem rform_y (l : List UInt8) (w : World) (hf : formL l) :
    Calls Tryz.prog 110 #[.string ⟨l.toArray⟩] w fun e w' => e = .returned (.bool true) ∧ w = w' := by
  obtain ⟨hl, ho⟩ := hf
  have Ho := Lib.hid ho
  clear ho
  go_enter Tryz.func110, Tryz.ntmps110
  go_wp2_with fail
  go_loop [3] (fun i => ∃ k : Nat, k ≤ 19 ∧ i = .int .i64 (k : Int)) (fun i => 19 - (intOf i).toNat)
  case atStart => exact ⟨0, by omega, rfl⟩
  case round =>
    obtain ⟨k, hk, rfl⟩ := hrel
    by_cases hlt : k < 19
    · obtain ⟨c, hcl⟩ : ∃ c, c = l[k]'(by omega) := ⟨_, rfl⟩
      have hok := Ho.out k (by omega)
      rw [← hcl] at hok
      have b0 := bget l k (by omega) c hcl
      rcases (show k = 4 ∨ k = 7 ∨ k = 10 ∨ k = 13 ∨ k = 16 ∨ (k ≠ 4 ∧ k ≠ 7 ∧ k ≠ 10 ∧ k ≠ 13 ∧ k ≠ 16) by omega) with hk0 | hk0 | hk0 | hk0 | hk0 | hk0
      · have hok : (c == 45) = true := by rw [hk0] at hok; exact hok
        have f1 : ((c.toNat : Int) != 45) = false := by rw [eq_of_beq hok]; rfl
        have e4 : ((k : Int) == 4) = true := by first | (rw [beq_iff_eq]; omega) | (rw [beq_eq_false_iff_ne]; omega)
        have e7 : ((k : Int) == 7) = false := by first | (rw [beq_iff_eq]; omega) | (rw [beq_eq_false_iff_ne]; omega)
        have e10 : ((k : Int) == 10) = false := by first | (rw [beq_iff_eq]; omega) | (rw [beq_eq_false_iff_ne]; omega)
        have e13 : ((k : Int) == 13) = false := by first | (rw [beq_iff_eq]; omega) | (rw [beq_eq_false_iff_ne]; omega)
        have e16 : ((k : Int) == 16) = false := by first | (rw [beq_iff_eq]; omega) | (rw [beq_eq_false_iff_ne]; omega)
        clear hcl hk0
        go_wp2_with (go_at_call 153; refine (rdigit_c _ _).mono ?_; rw [hok]; rintro e w' ⟨rfl, rfl⟩)
        go_round
        case rel => exact ⟨k + 1, by omega, by go_num⟩
        case measure => simp [intOf]; omega
      · have hok : (c == 45) = true := by rw [hk0] at hok; exact hok
        have f1 : ((c.toNat : Int) != 45) = false := by rw [eq_of_beq hok]; rfl
        have e4 : ((k : Int) == 4) = false := by first | (rw [beq_iff_eq]; omega) | (rw [beq_eq_false_iff_ne]; omega)
        have e7 : ((k : Int) == 7) = true := by first | (rw [beq_iff_eq]; omega) | (rw [beq_eq_false_iff_ne]; omega)
        have e10 : ((k : Int) == 10) = false := by first | (rw [beq_iff_eq]; omega) | (rw [beq_eq_false_iff_ne]; omega)
        have e13 : ((k : Int) == 13) = false := by first | (rw [beq_iff_eq]; omega) | (rw [beq_eq_false_iff_ne]; omega)
        have e16 : ((k : Int) == 16) = false := by first | (rw [beq_iff_eq]; omega) | (rw [beq_eq_false_iff_ne]; omega)
        clear hcl hk0
        go_wp2_with (go_at_call 153; refine (rdigit_c _ _).mono ?_; rw [hok]; rintro e w' ⟨rfl, rfl⟩)
        go_round
        case rel => exact ⟨k + 1, by omega, by go_num⟩
        case measure => simp [intOf]; omega
      · have hok : (c == 84) = true := by rw [hk0] at hok; exact hok
        have f1 : ((c.toNat : Int) != 84) = false := by rw [eq_of_beq hok]; rfl
        have e4 : ((k : Int) == 4) = false := by first | (rw [beq_iff_eq]; omega) | (rw [beq_eq_false_iff_ne]; omega)
        have e7 : ((k : Int) == 7) = false := by first | (rw [beq_iff_eq]; omega) | (rw [beq_eq_false_iff_ne]; omega)
        have e10 : ((k : Int) == 10) = true := by first | (rw [beq_iff_eq]; omega) | (rw [beq_eq_false_iff_ne]; omega)
        have e13 : ((k : Int) == 13) = false := by first | (rw [beq_iff_eq]; omega) | (rw [beq_eq_false_iff_ne]; omega)
        have e16 : ((k : Int) == 16) = false := by first | (rw [beq_iff_eq]; omega) | (rw [beq_eq_false_iff_ne]; omega)
        clear hcl hk0
        go_wp2_with (go_at_call 153; refine (rdigit_c _ _).mono ?_; rw [hok]; rintro e w' ⟨rfl, rfl⟩)
        go_round
        case rel => exact ⟨k + 1, by omega, by go_num⟩
        case measure => simp [intOf]; omega
      · have hok : (c == 58) = true := by rw [hk0] at hok; exact hok
        have f1 : ((c.toNat : Int) != 58) = false := by rw [eq_of_beq hok]; rfl
        have e4 : ((k : Int) == 4) = false := by first | (rw [beq_iff_eq]; omega) | (rw [beq_eq_false_iff_ne]; omega)
        have e7 : ((k : Int) == 7) = false := by first | (rw [beq_iff_eq]; omega) | (rw [beq_eq_false_iff_ne]; omega)
        have e10 : ((k : Int) == 10) = false := by first | (rw [beq_iff_eq]; omega) | (rw [beq_eq_false_iff_ne]; omega)
        have e13 : ((k : Int) == 13) = true := by first | (rw [beq_iff_eq]; omega) | (rw [beq_eq_false_iff_ne]; omega)
        have e16 : ((k : Int) == 16) = false := by first | (rw [beq_iff_eq]; omega) | (rw [beq_eq_false_iff_ne]; omega)
        clear hcl hk0
        go_wp2_with (go_at_call 153; refine (rdigit_c _ _).mono ?_; rw [hok]; rintro e w' ⟨rfl, rfl⟩)
        go_round
        case rel => exact ⟨k + 1, by omega, by go_num⟩
        case measure => simp [intOf]; omega
      · have hok : (c == 58) = true := by rw [hk0] at hok; exact hok
        have f1 : ((c.toNat : Int) != 58) = false := by rw [eq_of_beq hok]; rfl
        have e4 : ((k : Int) == 4) = false := by first | (rw [beq_iff_eq]; omega) | (rw [beq_eq_false_iff_ne]; omega)
        have e7 : ((k : Int) == 7) = false := by first | (rw [beq_iff_eq]; omega) | (rw [beq_eq_false_iff_ne]; omega)
        have e10 : ((k : Int) == 10) = false := by first | (rw [beq_iff_eq]; omega) | (rw [beq_eq_false_iff_ne]; omega)
        have e13 : ((k : Int) == 13) = false := by first | (rw [beq_iff_eq]; omega) | (rw [beq_eq_false_iff_ne]; omega)
        have e16 : ((k : Int) == 16) = true := by first | (rw [beq_iff_eq]; omega) | (rw [beq_eq_false_iff_ne]; omega)
        clear hcl hk0
        go_wp2_with (go_at_call 153; refine (rdigit_c _ _).mono ?_; rw [hok]; rintro e w' ⟨rfl, rfl⟩)
        go_round
        case rel => exact ⟨k + 1, by omega, by go_num⟩
        case measure => simp [intOf]; omega
      · have hok : isDg c = true := by
          obtain ⟨x1, x2, x3, x4, x5⟩ := hk0
          unfold okAt at hok
          rw [if_neg (by omega), if_neg (by omega), if_neg (by omega)] at hok
          exact hok
        have e4 : ((k : Int) == 4) = false := by first | (rw [beq_iff_eq]; omega) | (rw [beq_eq_false_iff_ne]; omega)
        have e7 : ((k : Int) == 7) = false := by first | (rw [beq_iff_eq]; omega) | (rw [beq_eq_false_iff_ne]; omega)
        have e10 : ((k : Int) == 10) = false := by first | (rw [beq_iff_eq]; omega) | (rw [beq_eq_false_iff_ne]; omega)
        have e13 : ((k : Int) == 13) = false := by first | (rw [beq_iff_eq]; omega) | (rw [beq_eq_false_iff_ne]; omega)
        have e16 : ((k : Int) == 16) = false := by first | (rw [beq_iff_eq]; omega) | (rw [beq_eq_false_iff_ne]; omega)
        clear hcl hk0
        go_wp2_with (go_at_call 153; refine (rdigit_c _ _).mono ?_; rw [hok]; rintro e w' ⟨rfl, rfl⟩)
        go_round
        case rel => exact ⟨k + 1, by omega, by go_num⟩
        case measure => simp [intOf]; omega
    · go_wp2
      go_ret
      exact ⟨rfl, rfl⟩
set_option maxRecDepth 100000 in
set_option maxHeartbeats 2000000 in
theorem rform_b (l : List UInt8) (w : World) (hl : l.length = 19) (p : Nat) (hp : p < l.length) (hbad : okAt p l[p] = false) (ho : ∀ i (hi : i < l.length), i < p → okAt i l[i] = true) :
    Calls Tryz.prog 110 #[.string ⟨l.toArray⟩] w fun e w' => e = .returned (.bool false) ∧ w = w' := by
  have Ho := Lib.hid ho
  have Hbad := Lib.hid hbad
  clear ho hbad
  go_enter Tryz.func110, Tryz.ntmps110
  go_wp2_with fail
  go_loop [3] (fun i => ∃ k : Nat, k ≤ p ∧ i = .int .i64 (k : Int)) (fun i => p - (intOf i).toNat)
  case atStart => exact ⟨0, by omega, rfl⟩
  case round =>
    obtain ⟨k, hk, rfl⟩ := hrel
    by_cases hlt : k < p
    · obtain ⟨c, hcl⟩ : ∃ c, c = l[k]'(by omega) := ⟨_, rfl⟩
      have hok := Ho.out k (by omega) (by omega)
      rw [← hcl] at hok
      have b0 := bget l k (by omega) c hcl
      rcases (show k = 4 ∨ k = 7 ∨ k = 10 ∨ k = 13 ∨ k = 16 ∨ (k ≠ 4 ∧ k ≠ 7 ∧ k ≠ 10 ∧ k ≠ 13 ∧ k ≠ 16) by omega) with hk0 | hk0 | hk0 | hk0 | hk0 | hk0
      · have hok : (c == 45) = true := by rw [hk0] at hok; exact hok
        have f1 : ((c.toNat : Int) != 45) = false := by rw [eq_of_beq hok]; rfl
        have e4 : ((k : Int) == 4) = true := by first | (rw [beq_iff_eq]; omega) | (rw [beq_eq_false_iff_ne]; omega)
        have e7 : ((k : Int) == 7) = false := by first | (rw [beq_iff_eq]; omega) | (rw [beq_eq_false_iff_ne]; omega)
        have e10 : ((k : Int) == 10) = false := by first | (rw [beq_iff_eq]; omega) | (rw [beq_eq_false_iff_ne]; omega)
        have e13 : ((k : Int) == 13) = false := by first | (rw [beq_iff_eq]; omega) | (rw [beq_eq_false_iff_ne]; omega)
        have e16 : ((k : Int) == 16) = false := by first | (rw [beq_iff_eq]; omega) | (rw [beq_eq_false_iff_ne]; omega)
        clear hcl hk0
        go_wp2_with (go_at_call 153; refine (rdigit_c _ _).mono ?_; rw [hok]; rintro e w' ⟨rfl, rfl⟩)
        go_round
        case rel => exact ⟨k + 1, by omega, by go_num⟩
        case measure => simp [intOf]; omega
      · have hok : (c == 45) = true := by rw [hk0] at hok; exact hok
        have f1 : ((c.toNat : Int) != 45) = false := by rw [eq_of_beq hok]; rfl
        have e4 : ((k : Int) == 4) = false := by first | (rw [beq_iff_eq]; omega) | (rw [beq_eq_false_iff_ne]; omega)
        have e7 : ((k : Int) == 7) = true := by first | (rw [beq_iff_eq]; omega) | (rw [beq_eq_false_iff_ne]; omega)
        have e10 : ((k : Int) == 10) = false := by first | (rw [beq_iff_eq]; omega) | (rw [beq_eq_false_iff_ne]; omega)
        have e13 : ((k : Int) == 13) = false := by first | (rw [beq_iff_eq]; omega) | (rw [beq_eq_false_iff_ne]; omega)
        have e16 : ((k : Int) == 16) = false := by first | (rw [beq_iff_eq]; omega) | (rw [beq_eq_false_iff_ne]; omega)
        clear hcl hk0
        go_wp2_with (go_at_call 153; refine (rdigit_c _ _).mono ?_; rw [hok]; rintro e w' ⟨rfl, rfl⟩)
        go_round
        case rel => exact ⟨k + 1, by omega, by go_num⟩
        case measure => simp [intOf]; omega
      · have hok : (c == 84) = true := by rw [hk0] at hok; exact hok
        have f1 : ((c.toNat : Int) != 84) = false := by rw [eq_of_beq hok]; rfl
        have e4 : ((k : Int) == 4) = false := by first | (rw [beq_iff_eq]; omega) | (rw [beq_eq_false_iff_ne]; omega)
        have e7 : ((k : Int) == 7) = false := by first | (rw [beq_iff_eq]; omega) | (rw [beq_eq_false_iff_ne]; omega)
        have e10 : ((k : Int) == 10) = true := by first | (rw [beq_iff_eq]; omega) | (rw [beq_eq_false_iff_ne]; omega)
        have e13 : ((k : Int) == 13) = false := by first | (rw [beq_iff_eq]; omega) | (rw [beq_eq_false_iff_ne]; omega)
        have e16 : ((k : Int) == 16) = false := by first | (rw [beq_iff_eq]; omega) | (rw [beq_eq_false_iff_ne]; omega)
        clear hcl hk0
        go_wp2_with (go_at_call 153; refine (rdigit_c _ _).mono ?_; rw [hok]; rintro e w' ⟨rfl, rfl⟩)
        go_round
        case rel => exact ⟨k + 1, by omega, by go_num⟩
        case measure => simp [intOf]; omega
      · have hok : (c == 58) = true := by rw [hk0] at hok; exact hok
        have f1 : ((c.toNat : Int) != 58) = false := by rw [eq_of_beq hok]; rfl
        have e4 : ((k : Int) == 4) = false := by first | (rw [beq_iff_eq]; omega) | (rw [beq_eq_false_iff_ne]; omega)
        have e7 : ((k : Int) == 7) = false := by first | (rw [beq_iff_eq]; omega) | (rw [beq_eq_false_iff_ne]; omega)
        have e10 : ((k : Int) == 10) = false := by first | (rw [beq_iff_eq]; omega) | (rw [beq_eq_false_iff_ne]; omega)
        have e13 : ((k : Int) == 13) = true := by first | (rw [beq_iff_eq]; omega) | (rw [beq_eq_false_iff_ne]; omega)
        have e16 : ((k : Int) == 16) = false := by first | (rw [beq_iff_eq]; omega) | (rw [beq_eq_false_iff_ne]; omega)
        clear hcl hk0
        go_wp2_with (go_at_call 153; refine (rdigit_c _ _).mono ?_; rw [hok]; rintro e w' ⟨rfl, rfl⟩)
        go_round
        case rel => exact ⟨k + 1, by omega, by go_num⟩
        case measure => simp [intOf]; omega
      · have hok : (c == 58) = true := by rw [hk0] at hok; exact hok
        have f1 : ((c.toNat : Int) != 58) = false := by rw [eq_of_beq hok]; rfl
        have e4 : ((k : Int) == 4) = false := by first | (rw [beq_iff_eq]; omega) | (rw [beq_eq_false_iff_ne]; omega)
        have e7 : ((k : Int) == 7) = false := by first | (rw [beq_iff_eq]; omega) | (rw [beq_eq_false_iff_ne]; omega)
        have e10 : ((k : Int) == 10) = false := by first | (rw [beq_iff_eq]; omega) | (rw [beq_eq_false_iff_ne]; omega)
        have e13 : ((k : Int) == 13) = false := by first | (rw [beq_iff_eq]; omega) | (rw [beq_eq_false_iff_ne]; omega)
        have e16 : ((k : Int) == 16) = true := by first | (rw [beq_iff_eq]; omega) | (rw [beq_eq_false_iff_ne]; omega)
        clear hcl hk0
        go_wp2_with (go_at_call 153; refine (rdigit_c _ _).mono ?_; rw [hok]; rintro e w' ⟨rfl, rfl⟩)
        go_round
        case rel => exact ⟨k + 1, by omega, by go_num⟩
        case measure => simp [intOf]; omega
      · have hok : isDg c = true := by
          obtain ⟨x1, x2, x3, x4, x5⟩ := hk0
          unfold okAt at hok
          rw [if_neg (by omega), if_neg (by omega), if_neg (by omega)] at hok
          exact hok
        have e4 : ((k : Int) == 4) = false := by first | (rw [beq_iff_eq]; omega) | (rw [beq_eq_false_iff_ne]; omega)
        have e7 : ((k : Int) == 7) = false := by first | (rw [beq_iff_eq]; omega) | (rw [beq_eq_false_iff_ne]; omega)
        have e10 : ((k : Int) == 10) = false := by first | (rw [beq_iff_eq]; omega) | (rw [beq_eq_false_iff_ne]; omega)
        have e13 : ((k : Int) == 13) = false := by first | (rw [beq_iff_eq]; omega) | (rw [beq_eq_false_iff_ne]; omega)
        have e16 : ((k : Int) == 16) = false := by first | (rw [beq_iff_eq]; omega) | (rw [beq_eq_false_iff_ne]; omega)
        clear hcl hk0
        go_wp2_with (go_at_call 153; refine (rdigit_c _ _).mono ?_; rw [hok]; rintro e w' ⟨rfl, rfl⟩)
        go_round
        case rel => exact ⟨k + 1, by omega, by go_num⟩
        case measure => simp [intOf]; omega
    · obtain rfl : k = p := by omega
      obtain ⟨c, hcl⟩ : ∃ c, c = l[k] := ⟨_, rfl⟩
      have hok := Hbad.out
      rw [← hcl] at hok
      have b0 := bget l k (by omega) c hcl
      clear Hbad
      rcases (show k = 4 ∨ k = 7 ∨ k = 10 ∨ k = 13 ∨ k = 16 ∨ (k ≠ 4 ∧ k ≠ 7 ∧ k ≠ 10 ∧ k ≠ 13 ∧ k ≠ 16) by omega) with hk0 | hk0 | hk0 | hk0 | hk0 | hk0
      · have hok : (c == 45) = false := by rw [hk0] at hok; exact hok
        have f1 : ((c.toNat : Int) != 45) = true := by rw [bne_iff_ne]; intro e; exact (beq_eq_false_iff_ne.1 hok) (UInt8.toNat_inj.1 (by show c.toNat = 45; omega))
        have e4 : ((k : Int) == 4) = true := by first | (rw [beq_iff_eq]; omega) | (rw [beq_eq_false_iff_ne]; omega)
        have e7 : ((k : Int) == 7) = false := by first | (rw [beq_iff_eq]; omega) | (rw [beq_eq_false_iff_ne]; omega)
        have e10 : ((k : Int) == 10) = false := by first | (rw [beq_iff_eq]; omega) | (rw [beq_eq_false_iff_ne]; omega)
        have e13 : ((k : Int) == 13) = false := by first | (rw [beq_iff_eq]; omega) | (rw [beq_eq_false_iff_ne]; omega)
        have e16 : ((k : Int) == 16) = false := by first | (rw [beq_iff_eq]; omega) | (rw [beq_eq_false_iff_ne]; omega)
        clear hcl hk0
        go_wp2_with (go_at_call 153; refine (rdigit_c _ _).mono ?_; rw [hok]; rintro e w' ⟨rfl, rfl⟩)
        go_ret
        exact ⟨rfl, rfl⟩
      · have hok : (c == 45) = false := by rw [hk0] at hok; exact hok
        have f1 : ((c.toNat : Int) != 45) = true := by rw [bne_iff_ne]; intro e; exact (beq_eq_false_iff_ne.1 hok) (UInt8.toNat_inj.1 (by show c.toNat = 45; omega))
        have e4 : ((k : Int) == 4) = false := by first | (rw [beq_iff_eq]; omega) | (rw [beq_eq_false_iff_ne]; omega)
        have e7 : ((k : Int) == 7) = true := by first | (rw [beq_iff_eq]; omega) | (rw [beq_eq_false_iff_ne]; omega)
        have e10 : ((k : Int) == 10) = false := by first | (rw [beq_iff_eq]; omega) | (rw [beq_eq_false_iff_ne]; omega)
        have e13 : ((k : Int) == 13) = false := by first | (rw [beq_iff_eq]; omega) | (rw [beq_eq_false_iff_ne]; omega)
        have e16 : ((k : Int) == 16) = false := by first | (rw [beq_iff_eq]; omega) | (rw [beq_eq_false_iff_ne]; omega)
        clear hcl hk0
        go_wp2_with (go_at_call 153; refine (rdigit_c _ _).mono ?_; rw [hok]; rintro e w' ⟨rfl, rfl⟩)
        go_ret
        exact ⟨rfl, rfl⟩
      · have hok : (c == 84) = false := by rw [hk0] at hok; exact hok
        have f1 : ((c.toNat : Int) != 84) = true := by rw [bne_iff_ne]; intro e; exact (beq_eq_false_iff_ne.1 hok) (UInt8.toNat_inj.1 (by show c.toNat = 84; omega))
        have e4 : ((k : Int) == 4) = false := by first | (rw [beq_iff_eq]; omega) | (rw [beq_eq_false_iff_ne]; omega)
        have e7 : ((k : Int) == 7) = false := by first | (rw [beq_iff_eq]; omega) | (rw [beq_eq_false_iff_ne]; omega)
        have e10 : ((k : Int) == 10) = true := by first | (rw [beq_iff_eq]; omega) | (rw [beq_eq_false_iff_ne]; omega)
        have e13 : ((k : Int) == 13) = false := by first | (rw [beq_iff_eq]; omega) | (rw [beq_eq_false_iff_ne]; omega)
        have e16 : ((k : Int) == 16) = false := by first | (rw [beq_iff_eq]; omega) | (rw [beq_eq_false_iff_ne]; omega)
        clear hcl hk0
        go_wp2_with (go_at_call 153; refine (rdigit_c _ _).mono ?_; rw [hok]; rintro e w' ⟨rfl, rfl⟩)
        go_ret
        exact ⟨rfl, rfl⟩
      · have hok : (c == 58) = false := by rw [hk0] at hok; exact hok
        have f1 : ((c.toNat : Int) != 58) = true := by rw [bne_iff_ne]; intro e; exact (beq_eq_false_iff_ne.1 hok) (UInt8.toNat_inj.1 (by show c.toNat = 58; omega))
        have e4 : ((k : Int) == 4) = false := by first | (rw [beq_iff_eq]; omega) | (rw [beq_eq_false_iff_ne]; omega)
        have e7 : ((k : Int) == 7) = false := by first | (rw [beq_iff_eq]; omega) | (rw [beq_eq_false_iff_ne]; omega)
        have e10 : ((k : Int) == 10) = false := by first | (rw [beq_iff_eq]; omega) | (rw [beq_eq_false_iff_ne]; omega)
        have e13 : ((k : Int) == 13) = true := by first | (rw [beq_iff_eq]; omega) | (rw [beq_eq_false_iff_ne]; omega)
        have e16 : ((k : Int) == 16) = false := by first | (rw [beq_iff_eq]; omega) | (rw [beq_eq_false_iff_ne]; omega)
        clear hcl hk0
        go_wp2_with (go_at_call 153; refine (rdigit_c _ _).mono ?_; rw [hok]; rintro e w' ⟨rfl, rfl⟩)
        go_ret
        exact ⟨rfl, rfl⟩
      · have hok : (c == 58) = false := by rw [hk0] at hok; exact hok
        have f1 : ((c.toNat : Int) != 58) = true := by rw [bne_iff_ne]; intro e; exact (beq_eq_false_iff_ne.1 hok) (UInt8.toNat_inj.1 (by show c.toNat = 58; omega))
        have e4 : ((k : Int) == 4) = false := by first | (rw [beq_iff_eq]; omega) | (rw [beq_eq_false_iff_ne]; omega)
        have e7 : ((k : Int) == 7) = false := by first | (rw [beq_iff_eq]; omega) | (rw [beq_eq_false_iff_ne]; omega)
        have e10 : ((k : Int) == 10) = false := by first | (rw [beq_iff_eq]; omega) | (rw [beq_eq_false_iff_ne]; omega)
        have e13 : ((k : Int) == 13) = false := by first | (rw [beq_iff_eq]; omega) | (rw [beq_eq_false_iff_ne]; omega)
        have e16 : ((k : Int) == 16) = true := by first | (rw [beq_iff_eq]; omega) | (rw [beq_eq_false_iff_ne]; omega)
        clear hcl hk0
        go_wp2_with (go_at_call 153; refine (rdigit_c _ _).mono ?_; rw [hok]; rintro e w' ⟨rfl, rfl⟩)
        go_ret
        exact ⟨rfl, rfl⟩
      · have hok : isDg c = false := by
          obtain ⟨x1, x2, x3, x4, x5⟩ := hk0
          unfold okAt at hok
          rw [if_neg (by omega), if_neg (by omega), if_neg (by omega)] at hok
          exact hok
        have e4 : ((k : Int) == 4) = false := by first | (rw [beq_iff_eq]; omega) | (rw [beq_eq_false_iff_ne]; omega)
        have e7 : ((k : Int) == 7) = false := by first | (rw [beq_iff_eq]; omega) | (rw [beq_eq_false_iff_ne]; omega)
        have e10 : ((k : Int) == 10) = false := by first | (rw [beq_iff_eq]; omega) | (rw [beq_eq_false_iff_ne]; omega)
        have e13 : ((k : Int) == 13) = false := by first | (rw [beq_iff_eq]; omega) | (rw [beq_eq_false_iff_ne]; omega)
        have e16 : ((k : Int) == 16) = false := by first | (rw [beq_iff_eq]; omega) | (rw [beq_eq_false_iff_ne]; omega)
        clear hcl hk0
        go_wp2_with (go_at_call 153; refine (rdigit_c _ _).mono ?_; rw [hok]; rintro e w' ⟨rfl, rfl⟩)
        go_ret
        exact ⟨rfl, rfl⟩
theorem rform_n (l : List UInt8) (w : World) (h : ¬ formL l) (hb : l.length ≤ 9223372036854775807) :
    Calls Tryz.prog 110 #[.string ⟨l.toArray⟩] w fun e w' => e = .returned (.bool false) ∧ w = w' := by
  by_cases hl : l.length = 19
  · obtain ⟨p, hp, h1, h2⟩ := first_bad hl h
    exact rform_b l w hl p hp h1 h2
  · have t1 : ((l.length : Int) != 19) = true := by rw [bne_iff_ne]; omega
    clear hl h
    go_enter Tryz.func110, Tryz.ntmps110
    go_wp2
    go_ret
    exact ⟨rfl, rfl⟩
set_option maxHeartbeats 1000000 in
theorem rnumber_c (l : List UInt8) (w : World) (h1 : l.length ≤ 9) (hd : ∀ c ∈ l, isDg c = true) :
    Calls Tryz.prog 111 #[.string ⟨l.toArray⟩] w fun e w' => e = .returned (.int .i64 (val l : Int)) ∧ w = w' := by
  have Hd := Lib.hid hd
  clear hd
  go_enter Tryz.func111, Tryz.ntmps111
  go_wp2_with fail
  go_loop [3, 4] (fun n i => ∃ k : Nat, k ≤ l.length ∧ i = .int .i64 (k : Int) ∧ n = .int .i64 (val (l.take k) : Int)) (fun _ i => l.length - (intOf i).toNat)
  case atStart => exact ⟨0, by omega, rfl, rfl⟩
  case round =>
    obtain ⟨k, hk, rfl, rfl⟩ := hrel
    have hv0 : val (l.take k) < 1000000000 := by
      have h2 := val_lt (l.take k) (fun c hc => Hd.out c (List.mem_of_mem_take hc))
      have h3 : (l.take k).length ≤ 9 := by rw [List.length_take]; omega
      have h4 : (10 : Nat) ^ (l.take k).length ≤ 10 ^ 9 := Nat.pow_le_pow_right (by omega) h3
      have h5 : (10 : Nat) ^ 9 = 1000000000 := rfl
      omega
    obtain ⟨v, hv⟩ : ∃ v, v = val (l.take k) := ⟨_, rfl⟩
    rw [← hv] at hv0 ⊢
    have Hv := Lib.hid hv
    clear hv
    by_cases hlt : k < l.length
    · have hD := isDg_iff.1 (Hd.out l[k] (List.getElem_mem _))
      have Hs := val_take_succ l k hlt
      obtain ⟨c, hc⟩ : ∃ c, c = l[k] := ⟨_, rfl⟩
      rw [← hc] at hD Hs
      rw [← Hv.out] at Hs
      have Hs := Lib.hid Hs
      have hi := bget l k hlt c hc
      clear hc
      have d1 : 48 ≤ (c.toNat : Int) := by omega
      have d2 : (c.toNat : Int) ≤ 57 := by omega
      clear hD
      go_wp2
      go_round
      case rel => exact ⟨k + 1, by omega, by go_num, by rw [Hs.out]; congr 1; omega⟩
      case measure => simp [intOf]; omega
    · obtain rfl : k = l.length := by omega
      have Hf : Hid (v = val l) := by rw [Hid, Hv.out, List.take_length]
      go_wp2
      go_ret
      exact ⟨ret_i (by rw [Hf.out]), rfl⟩
end Go.Proofs.YtgndogpgfgliaaaGreatDoor
