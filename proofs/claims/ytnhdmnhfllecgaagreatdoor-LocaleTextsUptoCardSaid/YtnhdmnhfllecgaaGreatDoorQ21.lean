/- Patterns: the walks of the reference's letters and field. -/
import Derived.Test.YtnhdmnhfllecgaaGreatDoorQ06
import Derived.Test.YtnhdmnhfllecgaaGreatDoorQ19
namespace Go.Proofs.YtnhdmnhfllecgaaGreatDoor
set_option linter.unusedVariables false
set_option linter.unusedSimpArgs false
open Go.RowKit

theorem risLt_c (c : UInt8) (b : Bool) (w : World) (h : isLt c = b) : Calls Tryz.prog 84 #[.int .u8 (c.toNat : Int)] w fun e w' => e = .returned (.bool b) ∧ w = w' := by
  subst h
  have hc : c.toNat < 256 := c.toNat_lt
  go_enter Tryz.func84, Tryz.ntmps84
  go_wp2
  all_goals
    go_ret
    refine ⟨?_, rfl⟩
    refine congrArg (fun b => Ending.returned (Value.bool b)) ?_
    unfold isLt
    rw [Bool.eq_iff_iff]
    simp
    omega
theorem rFull_c (k : Int) (F : Int) (w : World) (h : fullZ k = F) : Calls Tryz.prog 111 #[.int .i64 k] w fun e w' => e = .returned (.int .i64 F) ∧ w = w' := by
  subst h
  go_enter Tryz.func111, Tryz.ntmps111
  go_wp2
  all_goals
    go_ret
    refine ⟨?_, rfl⟩
    refine congrArg (fun b => Ending.returned (Value.int .i64 b)) ?_
    unfold fullZ
    simp_all
theorem rletter_c (k : Nat) (hk : k < 16) (w : World) : Calls Tryz.prog 110 #[.int .i64 (k : Int)] w fun e w' => e = .returned (.int .u8 ((letK k).toNat : Int)) ∧ w = w' := by
  have hl := bget letR k (by simpa [letR] using hk) (letK k) (by unfold letK; simp [List.getD]; rw [List.getElem?_eq_getElem (by simpa [letR] using hk)]; rfl)
  replace hl : (⟨#[63, 63, 121, 77, 77, 77, 100, 69, 69, 72, 104, 109, 115, 97, 90, 122]⟩ : ByteArray)[k]'(by show k < 16; exact hk) = letK k := hl
  have hz : (⟨#[63, 63, 121, 77, 77, 77, 100, 69, 69, 72, 104, 109, 115, 97, 90, 122]⟩ : ByteArray).size = 16 := rfl
  go_enter Tryz.func110, Tryz.ntmps110
  go_wp2
  go_ret
  exact ⟨rfl, rfl⟩
/-- What the reference's field gives. -/
def RfR (p : Prt) (w : World) (e : Ending) (w' : World) : Prop := e = .returned (.tuple #[.agg #[.int .i64 p.k, .int .i64 p.w, .string ⟨p.t.toArray⟩], .bool (decide (p.k ≠ 0))]) ∧ Ext w w'
set_option maxRecDepth 100000 in
set_option maxHeartbeats 1000000 in
theorem rfield_c (c : UInt8) (n : Nat) (w : World) (hn : n ≤ 1000) : Calls Tryz.prog 85 #[.int .u8 (c.toNat : Int), .int .i64 (n : Int)] w (RfR (rfK c n 2) w) := by
  have hE : Ext w (w.alloc (.cells #[.int .i64 0, .int .i64 0, .string ⟨#[]⟩] 110)) := (Ext.refl w).alloc _
  go_enter Tryz.func85, Tryz.ntmps85
  go_wp2_with fail
  go_loopw [6, 7, 8] (fun i _ _ wr => ∃ k : Nat, 2 ≤ k ∧ k ≤ 16 ∧ i = .int .i64 (k : Int) ∧ Hid (rfK c n 2 = rfK c n k) ∧ wr = (w.alloc (.cells #[.int .i64 0, .int .i64 0, .string ⟨#[]⟩] 110))) (fun i _ _ _ => 16 - (intOf i).toNat)
  case atStart => exact ⟨2, by omega, by omega, rfl, rfl, rfl⟩
  case round =>
    obtain ⟨k, hk2, hk16, rfl, HI, rfl⟩ := hrel
    by_cases hlt : k < 16
    · have HS := HI.out
      rw [rfK_step c n k hlt] at HS
      have hkI : (k : Int) ≤ 15 := by omega
      have HF : Hid (fullZ (k : Int) = (fullN k : Int)) := fullZ_nat k
      have HL := Lib.hid (rletter_c k hlt)
      by_cases hc : letK k = c
      · have tl : (((letK k).toNat : Int) != (c.toNat : Int)) = false := by rw [hc]; simp
        rw [if_neg (by simpa using hc)] at HS
        clear hc
        obtain ⟨F, hF⟩ : ∃ F, F = fullN k := ⟨_, rfl⟩
        rw [← hF] at HS HF
        have HFF := Lib.hid hF
        by_cases hF0 : F = 0
        · rw [if_neg (by simpa using hF0)] at HS
          subst hF0
          by_cases k4 : k = 4 ∨ k = 7
          · have hw : wantN k = 3 := by unfold wantN; rw [if_pos k4]
            have q1 : ((k : Int) == 4) = true ∨ (((k : Int) == 4) = false ∧ ((k : Int) == 7) = true) := by
              rcases k4 with rfl | rfl
              · exact .inl rfl
              · exact .inr ⟨rfl, rfl⟩
            have q5 : ((k : Int) == 5) = false := by rw [beq_eq_false_iff_ne]; omega
            have q8 : ((k : Int) == 8) = false := by rw [beq_eq_false_iff_ne]; omega
            rw [hw] at HS
            clear k4 hw hF
            rcases q1 with q1 | ⟨q1, q7⟩
            · by_cases hnw : n = 3
              · rw [if_pos hnw] at HS
                have HV := Lib.hid HS
                have tn : ((n : Int) == 3) = true := by rw [beq_iff_eq]; omega
                clear HS hnw
                go_wp2_with (first
                  | (go_at_call 110; (with_reducible refine (HL.out _).mono ?_); rintro e w1 ⟨rfl, rfl⟩)
                  | (go_at_call 111; (with_reducible refine (rFull_c _ _ _ HF.out).mono ?_); rintro e w1 ⟨rfl, rfl⟩))
                refine bodyPost_ret (v := .tuple #[.agg #[.int .i64 (k : Int), .int .i64 0, .string ⟨#[]⟩], .bool true]) ?_ rfl ⟨?_, ?_⟩
                · simp [results, Tryz.results85, go_sem]
                · rw [HV.out]
                  have : decide ((k : Int) ≠ 0) = true := by simp; omega
                  simp only [this]
                · (repeat (with_reducible (first | exact hE | refine Ext.setCell ?_ (Nat.le_refl _) _ | refine Ext.alloc ?_ _ | exact Ext.refl _)))
              · rw [if_neg hnw] at HS
                have HV := Lib.hid HS
                have tn : ((n : Int) == 3) = false := by rw [beq_eq_false_iff_ne]; omega
                clear HS hnw
                go_wp2_with (first
                  | (go_at_call 110; (with_reducible refine (HL.out _).mono ?_); rintro e w1 ⟨rfl, rfl⟩)
                  | (go_at_call 111; (with_reducible refine (rFull_c _ _ _ HF.out).mono ?_); rintro e w1 ⟨rfl, rfl⟩))
                go_roundw
                case rel => exact ⟨k + 1, by omega, by omega, by go_num, HV.out, by trivial⟩
                case measure => simp [intOf]; omega
            · by_cases hnw : n = 3
              · rw [if_pos hnw] at HS
                have HV := Lib.hid HS
                have tn : ((n : Int) == 3) = true := by rw [beq_iff_eq]; omega
                clear HS hnw
                go_wp2_with (first
                  | (go_at_call 110; (with_reducible refine (HL.out _).mono ?_); rintro e w1 ⟨rfl, rfl⟩)
                  | (go_at_call 111; (with_reducible refine (rFull_c _ _ _ HF.out).mono ?_); rintro e w1 ⟨rfl, rfl⟩))
                refine bodyPost_ret (v := .tuple #[.agg #[.int .i64 (k : Int), .int .i64 0, .string ⟨#[]⟩], .bool true]) ?_ rfl ⟨?_, ?_⟩
                · simp [results, Tryz.results85, go_sem]
                · rw [HV.out]
                  have : decide ((k : Int) ≠ 0) = true := by simp; omega
                  simp only [this]
                · (repeat (with_reducible (first | exact hE | refine Ext.setCell ?_ (Nat.le_refl _) _ | refine Ext.alloc ?_ _ | exact Ext.refl _)))
              · rw [if_neg hnw] at HS
                have HV := Lib.hid HS
                have tn : ((n : Int) == 3) = false := by rw [beq_eq_false_iff_ne]; omega
                clear HS hnw
                go_wp2_with (first
                  | (go_at_call 110; (with_reducible refine (HL.out _).mono ?_); rintro e w1 ⟨rfl, rfl⟩)
                  | (go_at_call 111; (with_reducible refine (rFull_c _ _ _ HF.out).mono ?_); rintro e w1 ⟨rfl, rfl⟩))
                go_roundw
                case rel => exact ⟨k + 1, by omega, by omega, by go_num, HV.out, by trivial⟩
                case measure => simp [intOf]; omega
          · have q4 : ((k : Int) == 4) = false := by rw [beq_eq_false_iff_ne]; omega
            have q7 : ((k : Int) == 7) = false := by rw [beq_eq_false_iff_ne]; omega
            by_cases k5 : k = 5 ∨ k = 8
            · have hw : wantN k = 4 := by unfold wantN; rw [if_neg k4, if_pos k5]
              have q1 : ((k : Int) == 5) = true ∨ (((k : Int) == 5) = false ∧ ((k : Int) == 8) = true) := by
                rcases k5 with rfl | rfl
                · exact .inl rfl
                · exact .inr ⟨rfl, rfl⟩
              rw [hw] at HS
              clear k4 k5 hw hF
              rcases q1 with q1 | ⟨q1, q8⟩
              · by_cases hnw : n = 4
                · rw [if_pos hnw] at HS
                  have HV := Lib.hid HS
                  have tn : ((n : Int) == 4) = true := by rw [beq_iff_eq]; omega
                  clear HS hnw
                  go_wp2_with (first
                    | (go_at_call 110; (with_reducible refine (HL.out _).mono ?_); rintro e w1 ⟨rfl, rfl⟩)
                    | (go_at_call 111; (with_reducible refine (rFull_c _ _ _ HF.out).mono ?_); rintro e w1 ⟨rfl, rfl⟩))
                  refine bodyPost_ret (v := .tuple #[.agg #[.int .i64 (k : Int), .int .i64 0, .string ⟨#[]⟩], .bool true]) ?_ rfl ⟨?_, ?_⟩
                  · simp [results, Tryz.results85, go_sem]
                  · rw [HV.out]
                    have : decide ((k : Int) ≠ 0) = true := by simp; omega
                    simp only [this]
                  · (repeat (with_reducible (first | exact hE | refine Ext.setCell ?_ (Nat.le_refl _) _ | refine Ext.alloc ?_ _ | exact Ext.refl _)))
                · rw [if_neg hnw] at HS
                  have HV := Lib.hid HS
                  have tn : ((n : Int) == 4) = false := by rw [beq_eq_false_iff_ne]; omega
                  clear HS hnw
                  go_wp2_with (first
                    | (go_at_call 110; (with_reducible refine (HL.out _).mono ?_); rintro e w1 ⟨rfl, rfl⟩)
                    | (go_at_call 111; (with_reducible refine (rFull_c _ _ _ HF.out).mono ?_); rintro e w1 ⟨rfl, rfl⟩))
                  go_roundw
                  case rel => exact ⟨k + 1, by omega, by omega, by go_num, HV.out, by trivial⟩
                  case measure => simp [intOf]; omega
              · by_cases hnw : n = 4
                · rw [if_pos hnw] at HS
                  have HV := Lib.hid HS
                  have tn : ((n : Int) == 4) = true := by rw [beq_iff_eq]; omega
                  clear HS hnw
                  go_wp2_with (first
                    | (go_at_call 110; (with_reducible refine (HL.out _).mono ?_); rintro e w1 ⟨rfl, rfl⟩)
                    | (go_at_call 111; (with_reducible refine (rFull_c _ _ _ HF.out).mono ?_); rintro e w1 ⟨rfl, rfl⟩))
                  refine bodyPost_ret (v := .tuple #[.agg #[.int .i64 (k : Int), .int .i64 0, .string ⟨#[]⟩], .bool true]) ?_ rfl ⟨?_, ?_⟩
                  · simp [results, Tryz.results85, go_sem]
                  · rw [HV.out]
                    have : decide ((k : Int) ≠ 0) = true := by simp; omega
                    simp only [this]
                  · (repeat (with_reducible (first | exact hE | refine Ext.setCell ?_ (Nat.le_refl _) _ | refine Ext.alloc ?_ _ | exact Ext.refl _)))
                · rw [if_neg hnw] at HS
                  have HV := Lib.hid HS
                  have tn : ((n : Int) == 4) = false := by rw [beq_eq_false_iff_ne]; omega
                  clear HS hnw
                  go_wp2_with (first
                    | (go_at_call 110; (with_reducible refine (HL.out _).mono ?_); rintro e w1 ⟨rfl, rfl⟩)
                    | (go_at_call 111; (with_reducible refine (rFull_c _ _ _ HF.out).mono ?_); rintro e w1 ⟨rfl, rfl⟩))
                  go_roundw
                  case rel => exact ⟨k + 1, by omega, by omega, by go_num, HV.out, by trivial⟩
                  case measure => simp [intOf]; omega
            · have q5 : ((k : Int) == 5) = false := by rw [beq_eq_false_iff_ne]; omega
              have q8 : ((k : Int) == 8) = false := by rw [beq_eq_false_iff_ne]; omega
              have hw : wantN k = 1 := by unfold wantN; rw [if_neg k4, if_neg k5]
              rw [hw] at HS
              clear k4 k5 hw hF
              by_cases hnw : n = 1
              · rw [if_pos hnw] at HS
                have HV := Lib.hid HS
                have tn : ((n : Int) == 1) = true := by rw [beq_iff_eq]; omega
                clear HS hnw
                go_wp2_with (first
                  | (go_at_call 110; (with_reducible refine (HL.out _).mono ?_); rintro e w1 ⟨rfl, rfl⟩)
                  | (go_at_call 111; (with_reducible refine (rFull_c _ _ _ HF.out).mono ?_); rintro e w1 ⟨rfl, rfl⟩))
                refine bodyPost_ret (v := .tuple #[.agg #[.int .i64 (k : Int), .int .i64 0, .string ⟨#[]⟩], .bool true]) ?_ rfl ⟨?_, ?_⟩
                · simp [results, Tryz.results85, go_sem]
                · rw [HV.out]
                  have : decide ((k : Int) ≠ 0) = true := by simp; omega
                  simp only [this]
                · (repeat (with_reducible (first | exact hE | refine Ext.setCell ?_ (Nat.le_refl _) _ | refine Ext.alloc ?_ _ | exact Ext.refl _)))
              · rw [if_neg hnw] at HS
                have HV := Lib.hid HS
                have tn : ((n : Int) == 1) = false := by rw [beq_eq_false_iff_ne]; omega
                clear HS hnw
                go_wp2_with (first
                  | (go_at_call 110; (with_reducible refine (HL.out _).mono ?_); rintro e w1 ⟨rfl, rfl⟩)
                  | (go_at_call 111; (with_reducible refine (rFull_c _ _ _ HF.out).mono ?_); rintro e w1 ⟨rfl, rfl⟩))
                go_roundw
                case rel => exact ⟨k + 1, by omega, by omega, by go_num, HV.out, by trivial⟩
                case measure => simp [intOf]; omega
        · rw [if_pos (by simpa using hF0)] at HS
          have hF0' : (0 : Int) < (F : Int) := by omega
          by_cases hnF : n ≤ F
          · rw [if_pos hnF] at HS
            have HV := Lib.hid HS
            clear HS hF0 hF
            go_wp2_with (first
              | (go_at_call 110; (with_reducible refine (HL.out _).mono ?_); rintro e w1 ⟨rfl, rfl⟩)
              | (go_at_call 111; (with_reducible refine (rFull_c _ _ _ HF.out).mono ?_); rintro e w1 ⟨rfl, rfl⟩))
            refine bodyPost_ret (v := .tuple #[.agg #[.int .i64 (k : Int), .int .i64 (n : Int), .string ⟨#[]⟩], .bool true]) ?_ rfl ⟨?_, ?_⟩
            · simp [results, Tryz.results85, go_sem]
            · rw [HV.out]
              have : decide ((k : Int) ≠ 0) = true := by simp; omega
              simp only [this]
            · (repeat (with_reducible (first | exact hE | refine Ext.setCell ?_ (Nat.le_refl _) _ | refine Ext.alloc ?_ _ | exact Ext.refl _)))
          · rw [if_neg hnF] at HS
            have HV := Lib.hid HS
            have hnF' : ¬ (n : Int) ≤ (F : Int) := by omega
            clear HS hF0 hF hnF
            go_wp2_with (first
              | (go_at_call 110; (with_reducible refine (HL.out _).mono ?_); rintro e w1 ⟨rfl, rfl⟩)
              | (go_at_call 111; (with_reducible refine (rFull_c _ _ _ HF.out).mono ?_); rintro e w1 ⟨rfl, rfl⟩))
            go_roundw
            case rel => exact ⟨k + 1, by omega, by omega, by go_num, HV.out, by trivial⟩
            case measure => simp [intOf]; omega
      · have tl : (((letK k).toNat : Int) != (c.toNat : Int)) = true := by
          rw [bne_iff_ne]
          intro e
          exact hc (by rw [← UInt8.toNat_inj]; omega)
        rw [if_pos hc] at HS
        have HV := Lib.hid HS
        clear HS hc
        go_wp2_with (first
          | (go_at_call 110; (with_reducible refine (HL.out _).mono ?_); rintro e w1 ⟨rfl, rfl⟩))
        go_roundw
        case rel => exact ⟨k + 1, by omega, by omega, by go_num, HV.out, by trivial⟩
        case measure => simp [intOf]; omega
    · obtain rfl : k = 16 := by omega
      have HV : Hid (rfK c n 2 = ⟨0, 0, []⟩) := by rw [Hid, HI.out, rfK_end]
      clear hlt
      go_wp2_with fail
      refine bodyPost_ret (v := .tuple #[.agg #[.int .i64 0, .int .i64 0, .string ⟨#[]⟩], .bool false]) ?_ rfl ⟨?_, ?_⟩
      · simp [results, Tryz.results85, go_sem]
      · rw [HV.out]; rfl
      · (repeat (with_reducible (first | exact hE | refine Ext.setCell ?_ (Nat.le_refl _) _ | refine Ext.alloc ?_ _ | exact Ext.refl _)))
end Go.Proofs.YtnhdmnhfllecgaaGreatDoor
