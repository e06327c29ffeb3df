/- Locales: the walks of names of zones; the reference's letters and forms. -/
import Derived.Test.YtnhdmnhfllecgaaGreatDoorQ09
import Derived.Test.YtnhdmnhfllecgaaGreatDoorQ04
namespace Go.Proofs.YtnhdmnhfllecgaaGreatDoor
set_option linter.unusedVariables false
set_option linter.unusedSimpArgs false
open Go.RowKit

theorem idx4 (c : UInt8) : decide (Lib.indexByte [95, 47, 43, 45] c < 0) = !decide (c.toNat = 95 ∨ c.toNat = 47 ∨ c.toNat = 43 ∨ c.toNat = 45) := by
  have h : ∀ n : Fin 256, decide (Lib.indexByte [95, 47, 43, 45] (UInt8.ofNat n.val) < 0) = !decide ((UInt8.ofNat n.val).toNat = 95 ∨ (UInt8.ofNat n.val).toNat = 47 ∨ (UInt8.ofNat n.val).toNat = 43 ∨ (UInt8.ofNat n.val).toNat = 45) := by decide +kernel
  have q := h ⟨c.toNat, c.toNat_lt⟩
  rw [show UInt8.ofNat (⟨c.toNat, c.toNat_lt⟩ : Fin 256).val = c by simp] at q
  exact q
theorem idx4_c (c : UInt8) (b : Bool) (w : World) (h : decide (c.toNat = 95 ∨ c.toNat = 47 ∨ c.toNat = 43 ∨ c.toNat = 45) = b) :
    Calls Tryz.prog 71 #[.string ⟨#[95, 47, 43, 45]⟩, .int .u8 (c.toNat : Int)] w fun e w' => ∃ z : Int, e = .returned (.int .i64 z) ∧ decide (z < 0) = (!b) ∧ w = w' := by
  refine (Tryz.strings_IndexByte ⟨#[95, 47, 43, 45]⟩ (c.toNat : Int) w).mono ?_
  rintro e w' ⟨rfl, rfl⟩
  refine ⟨_, rfl, ?_, rfl⟩
  have e : ((c.toNat : Int)).toNat.toUInt8 = c := by simp
  rw [e, show (⟨#[95, 47, 43, 45]⟩ : ByteArray).data.toList = [95, 47, 43, 45] from rfl, idx4, h]
theorem zName_eq (s : List UInt8) (h1 : 1 ≤ s.length) (h2 : s.length ≤ 30) : zNameB s = (isLt s[0] && s.all zmC) := by
  unfold zNameB; rw [decide_eq_true h1, decide_eq_true h2]
  have : s.headD 0 = s[0] := by cases s with | nil => simp at h1 | cons c r => rfl
  rw [this]; rfl
set_option maxRecDepth 100000 in
set_option maxHeartbeats 1000000 in
theorem zname_c (s : List UInt8) (b : Bool) (w : World) (hs : s.length ≤ 9223372036854775806) (hb : zNameB s = b) : Calls Tryz.prog 27 #[.string ⟨s.toArray⟩] w fun e w' => e = .returned (.bool b) ∧ w = w' := by
  by_cases h1 : 1 ≤ s.length
  · by_cases h2 : s.length ≤ 30
    · have b0 := bget s 0 (by omega) _ rfl
      rw [zName_eq s h1 h2] at hb
      obtain ⟨c0, hc0⟩ : ∃ c, c = s[0] := ⟨_, rfl⟩
      rw [← hc0] at b0 hb
      clear hc0
      rcases Bool.eq_false_or_eq_true (isLt c0) with h0 | h0
      · have H0 := Lib.hid h0
        rw [h0, Bool.true_and] at hb
        have HB := Lib.hid hb
        clear h0 hb
        go_enter Tryz.func27, Tryz.ntmps27
        go_wp2_with (first
          | (go_at_call 69; (with_reducible refine (zlet_c c0 true _ H0.out).mono ?_); rintro e w1 ⟨rfl, rfl⟩))
        go_loop [20] (fun i => ∃ j : Nat, j ≤ s.length ∧ i = .int .i64 (j : Int) ∧ Hid ((s.take j).all zmC = true)) (fun i => s.length - (intOf i).toNat)
        case atStart => exact ⟨0, Nat.zero_le _, rfl, rfl⟩
        case round =>
          obtain ⟨j, hj, rfl, Hall⟩ := hrel
          clear b0
          by_cases hlt : j < s.length
          · have hbg := bget s j hlt _ rfl
            have Hs := Lib.hid (all_take zmC s j hlt)
            have HN := Lib.hid (fun q : zmC s[j] = false => all_no j hlt q)
            obtain ⟨c, hc⟩ : ∃ c, c = s[j] := ⟨_, rfl⟩
            rw [← hc] at hbg Hs HN
            clear hc
            have HC : Hid (zmC c = (isLt c || isDg c || decide (c.toNat = 95 ∨ c.toNat = 47 ∨ c.toNat = 43 ∨ c.toNat = 45))) := rfl
            have HY : Hid (zmC c = true → (s.take (j + 1)).all zmC = true) := fun q => by rw [Hs.out, Hall.out, q]; rfl
            rcases Bool.eq_false_or_eq_true (isLt c) with hl | hl
            · have Hl := Lib.hid hl
              have Hn := Lib.hid (HY.out (by rw [HC.out, hl]; rfl))
              clear hl
              go_wp2_with (first
                | (go_at_call 69; (with_reducible refine (zlet_c c _ _ Hl.out).mono ?_); rintro e w1 ⟨rfl, rfl⟩)
                | (go_at_call 70; (with_reducible refine (zdig_c c _ _ Hd.out).mono ?_); rintro e w1 ⟨rfl, rfl⟩)
                | (go_at_call 71; (with_reducible refine (idx4_c c _ _ Hq.out).mono ?_); rintro e w1 ⟨z, rfl, hz, rfl⟩; simp only [Bool.not_true, Bool.not_false, decide_eq_true_eq, decide_eq_false_iff_not] at hz))
              go_round
              case rel => exact ⟨j + 1, by omega, by go_num, Hn⟩
              case measure => simp [intOf]; omega
            · have Hl := Lib.hid hl
              rcases Bool.eq_false_or_eq_true (isDg c) with hd | hd
              · have Hd := Lib.hid hd
                have Hn := Lib.hid (HY.out (by rw [HC.out, hl, hd]; rfl))
                clear hl hd
                go_wp2_with (first
                  | (go_at_call 69; (with_reducible refine (zlet_c c _ _ Hl.out).mono ?_); rintro e w1 ⟨rfl, rfl⟩)
                  | (go_at_call 70; (with_reducible refine (zdig_c c _ _ Hd.out).mono ?_); rintro e w1 ⟨rfl, rfl⟩)
                  | (go_at_call 71; (with_reducible refine (idx4_c c _ _ Hq.out).mono ?_); rintro e w1 ⟨z, rfl, hz, rfl⟩; simp only [Bool.not_true, Bool.not_false, decide_eq_true_eq, decide_eq_false_iff_not] at hz))
                go_round
                case rel => exact ⟨j + 1, by omega, by go_num, Hn⟩
                case measure => simp [intOf]; omega
              · have Hd := Lib.hid hd
                by_cases q95 : c.toNat = 95
                · have q : decide (c.toNat = 95 ∨ c.toNat = 47 ∨ c.toNat = 43 ∨ c.toNat = 45) = true := decide_eq_true (by omega)
                  have Hq := Lib.hid q
                  have Hn := Lib.hid (HY.out (by rw [HC.out, hl, hd, q]; rfl))
                  have t95 : ((c.toNat : Int) != 95) = false := by rw [q95]; rfl
                  clear hl hd q q95
                  go_wp2_with (first
                    | (go_at_call 69; (with_reducible refine (zlet_c c _ _ Hl.out).mono ?_); rintro e w1 ⟨rfl, rfl⟩)
                    | (go_at_call 70; (with_reducible refine (zdig_c c _ _ Hd.out).mono ?_); rintro e w1 ⟨rfl, rfl⟩)
                    | (go_at_call 71; (with_reducible refine (idx4_c c _ _ Hq.out).mono ?_); rintro e w1 ⟨z, rfl, hz, rfl⟩; simp only [Bool.not_true, Bool.not_false, decide_eq_true_eq, decide_eq_false_iff_not] at hz))
                  go_round
                  case rel => exact ⟨j + 1, by omega, by go_num, Hn⟩
                  case measure => simp [intOf]; omega
                · have t95 : ((c.toNat : Int) != 95) = true := by rw [bne_iff_ne]; omega
                  by_cases q47 : c.toNat = 47
                  · have q : decide (c.toNat = 95 ∨ c.toNat = 47 ∨ c.toNat = 43 ∨ c.toNat = 45) = true := decide_eq_true (by omega)
                    have Hq := Lib.hid q
                    have Hn := Lib.hid (HY.out (by rw [HC.out, hl, hd, q]; rfl))
                    have t47 : ((c.toNat : Int) != 47) = false := by rw [q47]; rfl
                    clear hl hd q q47
                    go_wp2_with (first
                      | (go_at_call 69; (with_reducible refine (zlet_c c _ _ Hl.out).mono ?_); rintro e w1 ⟨rfl, rfl⟩)
                      | (go_at_call 70; (with_reducible refine (zdig_c c _ _ Hd.out).mono ?_); rintro e w1 ⟨rfl, rfl⟩)
                      | (go_at_call 71; (with_reducible refine (idx4_c c _ _ Hq.out).mono ?_); rintro e w1 ⟨z, rfl, hz, rfl⟩; simp only [Bool.not_true, Bool.not_false, decide_eq_true_eq, decide_eq_false_iff_not] at hz))
                    go_round
                    case rel => exact ⟨j + 1, by omega, by go_num, Hn⟩
                    case measure => simp [intOf]; omega
                  · have t47 : ((c.toNat : Int) != 47) = true := by rw [bne_iff_ne]; omega
                    by_cases q43 : c.toNat = 43
                    · have q : decide (c.toNat = 95 ∨ c.toNat = 47 ∨ c.toNat = 43 ∨ c.toNat = 45) = true := decide_eq_true (by omega)
                      have Hq := Lib.hid q
                      have Hn := Lib.hid (HY.out (by rw [HC.out, hl, hd, q]; rfl))
                      have t43 : ((c.toNat : Int) != 43) = false := by rw [q43]; rfl
                      clear hl hd q q43
                      go_wp2_with (first
                        | (go_at_call 69; (with_reducible refine (zlet_c c _ _ Hl.out).mono ?_); rintro e w1 ⟨rfl, rfl⟩)
                        | (go_at_call 70; (with_reducible refine (zdig_c c _ _ Hd.out).mono ?_); rintro e w1 ⟨rfl, rfl⟩)
                        | (go_at_call 71; (with_reducible refine (idx4_c c _ _ Hq.out).mono ?_); rintro e w1 ⟨z, rfl, hz, rfl⟩; simp only [Bool.not_true, Bool.not_false, decide_eq_true_eq, decide_eq_false_iff_not] at hz))
                      go_round
                      case rel => exact ⟨j + 1, by omega, by go_num, Hn⟩
                      case measure => simp [intOf]; omega
                    · have t43 : ((c.toNat : Int) != 43) = true := by rw [bne_iff_ne]; omega
                      by_cases q45 : c.toNat = 45
                      · have q : decide (c.toNat = 95 ∨ c.toNat = 47 ∨ c.toNat = 43 ∨ c.toNat = 45) = true := decide_eq_true (by omega)
                        have Hq := Lib.hid q
                        have Hn := Lib.hid (HY.out (by rw [HC.out, hl, hd, q]; rfl))
                        have t45 : ((c.toNat : Int) != 45) = false := by rw [q45]; rfl
                        clear hl hd q q45
                        go_wp2_with (first
                          | (go_at_call 69; (with_reducible refine (zlet_c c _ _ Hl.out).mono ?_); rintro e w1 ⟨rfl, rfl⟩)
                          | (go_at_call 70; (with_reducible refine (zdig_c c _ _ Hd.out).mono ?_); rintro e w1 ⟨rfl, rfl⟩)
                          | (go_at_call 71; (with_reducible refine (idx4_c c _ _ Hq.out).mono ?_); rintro e w1 ⟨z, rfl, hz, rfl⟩; simp only [Bool.not_true, Bool.not_false, decide_eq_true_eq, decide_eq_false_iff_not] at hz))
                        go_round
                        case rel => exact ⟨j + 1, by omega, by go_num, Hn⟩
                        case measure => simp [intOf]; omega
                      · have t45 : ((c.toNat : Int) != 45) = true := by rw [bne_iff_ne]; omega
                        have q : decide (c.toNat = 95 ∨ c.toNat = 47 ∨ c.toNat = 43 ∨ c.toNat = 45) = false := decide_eq_false (by omega)
                        have Hq := Lib.hid q
                        have Hn : Hid (b = false) := by rw [Hid, ← HB.out]; exact HN.out (by rw [HC.out, hl, hd, q]; rfl)
                        clear hl hd q
                        go_wp2_with (first
                          | (go_at_call 69; (with_reducible refine (zlet_c c _ _ Hl.out).mono ?_); rintro e w1 ⟨rfl, rfl⟩)
                          | (go_at_call 70; (with_reducible refine (zdig_c c _ _ Hd.out).mono ?_); rintro e w1 ⟨rfl, rfl⟩)
                          | (go_at_call 71; (with_reducible refine (idx4_c c _ _ Hq.out).mono ?_); rintro e w1 ⟨z, rfl, hz, rfl⟩; simp only [Bool.not_true, Bool.not_false, decide_eq_true_eq, decide_eq_false_iff_not] at hz))
                        go_ret
                        exact ⟨by rw [Hn.out]; rfl, rfl⟩
          · obtain rfl : j = s.length := by omega
            have Hn : Hid (b = true) := by rw [Hid, ← HB.out]; have := Hall.out; rwa [List.take_length] at this
            go_wp2_with fail
            go_ret
            exact ⟨by rw [Hn.out]; rfl, rfl⟩
      · have H0 := Lib.hid h0
        rw [h0, Bool.false_and] at hb
        subst hb
        clear h0
        go_enter Tryz.func27, Tryz.ntmps27
        go_wp2_with (first
          | (go_at_call 69; (with_reducible refine (zlet_c c0 false _ H0.out).mono ?_); rintro e w1 ⟨rfl, rfl⟩))
        go_ret
        exact ⟨rfl, rfl⟩
    · have hq : zNameB s = false := by unfold zNameB; rw [decide_eq_false h2]; simp
      rw [hq] at hb
      subst hb
      have d2 : (30 : Int) < (s.length : Int) := by omega
      clear h2 hq
      go_enter Tryz.func27, Tryz.ntmps27
      go_wp2_with fail
      go_ret
      exact ⟨rfl, rfl⟩
  · have hq : zNameB s = false := by unfold zNameB; rw [decide_eq_false h1]; simp
    rw [hq] at hb
    subst hb
    have d2 : (s.length : Int) < 1 := by omega
    clear h1 hq
    go_enter Tryz.func27, Tryz.ntmps27
    go_wp2_with fail
    go_ret
    exact ⟨rfl, rfl⟩
set_option maxRecDepth 100000 in
set_option maxHeartbeats 1000000 in
theorem rzname_c (s : List UInt8) (b : Bool) (w : World) (hs : s.length ≤ 9223372036854775806) (hb : zNameB s = b) : Calls Tryz.prog 36 #[.string ⟨s.toArray⟩] w fun e w' => e = .returned (.bool b) ∧ w = w' := by
  by_cases h1 : 1 ≤ s.length
  · by_cases h2 : s.length ≤ 30
    · have b0 := bget s 0 (by omega) _ rfl
      rw [zName_eq s h1 h2] at hb
      obtain ⟨c0, hc0⟩ : ∃ c, c = s[0] := ⟨_, rfl⟩
      rw [← hc0] at b0 hb
      clear hc0
      rcases Bool.eq_false_or_eq_true (isLt c0) with h0 | h0
      · have H0 := Lib.hid h0
        rw [h0, Bool.true_and] at hb
        have HB := Lib.hid hb
        clear h0 hb
        go_enter Tryz.func36, Tryz.ntmps36
        go_wp2_with (first
          | (go_at_call 86; (with_reducible refine (rzlet_c c0 true _ H0.out).mono ?_); rintro e w1 ⟨rfl, rfl⟩))
        go_loop [3] (fun i => ∃ j : Nat, j ≤ s.length ∧ i = .int .i64 (j : Int) ∧ Hid ((s.take j).all zmC = true)) (fun i => s.length - (intOf i).toNat)
        case atStart => exact ⟨0, Nat.zero_le _, rfl, rfl⟩
        case round =>
          obtain ⟨j, hj, rfl, Hall⟩ := hrel
          clear b0
          by_cases hlt : j < s.length
          · have hbg := bget s j hlt _ rfl
            have Hs := Lib.hid (all_take zmC s j hlt)
            have HN := Lib.hid (fun q : zmC s[j] = false => all_no j hlt q)
            obtain ⟨c, hc⟩ : ∃ c, c = s[j] := ⟨_, rfl⟩
            rw [← hc] at hbg Hs HN
            clear hc
            have HC : Hid (zmC c = (isLt c || isDg c || decide (c.toNat = 95 ∨ c.toNat = 47 ∨ c.toNat = 43 ∨ c.toNat = 45))) := rfl
            have HY : Hid (zmC c = true → (s.take (j + 1)).all zmC = true) := fun q => by rw [Hs.out, Hall.out, q]; rfl
            rcases Bool.eq_false_or_eq_true (isLt c) with hl | hl
            · have Hl := Lib.hid hl
              have Hn := Lib.hid (HY.out (by rw [HC.out, hl]; rfl))
              clear hl
              go_wp2_with (first
                | (go_at_call 86; (with_reducible refine (rzlet_c c _ _ Hl.out).mono ?_); rintro e w1 ⟨rfl, rfl⟩)
                | (go_at_call 87; (with_reducible refine (rzdig_c c _ _ Hd.out).mono ?_); rintro e w1 ⟨rfl, rfl⟩))
              go_round
              case rel => exact ⟨j + 1, by omega, by go_num, Hn⟩
              case measure => simp [intOf]; omega
            · have Hl := Lib.hid hl
              rcases Bool.eq_false_or_eq_true (isDg c) with hd | hd
              · have Hd := Lib.hid hd
                have Hn := Lib.hid (HY.out (by rw [HC.out, hl, hd]; rfl))
                clear hl hd
                go_wp2_with (first
                  | (go_at_call 86; (with_reducible refine (rzlet_c c _ _ Hl.out).mono ?_); rintro e w1 ⟨rfl, rfl⟩)
                  | (go_at_call 87; (with_reducible refine (rzdig_c c _ _ Hd.out).mono ?_); rintro e w1 ⟨rfl, rfl⟩))
                go_round
                case rel => exact ⟨j + 1, by omega, by go_num, Hn⟩
                case measure => simp [intOf]; omega
              · have Hd := Lib.hid hd
                by_cases q95 : c.toNat = 95
                · have q : decide (c.toNat = 95 ∨ c.toNat = 47 ∨ c.toNat = 43 ∨ c.toNat = 45) = true := decide_eq_true (by omega)
                  have Hq := Lib.hid q
                  have Hn := Lib.hid (HY.out (by rw [HC.out, hl, hd, q]; rfl))
                  have t95 : ((c.toNat : Int) != 95) = false := by rw [q95]; rfl
                  clear hl hd q q95
                  go_wp2_with (first
                    | (go_at_call 86; (with_reducible refine (rzlet_c c _ _ Hl.out).mono ?_); rintro e w1 ⟨rfl, rfl⟩)
                    | (go_at_call 87; (with_reducible refine (rzdig_c c _ _ Hd.out).mono ?_); rintro e w1 ⟨rfl, rfl⟩))
                  go_round
                  case rel => exact ⟨j + 1, by omega, by go_num, Hn⟩
                  case measure => simp [intOf]; omega
                · have t95 : ((c.toNat : Int) != 95) = true := by rw [bne_iff_ne]; omega
                  by_cases q47 : c.toNat = 47
                  · have q : decide (c.toNat = 95 ∨ c.toNat = 47 ∨ c.toNat = 43 ∨ c.toNat = 45) = true := decide_eq_true (by omega)
                    have Hq := Lib.hid q
                    have Hn := Lib.hid (HY.out (by rw [HC.out, hl, hd, q]; rfl))
                    have t47 : ((c.toNat : Int) != 47) = false := by rw [q47]; rfl
                    clear hl hd q q47
                    go_wp2_with (first
                      | (go_at_call 86; (with_reducible refine (rzlet_c c _ _ Hl.out).mono ?_); rintro e w1 ⟨rfl, rfl⟩)
                      | (go_at_call 87; (with_reducible refine (rzdig_c c _ _ Hd.out).mono ?_); rintro e w1 ⟨rfl, rfl⟩))
                    go_round
                    case rel => exact ⟨j + 1, by omega, by go_num, Hn⟩
                    case measure => simp [intOf]; omega
                  · have t47 : ((c.toNat : Int) != 47) = true := by rw [bne_iff_ne]; omega
                    by_cases q43 : c.toNat = 43
                    · have q : decide (c.toNat = 95 ∨ c.toNat = 47 ∨ c.toNat = 43 ∨ c.toNat = 45) = true := decide_eq_true (by omega)
                      have Hq := Lib.hid q
                      have Hn := Lib.hid (HY.out (by rw [HC.out, hl, hd, q]; rfl))
                      have t43 : ((c.toNat : Int) != 43) = false := by rw [q43]; rfl
                      clear hl hd q q43
                      go_wp2_with (first
                        | (go_at_call 86; (with_reducible refine (rzlet_c c _ _ Hl.out).mono ?_); rintro e w1 ⟨rfl, rfl⟩)
                        | (go_at_call 87; (with_reducible refine (rzdig_c c _ _ Hd.out).mono ?_); rintro e w1 ⟨rfl, rfl⟩))
                      go_round
                      case rel => exact ⟨j + 1, by omega, by go_num, Hn⟩
                      case measure => simp [intOf]; omega
                    · have t43 : ((c.toNat : Int) != 43) = true := by rw [bne_iff_ne]; omega
                      by_cases q45 : c.toNat = 45
                      · have q : decide (c.toNat = 95 ∨ c.toNat = 47 ∨ c.toNat = 43 ∨ c.toNat = 45) = true := decide_eq_true (by omega)
                        have Hq := Lib.hid q
                        have Hn := Lib.hid (HY.out (by rw [HC.out, hl, hd, q]; rfl))
                        have t45 : ((c.toNat : Int) != 45) = false := by rw [q45]; rfl
                        clear hl hd q q45
                        go_wp2_with (first
                          | (go_at_call 86; (with_reducible refine (rzlet_c c _ _ Hl.out).mono ?_); rintro e w1 ⟨rfl, rfl⟩)
                          | (go_at_call 87; (with_reducible refine (rzdig_c c _ _ Hd.out).mono ?_); rintro e w1 ⟨rfl, rfl⟩))
                        go_round
                        case rel => exact ⟨j + 1, by omega, by go_num, Hn⟩
                        case measure => simp [intOf]; omega
                      · have t45 : ((c.toNat : Int) != 45) = true := by rw [bne_iff_ne]; omega
                        have q : decide (c.toNat = 95 ∨ c.toNat = 47 ∨ c.toNat = 43 ∨ c.toNat = 45) = false := decide_eq_false (by omega)
                        have Hq := Lib.hid q
                        have Hn : Hid (b = false) := by rw [Hid, ← HB.out]; exact HN.out (by rw [HC.out, hl, hd, q]; rfl)
                        clear hl hd q
                        go_wp2_with (first
                          | (go_at_call 86; (with_reducible refine (rzlet_c c _ _ Hl.out).mono ?_); rintro e w1 ⟨rfl, rfl⟩)
                          | (go_at_call 87; (with_reducible refine (rzdig_c c _ _ Hd.out).mono ?_); rintro e w1 ⟨rfl, rfl⟩))
                        go_ret
                        exact ⟨by rw [Hn.out]; rfl, rfl⟩
          · obtain rfl : j = s.length := by omega
            have Hn : Hid (b = true) := by rw [Hid, ← HB.out]; have := Hall.out; rwa [List.take_length] at this
            go_wp2_with fail
            go_ret
            exact ⟨by rw [Hn.out]; rfl, rfl⟩
      · have H0 := Lib.hid h0
        rw [h0, Bool.false_and] at hb
        subst hb
        clear h0
        go_enter Tryz.func36, Tryz.ntmps36
        go_wp2_with (first
          | (go_at_call 86; (with_reducible refine (rzlet_c c0 false _ H0.out).mono ?_); rintro e w1 ⟨rfl, rfl⟩))
        go_ret
        exact ⟨rfl, rfl⟩
    · have hq : zNameB s = false := by unfold zNameB; rw [decide_eq_false h2]; simp
      rw [hq] at hb
      subst hb
      have d2 : (30 : Int) < (s.length : Int) := by omega
      clear h2 hq
      go_enter Tryz.func36, Tryz.ntmps36
      go_wp2_with fail
      go_ret
      exact ⟨rfl, rfl⟩
  · have hq : zNameB s = false := by unfold zNameB; rw [decide_eq_false h1]; simp
    rw [hq] at hb
    subst hb
    have d2 : (s.length : Int) < 1 := by omega
    clear h1 hq
    go_enter Tryz.func36, Tryz.ntmps36
    go_wp2_with fail
    go_ret
    exact ⟨rfl, rfl⟩
end Go.Proofs.YtnhdmnhfllecgaaGreatDoor
/- Locales: the walks of the reference's letters and forms. -/
namespace Go.Proofs.YtnhdmnhfllecgaaGreatDoor
set_option linter.unusedVariables false
set_option linter.unusedSimpArgs false
open Go.RowKit

theorem sfC_iff (c : UInt8) : sfC c = decide ((97 ≤ c.toNat ∧ c.toNat ≤ 122) ∨ (65 ≤ c.toNat ∧ c.toNat ≤ 90) ∨ c.toNat = 46) := by
  unfold sfC isLt
  rw [Bool.eq_iff_iff]
  simp [or_assoc]
set_option maxRecDepth 100000 in
theorem rlet_sm (s : List UInt8) (b : Bool) (w : World) (hs : s.length ≤ 9223372036854775806) (hb : onlyB smC 10 s = b) : Calls Tryz.prog 39 #[.string ⟨s.toArray⟩, .int .i64 10, .bool false] w fun e w' => e = .returned (.bool b) ∧ w = w' := by
  unfold onlyB at hb
  by_cases h1 : 1 ≤ s.length
  · by_cases h2 : (s.length : Int) ≤ 10
    · rw [decide_eq_true h1, decide_eq_true h2, Bool.true_and, Bool.true_and] at hb
      have HB := Lib.hid hb
      clear hb
      go_enter Tryz.func39, Tryz.ntmps39
      go_wp2_with fail
      go_loop [7] (fun i => ∃ j : Nat, j ≤ s.length ∧ i = .int .i64 (j : Int) ∧ Hid ((s.take j).all smC = true)) (fun i => s.length - (intOf i).toNat)
      case atStart => exact ⟨0, Nat.zero_le _, rfl, rfl⟩
      case round =>
        obtain ⟨j, hj, rfl, Hall⟩ := hrel
        by_cases hlt : j < s.length
        · have hbg := bget s j hlt _ rfl
          have Hs := Lib.hid (all_take smC s j hlt)
          have HN := Lib.hid (fun q : smC s[j] = false => all_no j hlt q)
          obtain ⟨c, hc⟩ : ∃ c, c = s[j] := ⟨_, rfl⟩
          rw [← hc] at hbg Hs HN
          clear hc
          have hc256 : c.toNat < 256 := c.toNat_lt
          rcases Bool.eq_false_or_eq_true (smC c) with hq | hq
          · have Hn : Hid ((s.take (j + 1)).all smC = true) := by rw [Hid, Hs.out, Hall.out, hq]; rfl
            unfold smC at hq; simp only [decide_eq_true_eq, decide_eq_false_iff_not] at hq
            by_cases a1 : 97 ≤ c.toNat <;> by_cases a2 : c.toNat ≤ 122 <;> by_cases a3 : 65 ≤ c.toNat <;> by_cases a4 : c.toNat ≤ 90 <;> by_cases a5 : c.toNat = 46
            all_goals first
              | (exfalso; omega)
              | ((first | have t5 : ((c.toNat : Int) == 46) = true := by (rw [beq_iff_eq]; omega) | have t5 : ((c.toNat : Int) == 46) = false := by (rw [beq_eq_false_iff_ne]; omega))
                 (first | have e1 : decide ((97 : Int) ≤ (c.toNat : Int)) = true := decide_eq_true (by omega) | have e1 : decide ((97 : Int) ≤ (c.toNat : Int)) = false := decide_eq_false (by omega))
                 (first | have e2 : decide ((c.toNat : Int) ≤ 122) = true := decide_eq_true (by omega) | have e2 : decide ((c.toNat : Int) ≤ 122) = false := decide_eq_false (by omega))
                 (first | have e3 : decide ((65 : Int) ≤ (c.toNat : Int)) = true := decide_eq_true (by omega) | have e3 : decide ((65 : Int) ≤ (c.toNat : Int)) = false := decide_eq_false (by omega))
                 (first | have e4 : decide ((c.toNat : Int) ≤ 90) = true := decide_eq_true (by omega) | have e4 : decide ((c.toNat : Int) ≤ 90) = false := decide_eq_false (by omega))
                 clear a1 a2 a3 a4 a5 hq hc256
                 go_wp2_with fail
                 go_round
                 case rel => exact ⟨j + 1, by omega, by go_num, Hn⟩
                 case measure => simp [intOf]; omega)
          · have Hn : Hid (b = false) := by rw [Hid, ← HB.out]; exact HN.out hq
            unfold smC at hq; simp only [decide_eq_true_eq, decide_eq_false_iff_not] at hq
            by_cases a1 : 97 ≤ c.toNat <;> by_cases a2 : c.toNat ≤ 122 <;> by_cases a3 : 65 ≤ c.toNat <;> by_cases a4 : c.toNat ≤ 90 <;> by_cases a5 : c.toNat = 46
            all_goals first
              | (exfalso; omega)
              | ((first | have t5 : ((c.toNat : Int) == 46) = true := by (rw [beq_iff_eq]; omega) | have t5 : ((c.toNat : Int) == 46) = false := by (rw [beq_eq_false_iff_ne]; omega))
                 (first | have e1 : decide ((97 : Int) ≤ (c.toNat : Int)) = true := decide_eq_true (by omega) | have e1 : decide ((97 : Int) ≤ (c.toNat : Int)) = false := decide_eq_false (by omega))
                 (first | have e2 : decide ((c.toNat : Int) ≤ 122) = true := decide_eq_true (by omega) | have e2 : decide ((c.toNat : Int) ≤ 122) = false := decide_eq_false (by omega))
                 (first | have e3 : decide ((65 : Int) ≤ (c.toNat : Int)) = true := decide_eq_true (by omega) | have e3 : decide ((65 : Int) ≤ (c.toNat : Int)) = false := decide_eq_false (by omega))
                 (first | have e4 : decide ((c.toNat : Int) ≤ 90) = true := decide_eq_true (by omega) | have e4 : decide ((c.toNat : Int) ≤ 90) = false := decide_eq_false (by omega))
                 clear a1 a2 a3 a4 a5 hq hc256
                 go_wp2_with fail
                 go_ret
                 exact ⟨by rw [Hn.out]; rfl, rfl⟩)
        · obtain rfl : j = s.length := by omega
          have Hn : Hid (b = true) := by rw [Hid, ← HB.out]; have := Hall.out; rwa [List.take_length] at this
          go_wp2_with fail
          go_ret
          exact ⟨by rw [Hn.out]; rfl, rfl⟩
    · rw [decide_eq_false h2] at hb
      simp at hb
      subst hb
      have h3 : 10 < (s.length : Int) := by omega
      clear h2
      go_enter Tryz.func39, Tryz.ntmps39
      go_wp2_with fail
      go_ret
      exact ⟨rfl, rfl⟩
  · rw [decide_eq_false h1] at hb
    simp at hb
    subst hb
    have h3 : (s.length : Int) < 1 := by omega
    clear h1
    go_enter Tryz.func39, Tryz.ntmps39
    go_wp2_with fail
    go_ret
    exact ⟨rfl, rfl⟩
set_option maxRecDepth 100000 in
theorem rlet_sf (s : List UInt8) (b : Bool) (w : World) (hs : s.length ≤ 9223372036854775806) (hb : onlyB sfC 8 s = b) : Calls Tryz.prog 39 #[.string ⟨s.toArray⟩, .int .i64 8, .bool true] w fun e w' => e = .returned (.bool b) ∧ w = w' := by
  unfold onlyB at hb
  by_cases h1 : 1 ≤ s.length
  · by_cases h2 : (s.length : Int) ≤ 8
    · rw [decide_eq_true h1, decide_eq_true h2, Bool.true_and, Bool.true_and] at hb
      have HB := Lib.hid hb
      clear hb
      go_enter Tryz.func39, Tryz.ntmps39
      go_wp2_with fail
      go_loop [7] (fun i => ∃ j : Nat, j ≤ s.length ∧ i = .int .i64 (j : Int) ∧ Hid ((s.take j).all sfC = true)) (fun i => s.length - (intOf i).toNat)
      case atStart => exact ⟨0, Nat.zero_le _, rfl, rfl⟩
      case round =>
        obtain ⟨j, hj, rfl, Hall⟩ := hrel
        by_cases hlt : j < s.length
        · have hbg := bget s j hlt _ rfl
          have Hs := Lib.hid (all_take sfC s j hlt)
          have HN := Lib.hid (fun q : sfC s[j] = false => all_no j hlt q)
          obtain ⟨c, hc⟩ : ∃ c, c = s[j] := ⟨_, rfl⟩
          rw [← hc] at hbg Hs HN
          clear hc
          have hc256 : c.toNat < 256 := c.toNat_lt
          rcases Bool.eq_false_or_eq_true (sfC c) with hq | hq
          · have Hn : Hid ((s.take (j + 1)).all sfC = true) := by rw [Hid, Hs.out, Hall.out, hq]; rfl
            rw [sfC_iff] at hq; simp only [decide_eq_true_eq, decide_eq_false_iff_not] at hq
            by_cases a1 : 97 ≤ c.toNat <;> by_cases a2 : c.toNat ≤ 122 <;> by_cases a3 : 65 ≤ c.toNat <;> by_cases a4 : c.toNat ≤ 90 <;> by_cases a5 : c.toNat = 46
            all_goals first
              | (exfalso; omega)
              | ((first | have t5 : ((c.toNat : Int) == 46) = true := by (rw [beq_iff_eq]; omega) | have t5 : ((c.toNat : Int) == 46) = false := by (rw [beq_eq_false_iff_ne]; omega))
                 (first | have e1 : decide ((97 : Int) ≤ (c.toNat : Int)) = true := decide_eq_true (by omega) | have e1 : decide ((97 : Int) ≤ (c.toNat : Int)) = false := decide_eq_false (by omega))
                 (first | have e2 : decide ((c.toNat : Int) ≤ 122) = true := decide_eq_true (by omega) | have e2 : decide ((c.toNat : Int) ≤ 122) = false := decide_eq_false (by omega))
                 (first | have e3 : decide ((65 : Int) ≤ (c.toNat : Int)) = true := decide_eq_true (by omega) | have e3 : decide ((65 : Int) ≤ (c.toNat : Int)) = false := decide_eq_false (by omega))
                 (first | have e4 : decide ((c.toNat : Int) ≤ 90) = true := decide_eq_true (by omega) | have e4 : decide ((c.toNat : Int) ≤ 90) = false := decide_eq_false (by omega))
                 clear a1 a2 a3 a4 a5 hq hc256
                 go_wp2_with fail
                 go_round
                 case rel => exact ⟨j + 1, by omega, by go_num, Hn⟩
                 case measure => simp [intOf]; omega)
          · have Hn : Hid (b = false) := by rw [Hid, ← HB.out]; exact HN.out hq
            rw [sfC_iff] at hq; simp only [decide_eq_true_eq, decide_eq_false_iff_not] at hq
            by_cases a1 : 97 ≤ c.toNat <;> by_cases a2 : c.toNat ≤ 122 <;> by_cases a3 : 65 ≤ c.toNat <;> by_cases a4 : c.toNat ≤ 90 <;> by_cases a5 : c.toNat = 46
            all_goals first
              | (exfalso; omega)
              | ((first | have t5 : ((c.toNat : Int) == 46) = true := by (rw [beq_iff_eq]; omega) | have t5 : ((c.toNat : Int) == 46) = false := by (rw [beq_eq_false_iff_ne]; omega))
                 (first | have e1 : decide ((97 : Int) ≤ (c.toNat : Int)) = true := decide_eq_true (by omega) | have e1 : decide ((97 : Int) ≤ (c.toNat : Int)) = false := decide_eq_false (by omega))
                 (first | have e2 : decide ((c.toNat : Int) ≤ 122) = true := decide_eq_true (by omega) | have e2 : decide ((c.toNat : Int) ≤ 122) = false := decide_eq_false (by omega))
                 (first | have e3 : decide ((65 : Int) ≤ (c.toNat : Int)) = true := decide_eq_true (by omega) | have e3 : decide ((65 : Int) ≤ (c.toNat : Int)) = false := decide_eq_false (by omega))
                 (first | have e4 : decide ((c.toNat : Int) ≤ 90) = true := decide_eq_true (by omega) | have e4 : decide ((c.toNat : Int) ≤ 90) = false := decide_eq_false (by omega))
                 clear a1 a2 a3 a4 a5 hq hc256
                 go_wp2_with fail
                 go_ret
                 exact ⟨by rw [Hn.out]; rfl, rfl⟩)
        · obtain rfl : j = s.length := by omega
          have Hn : Hid (b = true) := by rw [Hid, ← HB.out]; have := Hall.out; rwa [List.take_length] at this
          go_wp2_with fail
          go_ret
          exact ⟨by rw [Hn.out]; rfl, rfl⟩
    · rw [decide_eq_false h2] at hb
      simp at hb
      subst hb
      have h3 : 8 < (s.length : Int) := by omega
      clear h2
      go_enter Tryz.func39, Tryz.ntmps39
      go_wp2_with fail
      go_ret
      exact ⟨rfl, rfl⟩
  · rw [decide_eq_false h1] at hb
    simp at hb
    subst hb
    have h3 : (s.length : Int) < 1 := by omega
    clear h1
    go_enter Tryz.func39, Tryz.ntmps39
    go_wp2_with fail
    go_ret
    exact ⟨rfl, rfl⟩
theorem formB_eq (s : List UInt8) (h1 : 1 ≤ s.length) (h2 : s.length ≤ 30) : formB s = (s.all frC && (!decide (s[0] = 32) && !decide (s[s.length - 1] = 32))) := by
  unfold formB onlyB trimOk
  rw [decide_eq_true h1, decide_eq_true (show (s.length : Int) ≤ 30 by omega)]
  have e1 : s.head? = some s[0] := by cases s with | nil => simp at h1 | cons c r => rfl
  have e2 : s.getLast? = some s[s.length - 1] := by
    rw [List.getLast?_eq_getElem?, List.getElem?_eq_getElem (by omega)]
  rw [e1, e2]
  simp [Bool.beq_eq_decide_eq]
set_option maxRecDepth 100000 in
set_option maxHeartbeats 1000000 in
theorem rform_c (s : List UInt8) (b : Bool) (w : World) (hs : s.length ≤ 9223372036854775806) (hb : formB s = b) : Calls Tryz.prog 40 #[.string ⟨s.toArray⟩] w fun e w' => e = .returned (.bool b) ∧ w = w' := by
  by_cases h1 : 1 ≤ s.length
  · by_cases h2 : s.length ≤ 30
    · have b0 := bget s 0 (by omega) _ rfl
      have bz := bget s (s.length - 1) (by omega) _ rfl
      rw [formB_eq s h1 h2] at hb
      have hiz : ((s.length : Int) - 1).toNat = s.length - 1 := by omega
      obtain ⟨z, hz⟩ : ∃ z, z = s.length - 1 := ⟨_, rfl⟩
      have hzi : (s.length : Int) - 1 = (z : Int) := by omega
      have hzl : z < s.length := by omega
      have bz2 := bget s z hzl s[z] rfl
      obtain ⟨cz, hcz⟩ : ∃ c, c = s[z] := ⟨_, rfl⟩
      have hb2 : (s.all frC && (!decide (s[0] = 32) && !decide (cz = 32))) = b := by rw [← hb, hcz]; subst hz; rfl
      rw [← hcz] at bz2
      obtain ⟨c0, hc0⟩ : ∃ c, c = s[0] := ⟨_, rfl⟩
      rw [← hc0] at b0 hb2
      clear hc0 hb bz hiz hcz hz
      by_cases q0 : c0 = 32
      · have hB : Hid (b = false) := by rw [Hid, ← hb2, q0]; simp
        have t0 : ((c0.toNat : Int) == 32) = true := by rw [q0]; rfl
        clear q0 hb2
        go_enter Tryz.func40, Tryz.ntmps40
        go_wp2_with fail
        go_ret
        exact ⟨by rw [hB.out]; rfl, rfl⟩
      · have e0 : ¬ c0.toNat = 32 := fun e => q0 (by rw [← UInt8.toNat_inj]; rw [e]; rfl)
        have t0 : ((c0.toNat : Int) == 32) = false := by rw [beq_eq_false_iff_ne]; omega
        by_cases qz : cz = 32
        · have hB : Hid (b = false) := by rw [Hid, ← hb2, qz]; simp
          have t1 : ((cz.toNat : Int) == 32) = true := by rw [qz]; rfl
          clear q0 qz hb2 e0
          go_enter Tryz.func40, Tryz.ntmps40
          go_wp2_with fail
          go_ret
          exact ⟨by rw [hB.out]; rfl, rfl⟩
        · have e1 : ¬ cz.toNat = 32 := fun e => qz (by rw [← UInt8.toNat_inj]; rw [e]; rfl)
          have t1 : ((cz.toNat : Int) == 32) = false := by rw [beq_eq_false_iff_ne]; omega
          have HB : Hid (s.all frC = b) := by rw [Hid, ← hb2]; simp [q0, qz]
          clear q0 qz hb2 e0 e1
          go_enter Tryz.func40, Tryz.ntmps40
          go_wp2_with fail
          go_loop [3] (fun i => ∃ j : Nat, j ≤ s.length ∧ i = .int .i64 (j : Int) ∧ Hid ((s.take j).all frC = true)) (fun i => s.length - (intOf i).toNat)
          case atStart => exact ⟨0, Nat.zero_le _, rfl, rfl⟩
          case round =>
            obtain ⟨j, hj, rfl, Hall⟩ := hrel
            clear b0 bz2 t0 t1 hzi hzl
            by_cases hlt : j < s.length
            · have hbg := bget s j hlt _ rfl
              have Hs := Lib.hid (all_take frC s j hlt)
              have HN := Lib.hid (fun q : frC s[j] = false => all_no j hlt q)
              obtain ⟨c, hc⟩ : ∃ c, c = s[j] := ⟨_, rfl⟩
              rw [← hc] at hbg Hs HN
              clear hc
              have hc256 : c.toNat < 256 := c.toNat_lt
              rcases Bool.eq_false_or_eq_true (frC c) with hq | hq
              · have Hn : Hid ((s.take (j + 1)).all frC = true) := by rw [Hid, Hs.out, Hall.out, hq]; rfl
                unfold frC at hq
                simp only [decide_eq_true_eq] at hq
                by_cases a1 : 32 ≤ c.toNat <;> by_cases a2 : c.toNat ≤ 126 <;> by_cases a3 : 48 ≤ c.toNat <;> by_cases a4 : c.toNat ≤ 57 <;> by_cases a5 : c.toNat = 44
                all_goals first
                  | (exfalso; omega)
                  | ((first | have t5 : ((c.toNat : Int) == 44) = true := by (rw [beq_iff_eq]; omega) | have t5 : ((c.toNat : Int) == 44) = false := by (rw [beq_eq_false_iff_ne]; omega))
                     (first | have e1 : decide ((c.toNat : Int) < 32) = true := decide_eq_true (by omega) | have e1 : decide ((c.toNat : Int) < 32) = false := decide_eq_false (by omega))
                     (first | have e2 : decide ((126 : Int) < (c.toNat : Int)) = true := decide_eq_true (by omega) | have e2 : decide ((126 : Int) < (c.toNat : Int)) = false := decide_eq_false (by omega))
                     (first | have e3 : decide ((48 : Int) ≤ (c.toNat : Int)) = true := decide_eq_true (by omega) | have e3 : decide ((48 : Int) ≤ (c.toNat : Int)) = false := decide_eq_false (by omega))
                     (first | have e4 : decide ((c.toNat : Int) ≤ 57) = true := decide_eq_true (by omega) | have e4 : decide ((c.toNat : Int) ≤ 57) = false := decide_eq_false (by omega))
                     clear a1 a2 a3 a4 a5 hq hc256
                     go_wp2_with fail
                     go_round
                     case rel => exact ⟨j + 1, by omega, by go_num, Hn⟩
                     case measure => simp [intOf]; omega)
              · have Hn : Hid (b = false) := by rw [Hid, ← HB.out]; exact HN.out hq
                unfold frC at hq
                simp only [decide_eq_false_iff_not] at hq
                by_cases a1 : 32 ≤ c.toNat <;> by_cases a2 : c.toNat ≤ 126 <;> by_cases a3 : 48 ≤ c.toNat <;> by_cases a4 : c.toNat ≤ 57 <;> by_cases a5 : c.toNat = 44
                all_goals first
                  | (exfalso; omega)
                  | ((first | have t5 : ((c.toNat : Int) == 44) = true := by (rw [beq_iff_eq]; omega) | have t5 : ((c.toNat : Int) == 44) = false := by (rw [beq_eq_false_iff_ne]; omega))
                     (first | have e1 : decide ((c.toNat : Int) < 32) = true := decide_eq_true (by omega) | have e1 : decide ((c.toNat : Int) < 32) = false := decide_eq_false (by omega))
                     (first | have e2 : decide ((126 : Int) < (c.toNat : Int)) = true := decide_eq_true (by omega) | have e2 : decide ((126 : Int) < (c.toNat : Int)) = false := decide_eq_false (by omega))
                     (first | have e3 : decide ((48 : Int) ≤ (c.toNat : Int)) = true := decide_eq_true (by omega) | have e3 : decide ((48 : Int) ≤ (c.toNat : Int)) = false := decide_eq_false (by omega))
                     (first | have e4 : decide ((c.toNat : Int) ≤ 57) = true := decide_eq_true (by omega) | have e4 : decide ((c.toNat : Int) ≤ 57) = false := decide_eq_false (by omega))
                     clear a1 a2 a3 a4 a5 hq hc256
                     go_wp2_with fail
                     go_ret
                     exact ⟨by rw [Hn.out]; rfl, rfl⟩)
            · obtain rfl : j = s.length := by omega
              have Hn : Hid (b = true) := by rw [Hid, ← HB.out]; have := Hall.out; rwa [List.take_length] at this
              go_wp2_with fail
              go_ret
              exact ⟨by rw [Hn.out]; rfl, rfl⟩
    · have hq : formB s = false := by unfold formB onlyB; rw [decide_eq_false (show ¬ (s.length : Int) ≤ 30 by omega)]; simp
      rw [hq] at hb
      subst hb
      have d2 : (30 : Int) < (s.length : Int) := by omega
      clear h2 hq
      go_enter Tryz.func40, Tryz.ntmps40
      go_wp2_with fail
      go_ret
      exact ⟨rfl, rfl⟩
  · have hq : formB s = false := by unfold formB onlyB; rw [decide_eq_false h1]; simp
    rw [hq] at hb
    subst hb
    have d2 : (s.length : Int) < 1 := by omega
    clear h1 hq
    go_enter Tryz.func40, Tryz.ntmps40
    go_wp2_with fail
    go_ret
    exact ⟨rfl, rfl⟩
end Go.Proofs.YtnhdmnhfllecgaaGreatDoor
/- The walks of the reference's numbers and items. -/
namespace Go.Proofs.YtnhdmnhfllecgaaGreatDoor
set_option linter.unusedVariables false
set_option linter.unusedSimpArgs false
open Go.RowKit

set_option maxRecDepth 100000 in
set_option maxHeartbeats 1000000 in
theorem rnum_loop (s : List UInt8) (w : World) (h1 : 1 ≤ s.length) (h2 : s.length ≤ 9) (hz : ¬ (s.head? = some 48 ∧ 1 < s.length)) :
    Calls Tryz.prog 53 #[.string ⟨s.toArray⟩, .int .i64 9] w fun e w' => e = .returned (.tuple #[.int .i64 (numN s : Nat), .bool (numB s)]) ∧ w = w' := by
  have HB : Hid (∀ q, s.all isDg = q → numB s = q) := by
    intro q hq
    rw [← hq, Bool.eq_iff_iff, numB_iff]
    exact ⟨fun h => h.2.2.2, fun h => ⟨h1, h2, hz, h⟩⟩
  have h0 : 0 < s.length := by omega
  have hne : s ≠ [] := by intro e; rw [e] at h0; simp at h0
  obtain ⟨c, hc⟩ : ∃ c, c = s[0] := ⟨_, rfl⟩
  have b0 := bget s 0 h0 c hc
  have t0 : (s == []) = false := by simpa using hne
  have d2 : decide (9 < (s.length : Int)) = false := by simp; omega
  have hcz : ¬ (c = 48 ∧ 1 < s.length) := by
    rintro ⟨q1, q2⟩
    refine hz ⟨?_, q2⟩
    rw [List.head?_eq_getElem?, List.getElem?_eq_getElem h0, ← hc, q1]
  clear hc hz
  by_cases hl1 : 1 < s.length
  · have d3 : decide (1 < (s.length : Int)) = true := by simp; omega
    have q1 : ((c.toNat : Int) == 48) = false := by
      rw [beq_eq_false_iff_ne]; intro e; exact hcz ⟨UInt8.toNat_inj.1 (by show c.toNat = 48; omega), hl1⟩
    clear hcz hne
    go_enter Tryz.func53, Tryz.ntmps53
    go_wp2_with fail
    go_loop [6, 7] (fun n i => ∃ k : Nat, k ≤ s.length ∧ i = .int .i64 (k : Int) ∧ n = .int .i64 (val (s.take k) : Int) ∧ Hid (∀ c ∈ s.take k, isDg c = true)) (fun _ i => s.length - (intOf i).toNat)
    case atStart => exact ⟨0, by omega, rfl, rfl, by intro c hc; simp at hc⟩
    case round =>
      obtain ⟨k, hk, rfl, rfl, Hd⟩ := hrel
      have hv0 : val (s.take k) < 1000000000 := by
        have g2 := val_lt (s.take k) Hd.out
        have g3 : (s.take k).length ≤ 9 := by rw [List.length_take]; omega
        have g4 : (10 : Nat) ^ (s.take k).length ≤ 10 ^ 9 := Nat.pow_le_pow_right (by omega) g3
        have g5 : (10 : Nat) ^ 9 = 1000000000 := rfl
        omega
      obtain ⟨v, hv⟩ : ∃ v, v = val (s.take k) := ⟨_, rfl⟩
      rw [← hv] at hv0 ⊢
      have Hv := Lib.hid hv
      clear hv
      by_cases hlt : k < s.length
      · have Hs := val_take_succ s k hlt
        have Ht : Hid (s.take (k + 1) = s.take k ++ [s[k]]) := List.take_succ_eq_append_getElem hlt
        have Hm : Hid (s[k] ∈ s) := List.getElem_mem _
        obtain ⟨x, hx⟩ : ∃ x, x = s[k] := ⟨_, rfl⟩
        have hi := bget s k hlt x hx
        rw [← hx] at Hs Ht Hm
        rw [← Hv.out] at Hs
        have Hs := Lib.hid Hs
        clear hx
        rcases Bool.eq_false_or_eq_true (isDg x) with hdx | hdx
        · have hd2 := isDg_iff.1 hdx
          have e1 : ¬ (x.toNat : Int) < 48 := by omega
          have e2 : ¬ 57 < (x.toNat : Int) := by omega
          have e3 : 48 ≤ (x.toNat : Int) := by omega
          have e4 : (x.toNat : Int) ≤ 57 := by omega
          have Hdx := Lib.hid hdx
          clear hd2 hdx
          go_wp2
          go_round
          case rel => exact ⟨k + 1, by omega, by go_num, by rw [Hs.out]; congr 1; omega, by
            intro c hc
            rw [Ht.out] at hc
            rcases List.mem_append.1 hc with q | q
            · exact Hd.out c q
            · rw [List.mem_singleton.1 q]; exact Hdx.out⟩
          case measure => simp [intOf]; omega
        · have hn2 : ¬ (48 ≤ x.toNat ∧ x.toNat ≤ 57) := by rw [← isDg_iff, hdx]; simp
          have HA : Hid (s.all isDg = false) := by
            rw [Hid, ← Bool.not_eq_true]
            intro q
            rw [List.all_eq_true.1 q x Hm.out] at hdx
            cases hdx
          have HB2 := Lib.hid (HB.out false HA.out)
          have HN : Hid (numN s = 0) := by unfold Hid numN; rw [HB2.out]; rfl
          clear hdx
          by_cases e1 : (x.toNat : Int) < 48
          · clear hn2
            go_wp2
            go_ret2
            exact ⟨by rw [HN.out, HB2.out]; rfl, rfl⟩
          · have e2 : 57 < (x.toNat : Int) := by omega
            clear hn2
            go_wp2
            go_ret2
            exact ⟨by rw [HN.out, HB2.out]; rfl, rfl⟩
      · obtain rfl : k = s.length := by omega
        have HA : Hid (s.all isDg = true) := by
          rw [Hid, List.all_eq_true]
          intro c hc
          exact Hd.out c (by rw [List.take_length]; exact hc)
        have HB2 := Lib.hid (HB.out true HA.out)
        have HN : Hid (v = numN s) := by unfold Hid numN; rw [HB2.out, if_pos rfl, Hv.out, List.take_length]
        go_wp2
        go_ret2
        exact ⟨by rw [HB2.out, ← HN.out]; rfl, rfl⟩
  · have d3 : decide (1 < (s.length : Int)) = false := by simp; omega
    clear hcz hne
    go_enter Tryz.func53, Tryz.ntmps53
    go_wp2_with fail
    go_loop [6, 7] (fun n i => ∃ k : Nat, k ≤ s.length ∧ i = .int .i64 (k : Int) ∧ n = .int .i64 (val (s.take k) : Int) ∧ Hid (∀ c ∈ s.take k, isDg c = true)) (fun _ i => s.length - (intOf i).toNat)
    case atStart => exact ⟨0, by omega, rfl, rfl, by intro c hc; simp at hc⟩
    case round =>
      obtain ⟨k, hk, rfl, rfl, Hd⟩ := hrel
      have hv0 : val (s.take k) < 1000000000 := by
        have g2 := val_lt (s.take k) Hd.out
        have g3 : (s.take k).length ≤ 9 := by rw [List.length_take]; omega
        have g4 : (10 : Nat) ^ (s.take k).length ≤ 10 ^ 9 := Nat.pow_le_pow_right (by omega) g3
        have g5 : (10 : Nat) ^ 9 = 1000000000 := rfl
        omega
      obtain ⟨v, hv⟩ : ∃ v, v = val (s.take k) := ⟨_, rfl⟩
      rw [← hv] at hv0 ⊢
      have Hv := Lib.hid hv
      clear hv
      by_cases hlt : k < s.length
      · have Hs := val_take_succ s k hlt
        have Ht : Hid (s.take (k + 1) = s.take k ++ [s[k]]) := List.take_succ_eq_append_getElem hlt
        have Hm : Hid (s[k] ∈ s) := List.getElem_mem _
        obtain ⟨x, hx⟩ : ∃ x, x = s[k] := ⟨_, rfl⟩
        have hi := bget s k hlt x hx
        rw [← hx] at Hs Ht Hm
        rw [← Hv.out] at Hs
        have Hs := Lib.hid Hs
        clear hx
        rcases Bool.eq_false_or_eq_true (isDg x) with hdx | hdx
        · have hd2 := isDg_iff.1 hdx
          have e1 : ¬ (x.toNat : Int) < 48 := by omega
          have e2 : ¬ 57 < (x.toNat : Int) := by omega
          have e3 : 48 ≤ (x.toNat : Int) := by omega
          have e4 : (x.toNat : Int) ≤ 57 := by omega
          have Hdx := Lib.hid hdx
          clear hd2 hdx
          go_wp2
          go_round
          case rel => exact ⟨k + 1, by omega, by go_num, by rw [Hs.out]; congr 1; omega, by
            intro c hc
            rw [Ht.out] at hc
            rcases List.mem_append.1 hc with q | q
            · exact Hd.out c q
            · rw [List.mem_singleton.1 q]; exact Hdx.out⟩
          case measure => simp [intOf]; omega
        · have hn2 : ¬ (48 ≤ x.toNat ∧ x.toNat ≤ 57) := by rw [← isDg_iff, hdx]; simp
          have HA : Hid (s.all isDg = false) := by
            rw [Hid, ← Bool.not_eq_true]
            intro q
            rw [List.all_eq_true.1 q x Hm.out] at hdx
            cases hdx
          have HB2 := Lib.hid (HB.out false HA.out)
          have HN : Hid (numN s = 0) := by unfold Hid numN; rw [HB2.out]; rfl
          clear hdx
          by_cases e1 : (x.toNat : Int) < 48
          · clear hn2
            go_wp2
            go_ret2
            exact ⟨by rw [HN.out, HB2.out]; rfl, rfl⟩
          · have e2 : 57 < (x.toNat : Int) := by omega
            clear hn2
            go_wp2
            go_ret2
            exact ⟨by rw [HN.out, HB2.out]; rfl, rfl⟩
      · obtain rfl : k = s.length := by omega
        have HA : Hid (s.all isDg = true) := by
          rw [Hid, List.all_eq_true]
          intro c hc
          exact Hd.out c (by rw [List.take_length]; exact hc)
        have HB2 := Lib.hid (HB.out true HA.out)
        have HN : Hid (v = numN s) := by unfold Hid numN; rw [HB2.out, if_pos rfl, Hv.out, List.take_length]
        go_wp2
        go_ret2
        exact ⟨by rw [HB2.out, ← HN.out]; rfl, rfl⟩
set_option maxRecDepth 100000 in
theorem rnum_c (s : List UInt8) (w : World) (hs : s.length ≤ 7000) :
    Calls Tryz.prog 53 #[.string ⟨s.toArray⟩, .int .i64 9] w fun e w' => e = .returned (.tuple #[.int .i64 (numN s : Nat), .bool (numB s)]) ∧ w = w' := by
  by_cases hn : s.length < 1 ∨ 9 < s.length ∨ (s.head? = some 48 ∧ 1 < s.length)
  · have hb : numB s = false := by
      rw [← Bool.not_eq_true, numB_iff]
      rintro ⟨a, b, c, _⟩
      rcases hn with q | q | q
      · omega
      · omega
      · exact c q
    have HN : Hid (numN s = 0) := by unfold Hid numN; rw [hb]; rfl
    by_cases h1 : s = []
    · subst h1
      clear hn
      go_enter Tryz.func53, Tryz.ntmps53
      go_wp2
      go_ret2
      exact ⟨by rw [HN.out, hb]; rfl, rfl⟩
    · have t0 : (s == []) = false := by simpa using h1
      have hl := List.length_pos_iff.2 h1
      by_cases h9 : 9 < s.length
      · have d2 : decide (9 < (s.length : Int)) = true := by simp; omega
        clear hn h1
        go_enter Tryz.func53, Tryz.ntmps53
        go_wp2
        go_ret2
        exact ⟨by rw [HN.out, hb]; rfl, rfl⟩
      · have d2 : decide (9 < (s.length : Int)) = false := by simp; omega
        obtain ⟨q1, q2⟩ : s.head? = some 48 ∧ 1 < s.length := by
          rcases hn with q | q | q
          · omega
          · omega
          · exact q
        have hs0 : s[0] = 48 := by
          rw [List.head?_eq_getElem?, List.getElem?_eq_getElem hl] at q1
          exact Option.some.inj q1
        have b0 := bget s 0 hl 48 hs0.symm
        have d3 : decide (1 < (s.length : Int)) = true := by simp; omega
        clear hn h1 q1 hs0
        go_enter Tryz.func53, Tryz.ntmps53
        go_wp2
        go_ret2
        exact ⟨by rw [HN.out, hb]; rfl, rfl⟩
  · exact rnum_loop s w (by omega) (by omega) (fun q => hn (.inr (.inr q)))
end Go.Proofs.YtnhdmnhfllecgaaGreatDoor
/- The walks of the reference's items. -/
namespace Go.Proofs.YtnhdmnhfllecgaaGreatDoor
set_option linter.unusedVariables false
set_option linter.unusedSimpArgs false
open Go.RowKit

theorem btake (l : List UInt8) (k : Nat) : (⟨l.toArray⟩ : ByteArray).extract 0 k = ⟨(l.take k).toArray⟩ := by rw [bmid]; simp
theorem occ2 (s : List UInt8) (k : Nat) (h : k + 1 < s.length) : Lib.occAt s [46, 46] k = (decide (s[k] = 46) && decide (s[k + 1] = 46)) := by
  unfold Lib.occAt
  rw [List.drop_eq_getElem_cons (by omega), List.drop_eq_getElem_cons h]
  simp only [List.isPrefixOf, Bool.and_true]
  rw [Bool.eq_iff_iff]
  simp only [Bool.and_eq_true, beq_iff_eq, decide_eq_true_eq]
  constructor
  · rintro ⟨a, b⟩; exact ⟨a.symm, b.symm⟩
  · rintro ⟨a, b⟩; exact ⟨a.symm, b.symm⟩
theorem cut_at {s : List UInt8} {k : Nat} (hk : k + 1 < s.length) (hn : Lib.NoOcc s [46, 46] k) (ho : Lib.occAt s [46, 46] k = true) : Lib.cut s [46, 46] = (s.take k, s.drop (k + 2), true) := by
  have hi := Lib.index_hit hn (by omega) ho
  unfold Lib.cut
  rw [hi, if_pos (by omega)]
  simp
theorem cut_no {s : List UInt8} {k : Nat} (hk : s.length ≤ k + 1) (hn : Lib.NoOcc s [46, 46] k) : Lib.cut s [46, 46] = (s, [], false) := by
  have hi : Lib.index s [46, 46] = -1 := by
    refine Lib.index_none (fun j hj => ?_)
    rcases Nat.lt_or_ge j k with q | q
    · exact hn j q
    · rw [← Bool.not_eq_true]
      intro e
      rcases Lib.occAt_room e with h | h
      · simp at h; omega
      · cases h
  unfold Lib.cut
  rw [hi, if_neg (by omega)]
set_option maxRecDepth 100000 in
set_option maxHeartbeats 1000000 in
theorem item_c (s : List UInt8) (w : World) (hs : s.length ≤ 7000) :
    Calls Tryz.prog 138 #[.string ⟨s.toArray⟩] w fun e w' => e = .returned (.tuple #[.int .i64 (itLo s : Nat), .int .i64 (itHi s : Nat), .bool (itB s)]) ∧ w = w' := by
  go_enter Tryz.func138, Tryz.ntmps138
  go_wp2_with fail
  go_loop [5] (fun i => ∃ k : Nat, k ≤ s.length ∧ i = .int .i64 (k : Int) ∧ Hid (Lib.NoOcc s [46, 46] k)) (fun i => s.length - (intOf i).toNat)
  case atStart => exact ⟨0, by omega, rfl, Lib.NoOcc.zero _ _⟩
  case round =>
    obtain ⟨k, hk, rfl, Hn⟩ := hrel
    by_cases hlt : k + 1 < s.length
    · have Ho := Lib.hid (occ2 s k hlt)
      obtain ⟨x, hx⟩ : ∃ x, x = s[k] := ⟨_, rfl⟩
      obtain ⟨y, hy⟩ : ∃ y, y = s[k + 1] := ⟨_, rfl⟩
      have bx := bget s k (by omega) x hx
      have bby := bget s (k + 1) hlt y hy
      rw [← hx, ← hy] at Ho
      clear hx hy
      by_cases hxe : x = 46
      · have t1 : ((x.toNat : Int) == 46) = true := by rw [hxe]; rfl
        by_cases hye : y = 46
        · have t2 : ((y.toNat : Int) == 46) = true := by rw [hye]; rfl
          have Hc := Lib.hid (cut_at hlt Hn.out (by rw [Ho.out, hxe, hye]; rfl))
          have g1 := btake s k
          have g2 := bdrop s (k + 2)
          have Hlo : Hid (numN (s.take k) = itLo s) := by unfold Hid itLo; rw [Hc.out]
          have Hhi : Hid (numN (s.drop (k + 2)) = itHi s) := by unfold Hid itHi; rw [Hc.out]; rfl
          have Hb : Hid (itB s = (numB (s.take k) && numB (s.drop (k + 2)))) := by unfold Hid itB; rw [Hc.out]; simp
          have l1 : (s.take k).length ≤ 7000 := by rw [List.length_take]; omega
          have l2 : (s.drop (k + 2)).length ≤ 7000 := by rw [List.length_drop]; omega
          generalize s.take k = A at g1 Hlo Hb l1
          generalize s.drop (k + 2) = D at g2 Hhi Hb l2
          clear hxe hye
          generalize hna : numB A = na at Hb
          have Hna := Lib.hid hna
          clear hna
          cases na
          all_goals
            go_wp2_with (first
              | (go_at_call 53; (with_reducible refine (rnum_c A _ l1).mono ?_); (with_reducible rw [Hna.out]); rintro e w1 ⟨rfl, rfl⟩)
              | (go_at_call 53; (with_reducible refine (rnum_c D _ l2).mono ?_); rintro e w2 ⟨rfl, rfl⟩))
            go_ret3
            exact ⟨by rw [← Hlo.out, ← Hhi.out, Hb.out]; rfl, rfl⟩
        · have t2 : ((y.toNat : Int) == 46) = false := by
            rw [beq_eq_false_iff_ne]; intro e; exact hye (UInt8.toNat_inj.1 (by show y.toNat = 46; omega))
          have Hn2 := Lib.hid (Hn.out.succ (by rw [Ho.out]; simp [hye]))
          clear hxe hye
          go_wp2
          go_round
          case rel => exact ⟨k + 1, by omega, by go_num, Hn2⟩
          case measure => simp [intOf]; omega
      · have t1 : ((x.toNat : Int) == 46) = false := by
          rw [beq_eq_false_iff_ne]; intro e; exact hxe (UInt8.toNat_inj.1 (by show x.toNat = 46; omega))
        have Hn2 := Lib.hid (Hn.out.succ (by rw [Ho.out]; simp [hxe]))
        clear hxe
        go_wp2
        go_round
        case rel => exact ⟨k + 1, by omega, by go_num, Hn2⟩
        case measure => simp [intOf]; omega
    · have Hc := Lib.hid (cut_no (by omega) Hn.out)
      have Hlo : Hid (numN s = itLo s) := by unfold Hid itLo; rw [Hc.out]
      have Hhi : Hid (itHi s = itLo s) := by unfold Hid itHi; rw [Hc.out]; rfl
      have Hb : Hid (itB s = numB s) := by unfold Hid itB; rw [Hc.out]; simp
      go_wp2_with (go_at_call 53; (with_reducible refine (rnum_c s _ hs).mono ?_); rintro e w1 ⟨rfl, rfl⟩)
      go_ret3
      exact ⟨by rw [Hhi.out, ← Hlo.out, Hb.out]; rfl, rfl⟩
end Go.Proofs.YtnhdmnhfllecgaaGreatDoor
