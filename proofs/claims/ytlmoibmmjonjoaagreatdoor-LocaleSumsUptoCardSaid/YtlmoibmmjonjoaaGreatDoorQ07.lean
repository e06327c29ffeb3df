/- Locales: the walks of the small functions: letters, words, forms, names. -/
import Derived.Test.YtlmoibmmjonjoaaGreatDoorQ00
import Derived.Test.YtlmoibmmjonjoaaGreatDoorQ05
import Derived.Test.YtlmoibmmjonjoaaGreatDoorShelf
namespace Go.Proofs.YtlmoibmmjonjoaaGreatDoor
set_option linter.unusedVariables false
set_option linter.unusedSimpArgs false
open Go.RowKit

theorem small_c (c : UInt8) (b : Bool) (w : World) (h : smC c = b) : Calls Tryz.prog 81 #[.int .u8 (c.toNat : Int)] w fun e w' => e = .returned (.bool b) ∧ w = w' := by
  subst h
  have hc : c.toNat < 256 := c.toNat_lt
  go_enter Tryz.func81, Tryz.ntmps81
  go_wp2
  all_goals
    go_ret
    refine ⟨?_, rfl⟩
    refine congrArg (fun b => Ending.returned (Value.bool b)) ?_
    unfold smC
    rw [Bool.eq_iff_iff]
    simp
    omega
theorem frm1_c (c : UInt8) (b : Bool) (w : World) (h : frC c = b) : Calls Tryz.prog 113 #[.int .u8 (c.toNat : Int)] w fun e w' => e = .returned (.bool b) ∧ w = w' := by
  subst h
  have hc : c.toNat < 256 := c.toNat_lt
  go_enter Tryz.func113, Tryz.ntmps113
  go_wp2
  all_goals
    go_ret
    refine ⟨?_, rfl⟩
    refine congrArg (fun b => Ending.returned (Value.bool b)) ?_
    unfold frC
    rw [Bool.eq_iff_iff]
    simp
    omega
theorem zlet_c (c : UInt8) (b : Bool) (w : World) (h : isLt c = b) : Calls Tryz.prog 72 #[.int .u8 (c.toNat : Int)] w fun e w' => e = .returned (.bool b) ∧ w = w' := by
  subst h
  have hc : c.toNat < 256 := c.toNat_lt
  go_enter Tryz.func72, Tryz.ntmps72
  go_wp2
  all_goals
    go_ret
    refine ⟨?_, rfl⟩
    refine congrArg (fun b => Ending.returned (Value.bool b)) ?_
    unfold isLt
    rw [Bool.eq_iff_iff]
    simp
    omega
theorem zdig_c (c : UInt8) (b : Bool) (w : World) (h : isDg c = b) : Calls Tryz.prog 73 #[.int .u8 (c.toNat : Int)] w fun e w' => e = .returned (.bool b) ∧ w = w' := by
  subst h
  have hc : c.toNat < 256 := c.toNat_lt
  go_enter Tryz.func73, Tryz.ntmps73
  go_wp2
  all_goals
    go_ret
    refine ⟨?_, rfl⟩
    refine congrArg (fun b => Ending.returned (Value.bool b)) ?_
    unfold isDg
    rw [Bool.eq_iff_iff]
    simp
    omega
theorem rzlet_c (c : UInt8) (b : Bool) (w : World) (h : isLt c = b) : Calls Tryz.prog 104 #[.int .u8 (c.toNat : Int)] w fun e w' => e = .returned (.bool b) ∧ w = w' := by
  subst h
  have hc : c.toNat < 256 := c.toNat_lt
  go_enter Tryz.func104, Tryz.ntmps104
  go_wp2
  all_goals
    go_ret
    refine ⟨?_, rfl⟩
    refine congrArg (fun b => Ending.returned (Value.bool b)) ?_
    unfold isLt
    rw [Bool.eq_iff_iff]
    simp
    omega
theorem rzdig_c (c : UInt8) (b : Bool) (w : World) (h : isDg c = b) : Calls Tryz.prog 105 #[.int .u8 (c.toNat : Int)] w fun e w' => e = .returned (.bool b) ∧ w = w' := by
  subst h
  have hc : c.toNat < 256 := c.toNat_lt
  go_enter Tryz.func105, Tryz.ntmps105
  go_wp2
  all_goals
    go_ret
    refine ⟨?_, rfl⟩
    refine congrArg (fun b => Ending.returned (Value.bool b)) ?_
    unfold isDg
    rw [Bool.eq_iff_iff]
    simp
    omega
theorem lletter_c (c : UInt8) (b : Bool) (w : World) (h : isLt c = b) : Calls Tryz.prog 83 #[.int .u8 (c.toNat : Int)] w fun e w' => e = .returned (.bool b) ∧ w = w' := by
  subst h
  have hc : c.toNat < 256 := c.toNat_lt
  rcases Bool.eq_false_or_eq_true (smC c) with hs | hs
  all_goals
    have HS := Lib.hid hs
    unfold smC at hs
    simp at hs
    go_enter Tryz.func83, Tryz.ntmps83
    go_wp2_with (first
      | (go_at_call 81; (with_reducible refine (small_c c _ _ HS.out).mono ?_); rintro e w1 ⟨rfl, rfl⟩))
    all_goals
      go_ret
      refine ⟨?_, rfl⟩
      refine congrArg (fun b => Ending.returned (Value.bool b)) ?_
      unfold isLt
      rw [Bool.eq_iff_iff]
      simp
      omega
theorem suf1_c (c : UInt8) (b : Bool) (w : World) (h : sfC c = b) : Calls Tryz.prog 82 #[.int .u8 (c.toNat : Int)] w fun e w' => e = .returned (.bool b) ∧ w = w' := by
  subst h
  have hc : c.toNat < 256 := c.toNat_lt
  rcases Bool.eq_false_or_eq_true (isLt c) with hs | hs
  all_goals
    have HS := Lib.hid hs
    have HF : Hid (sfC c = (isLt c || decide (c.toNat = 46))) := rfl
    clear hs
    go_enter Tryz.func82, Tryz.ntmps82
    go_wp2_with (first
      | (go_at_call 83; (with_reducible refine (lletter_c c _ _ HS.out).mono ?_); rintro e w1 ⟨rfl, rfl⟩))
    all_goals
      go_ret
      refine ⟨?_, rfl⟩
      refine congrArg (fun b => Ending.returned (Value.bool b)) ?_
      rw [HF.out, HS.out]
      first | rfl | (rw [Bool.eq_iff_iff]; simp; omega)
theorem only_sm (s : List UInt8) (m : Int) (b : Bool) (w : World) (hs : s.length ≤ 9223372036854775806) (hb : onlyB smC m s = b) : Calls Tryz.prog 80 #[.string ⟨s.toArray⟩, .int .i64 m, .func (.func 81) #[] #[]] w fun e w' => e = .returned (.bool b) ∧ w = w' := by
  unfold onlyB at hb
  by_cases h1 : 1 ≤ s.length
  · by_cases h2 : (s.length : Int) ≤ m
    · rw [decide_eq_true h1, decide_eq_true h2, Bool.true_and, Bool.true_and] at hb
      have HB := Lib.hid hb
      clear hb
      go_enter Tryz.func80, Tryz.ntmps80
      go_wp2_with fail
      go_loop [19] (fun i => ∃ j : Nat, j ≤ s.length ∧ i = .int .i64 (j : Int) ∧ Hid ((s.take j).all smC = true)) (fun i => s.length - (intOf i).toNat)
      case atStart => exact ⟨0, Nat.zero_le _, rfl, rfl⟩
      case round =>
        obtain ⟨j, hj, rfl, Hall⟩ := hrel
        by_cases hlt : j < s.length
        · have hbg := bget s j hlt _ rfl
          have Hs := Lib.hid (all_take smC s j hlt)
          have HN := Lib.hid (fun q : smC s[j] = false => all_no j hlt q)
          obtain ⟨c, hc⟩ : ∃ c, c = s[j] := ⟨_, rfl⟩
          rw [← hc] at hbg Hs HN
          clear hc
          rcases Bool.eq_false_or_eq_true (smC c) with hq | hq
          · have Hq := Lib.hid hq
            have Hn : Hid ((s.take (j + 1)).all smC = true) := by rw [Hid, Hs.out, Hall.out, hq]; rfl
            clear hq
            go_wp2_with (first
              | (go_at_call 81; (with_reducible refine (small_c c true _ Hq.out).mono ?_); rintro e w1 ⟨rfl, rfl⟩))
            go_round
            case rel => exact ⟨j + 1, by omega, by go_num, Hn⟩
            case measure => simp [intOf]; omega
          · have Hq := Lib.hid hq
            have Hn : Hid (b = false) := by rw [Hid, ← HB.out]; exact HN.out hq
            clear hq
            go_wp2_with (first
              | (go_at_call 81; (with_reducible refine (small_c c false _ Hq.out).mono ?_); rintro e w1 ⟨rfl, rfl⟩))
            go_ret
            exact ⟨by rw [Hn.out]; rfl, rfl⟩
        · obtain rfl : j = s.length := by omega
          have Hn : Hid (b = true) := by rw [Hid, ← HB.out]; have := Hall.out; rwa [List.take_length] at this
          go_wp2_with fail
          go_ret
          exact ⟨by rw [Hn.out]; rfl, rfl⟩
    · rw [decide_eq_false h2] at hb
      simp at hb
      subst hb
      have h3 : m < (s.length : Int) := by omega
      clear h2
      go_enter Tryz.func80, Tryz.ntmps80
      go_wp2_with fail
      go_ret
      exact ⟨rfl, rfl⟩
  · rw [decide_eq_false h1] at hb
    simp at hb
    subst hb
    have h3 : (s.length : Int) < 1 := by omega
    clear h1
    go_enter Tryz.func80, Tryz.ntmps80
    go_wp2_with fail
    go_ret
    exact ⟨rfl, rfl⟩
theorem only_sf (s : List UInt8) (m : Int) (b : Bool) (w : World) (hs : s.length ≤ 9223372036854775806) (hb : onlyB sfC m s = b) : Calls Tryz.prog 80 #[.string ⟨s.toArray⟩, .int .i64 m, .func (.func 82) #[] #[]] w fun e w' => e = .returned (.bool b) ∧ w = w' := by
  unfold onlyB at hb
  by_cases h1 : 1 ≤ s.length
  · by_cases h2 : (s.length : Int) ≤ m
    · rw [decide_eq_true h1, decide_eq_true h2, Bool.true_and, Bool.true_and] at hb
      have HB := Lib.hid hb
      clear hb
      go_enter Tryz.func80, Tryz.ntmps80
      go_wp2_with fail
      go_loop [19] (fun i => ∃ j : Nat, j ≤ s.length ∧ i = .int .i64 (j : Int) ∧ Hid ((s.take j).all sfC = true)) (fun i => s.length - (intOf i).toNat)
      case atStart => exact ⟨0, Nat.zero_le _, rfl, rfl⟩
      case round =>
        obtain ⟨j, hj, rfl, Hall⟩ := hrel
        by_cases hlt : j < s.length
        · have hbg := bget s j hlt _ rfl
          have Hs := Lib.hid (all_take sfC s j hlt)
          have HN := Lib.hid (fun q : sfC s[j] = false => all_no j hlt q)
          obtain ⟨c, hc⟩ : ∃ c, c = s[j] := ⟨_, rfl⟩
          rw [← hc] at hbg Hs HN
          clear hc
          rcases Bool.eq_false_or_eq_true (sfC c) with hq | hq
          · have Hq := Lib.hid hq
            have Hn : Hid ((s.take (j + 1)).all sfC = true) := by rw [Hid, Hs.out, Hall.out, hq]; rfl
            clear hq
            go_wp2_with (first
              | (go_at_call 82; (with_reducible refine (suf1_c c true _ Hq.out).mono ?_); rintro e w1 ⟨rfl, rfl⟩))
            go_round
            case rel => exact ⟨j + 1, by omega, by go_num, Hn⟩
            case measure => simp [intOf]; omega
          · have Hq := Lib.hid hq
            have Hn : Hid (b = false) := by rw [Hid, ← HB.out]; exact HN.out hq
            clear hq
            go_wp2_with (first
              | (go_at_call 82; (with_reducible refine (suf1_c c false _ Hq.out).mono ?_); rintro e w1 ⟨rfl, rfl⟩))
            go_ret
            exact ⟨by rw [Hn.out]; rfl, rfl⟩
        · obtain rfl : j = s.length := by omega
          have Hn : Hid (b = true) := by rw [Hid, ← HB.out]; have := Hall.out; rwa [List.take_length] at this
          go_wp2_with fail
          go_ret
          exact ⟨by rw [Hn.out]; rfl, rfl⟩
    · rw [decide_eq_false h2] at hb
      simp at hb
      subst hb
      have h3 : m < (s.length : Int) := by omega
      clear h2
      go_enter Tryz.func80, Tryz.ntmps80
      go_wp2_with fail
      go_ret
      exact ⟨rfl, rfl⟩
  · rw [decide_eq_false h1] at hb
    simp at hb
    subst hb
    have h3 : (s.length : Int) < 1 := by omega
    clear h1
    go_enter Tryz.func80, Tryz.ntmps80
    go_wp2_with fail
    go_ret
    exact ⟨rfl, rfl⟩
theorem only_fr (s : List UInt8) (m : Int) (b : Bool) (w : World) (hs : s.length ≤ 9223372036854775806) (hb : onlyB frC m s = b) : Calls Tryz.prog 80 #[.string ⟨s.toArray⟩, .int .i64 m, .func (.func 113) #[] #[]] w fun e w' => e = .returned (.bool b) ∧ w = w' := by
  unfold onlyB at hb
  by_cases h1 : 1 ≤ s.length
  · by_cases h2 : (s.length : Int) ≤ m
    · rw [decide_eq_true h1, decide_eq_true h2, Bool.true_and, Bool.true_and] at hb
      have HB := Lib.hid hb
      clear hb
      go_enter Tryz.func80, Tryz.ntmps80
      go_wp2_with fail
      go_loop [19] (fun i => ∃ j : Nat, j ≤ s.length ∧ i = .int .i64 (j : Int) ∧ Hid ((s.take j).all frC = true)) (fun i => s.length - (intOf i).toNat)
      case atStart => exact ⟨0, Nat.zero_le _, rfl, rfl⟩
      case round =>
        obtain ⟨j, hj, rfl, Hall⟩ := hrel
        by_cases hlt : j < s.length
        · have hbg := bget s j hlt _ rfl
          have Hs := Lib.hid (all_take frC s j hlt)
          have HN := Lib.hid (fun q : frC s[j] = false => all_no j hlt q)
          obtain ⟨c, hc⟩ : ∃ c, c = s[j] := ⟨_, rfl⟩
          rw [← hc] at hbg Hs HN
          clear hc
          rcases Bool.eq_false_or_eq_true (frC c) with hq | hq
          · have Hq := Lib.hid hq
            have Hn : Hid ((s.take (j + 1)).all frC = true) := by rw [Hid, Hs.out, Hall.out, hq]; rfl
            clear hq
            go_wp2_with (first
              | (go_at_call 113; (with_reducible refine (frm1_c c true _ Hq.out).mono ?_); rintro e w1 ⟨rfl, rfl⟩))
            go_round
            case rel => exact ⟨j + 1, by omega, by go_num, Hn⟩
            case measure => simp [intOf]; omega
          · have Hq := Lib.hid hq
            have Hn : Hid (b = false) := by rw [Hid, ← HB.out]; exact HN.out hq
            clear hq
            go_wp2_with (first
              | (go_at_call 113; (with_reducible refine (frm1_c c false _ Hq.out).mono ?_); rintro e w1 ⟨rfl, rfl⟩))
            go_ret
            exact ⟨by rw [Hn.out]; rfl, rfl⟩
        · obtain rfl : j = s.length := by omega
          have Hn : Hid (b = true) := by rw [Hid, ← HB.out]; have := Hall.out; rwa [List.take_length] at this
          go_wp2_with fail
          go_ret
          exact ⟨by rw [Hn.out]; rfl, rfl⟩
    · rw [decide_eq_false h2] at hb
      simp at hb
      subst hb
      have h3 : m < (s.length : Int) := by omega
      clear h2
      go_enter Tryz.func80, Tryz.ntmps80
      go_wp2_with fail
      go_ret
      exact ⟨rfl, rfl⟩
  · rw [decide_eq_false h1] at hb
    simp at hb
    subst hb
    have h3 : (s.length : Int) < 1 := by omega
    clear h1
    go_enter Tryz.func80, Tryz.ntmps80
    go_wp2_with fail
    go_ret
    exact ⟨rfl, rfl⟩
theorem isWord_c (s : List UInt8) (b : Bool) (w : World) (hs : s.length ≤ 9223372036854775806) (hb : wordB s = b) : Calls Tryz.prog 37 #[.string ⟨s.toArray⟩] w fun e w' => e = .returned (.bool b) ∧ w = w' := by
  have HB := Lib.hid (show onlyB smC 10 s = b from hb)
  clear hb
  go_enter Tryz.func37, Tryz.ntmps37
  go_wp2_with (first
    | (go_at_call 80; (with_reducible refine (only_sm s 10 b _ hs HB.out).mono ?_); rintro e w1 ⟨rfl, rfl⟩))
  go_ret
  exact ⟨rfl, rfl⟩
theorem isSuffix_c (s : List UInt8) (b : Bool) (w : World) (hs : s.length ≤ 9223372036854775806) (hb : suffB s = b) : Calls Tryz.prog 38 #[.string ⟨s.toArray⟩] w fun e w' => e = .returned (.bool b) ∧ w = w' := by
  have HB := Lib.hid (show onlyB sfC 8 s = b from hb)
  clear hb
  go_enter Tryz.func38, Tryz.ntmps38
  go_wp2_with (first
    | (go_at_call 80; (with_reducible refine (only_sf s 8 b _ hs HB.out).mono ?_); rintro e w1 ⟨rfl, rfl⟩))
  go_ret
  exact ⟨rfl, rfl⟩
theorem trim32_c (s : List UInt8) (w : World) (hs : s.length ≤ 9223372036854775806) : Calls Tryz.prog 114 #[.string ⟨s.toArray⟩, .string ⟨#[32]⟩] w fun e w' => e = .returned (.string ⟨(Lib.trimB s 32).toArray⟩) ∧ Ext w w' := by
  refine (Tryz.strings_Trim_one ⟨s.toArray⟩ 32 (by decide) w (by show s.toArray.size ≤ _; simp; omega)).mono ?_
  rintro e w' ⟨rfl, rfl | rfl⟩
  · exact ⟨rfl, Ext.refl _⟩
  · exact ⟨rfl, (Ext.refl _).drew⟩
theorem isForm_c (s : List UInt8) (b : Bool) (w : World) (hs : s.length ≤ 9223372036854775806) (hb : formB s = b) : Calls Tryz.prog 85 #[.string ⟨s.toArray⟩] w fun e w' => e = .returned (.bool b) ∧ Ext w w' := by
  unfold formB at hb
  rcases Bool.eq_false_or_eq_true (onlyB frC 30 s) with ho | ho
  · have hne : s ≠ [] := by rintro rfl; simp [onlyB] at ho
    rw [ho, Bool.true_and, ← trim_id s hne] at hb
    have HO := Lib.hid ho
    obtain ⟨T, hT⟩ : ∃ T, Lib.trimB s 32 = T := ⟨_, rfl⟩
    have HT := trim32_c s
    rw [hT] at HT hb
    have HT := Lib.hid HT
    clear ho hT
    by_cases q : T = s
    · subst q
      have Hb : Hid (b = true) := by rw [Hid, ← hb]; simp
      clear hb hne
      go_enter Tryz.func85, Tryz.ntmps85
      go_wp2_with (first
        | (go_at_call 80; (with_reducible refine (only_fr T 30 true _ hs HO.out).mono ?_); rintro e w1 ⟨rfl, rfl⟩)
        | (go_at_call 114; (with_reducible refine (HT.out _ hs).mono ?_); rintro e w2 ⟨rfl, hE2⟩))
      go_ret
      exact ⟨by rw [Hb.out]; first | rfl | simp, hE2⟩
    · have Hb : Hid (b = false) := by rw [Hid, ← hb]; simp [q]
      have hq : (T == s) = false := by simpa using q
      clear hb hne q
      go_enter Tryz.func85, Tryz.ntmps85
      go_wp2_with (first
        | (go_at_call 80; (with_reducible refine (only_fr s 30 true _ hs HO.out).mono ?_); rintro e w1 ⟨rfl, rfl⟩)
        | (go_at_call 114; (with_reducible refine (HT.out _ hs).mono ?_); rintro e w2 ⟨rfl, hE2⟩))
      go_ret
      exact ⟨by rw [Hb.out]; rfl, hE2⟩
  · rw [ho, Bool.false_and] at hb
    subst hb
    have HO := Lib.hid ho
    clear ho
    go_enter Tryz.func85, Tryz.ntmps85
    go_wp2_with (first
      | (go_at_call 80; (with_reducible refine (only_fr s 30 false _ hs HO.out).mono ?_); rintro e w1 ⟨rfl, rfl⟩))
    go_ret
    exact ⟨rfl, Ext.refl _⟩
end Go.Proofs.YtlmoibmmjonjoaaGreatDoor
/- Locales: the walks of names of zones; the reference's letters and forms. -/
namespace Go.Proofs.YtlmoibmmjonjoaaGreatDoor
set_option linter.unusedVariables false
set_option linter.unusedSimpArgs false
open Go.RowKit

theorem idx4 (c : UInt8) : decide (Lib.indexByte [95, 47, 43, 45] c < 0) = !decide (c.toNat = 95 ∨ c.toNat = 47 ∨ c.toNat = 43 ∨ c.toNat = 45) := by
  have h : ∀ n : Fin 256, decide (Lib.indexByte [95, 47, 43, 45] (UInt8.ofNat n.val) < 0) = !decide ((UInt8.ofNat n.val).toNat = 95 ∨ (UInt8.ofNat n.val).toNat = 47 ∨ (UInt8.ofNat n.val).toNat = 43 ∨ (UInt8.ofNat n.val).toNat = 45) := by decide +kernel
  have q := h ⟨c.toNat, c.toNat_lt⟩
  rw [show UInt8.ofNat (⟨c.toNat, c.toNat_lt⟩ : Fin 256).val = c by simp] at q
  exact q
theorem idx4_c (c : UInt8) (b : Bool) (w : World) (h : decide (c.toNat = 95 ∨ c.toNat = 47 ∨ c.toNat = 43 ∨ c.toNat = 45) = b) :
    Calls Tryz.prog 74 #[.string ⟨#[95, 47, 43, 45]⟩, .int .u8 (c.toNat : Int)] w fun e w' => ∃ z : Int, e = .returned (.int .i64 z) ∧ decide (z < 0) = (!b) ∧ w = w' := by
  refine (Tryz.strings_IndexByte ⟨#[95, 47, 43, 45]⟩ (c.toNat : Int) w).mono ?_
  rintro e w' ⟨rfl, rfl⟩
  refine ⟨_, rfl, ?_, rfl⟩
  have e : ((c.toNat : Int)).toNat.toUInt8 = c := by simp
  rw [e, show (⟨#[95, 47, 43, 45]⟩ : ByteArray).data.toList = [95, 47, 43, 45] from rfl, idx4, h]
theorem zName_eq (s : List UInt8) (h1 : 1 ≤ s.length) (h2 : s.length ≤ 30) : zNameB s = (isLt s[0] && s.all zmC) := by
  unfold zNameB; rw [decide_eq_true h1, decide_eq_true h2]
  have : s.headD 0 = s[0] := by cases s with | nil => simp at h1 | cons c r => rfl
  rw [this]; rfl
set_option maxRecDepth 100000 in
set_option maxHeartbeats 1000000 in
theorem zname_c (s : List UInt8) (b : Bool) (w : World) (hs : s.length ≤ 9223372036854775806) (hb : zNameB s = b) : Calls Tryz.prog 34 #[.string ⟨s.toArray⟩] w fun e w' => e = .returned (.bool b) ∧ w = w' := by
  by_cases h1 : 1 ≤ s.length
  · by_cases h2 : s.length ≤ 30
    · have b0 := bget s 0 (by omega) _ rfl
      rw [zName_eq s h1 h2] at hb
      obtain ⟨c0, hc0⟩ : ∃ c, c = s[0] := ⟨_, rfl⟩
      rw [← hc0] at b0 hb
      clear hc0
      rcases Bool.eq_false_or_eq_true (isLt c0) with h0 | h0
      · have H0 := Lib.hid h0
        rw [h0, Bool.true_and] at hb
        have HB := Lib.hid hb
        clear h0 hb
        go_enter Tryz.func34, Tryz.ntmps34
        go_wp2_with (first
          | (go_at_call 72; (with_reducible refine (zlet_c c0 true _ H0.out).mono ?_); rintro e w1 ⟨rfl, rfl⟩))
        go_loop [20] (fun i => ∃ j : Nat, j ≤ s.length ∧ i = .int .i64 (j : Int) ∧ Hid ((s.take j).all zmC = true)) (fun i => s.length - (intOf i).toNat)
        case atStart => exact ⟨0, Nat.zero_le _, rfl, rfl⟩
        case round =>
          obtain ⟨j, hj, rfl, Hall⟩ := hrel
          clear b0
          by_cases hlt : j < s.length
          · have hbg := bget s j hlt _ rfl
            have Hs := Lib.hid (all_take zmC s j hlt)
            have HN := Lib.hid (fun q : zmC s[j] = false => all_no j hlt q)
            obtain ⟨c, hc⟩ : ∃ c, c = s[j] := ⟨_, rfl⟩
            rw [← hc] at hbg Hs HN
            clear hc
            have HC : Hid (zmC c = (isLt c || isDg c || decide (c.toNat = 95 ∨ c.toNat = 47 ∨ c.toNat = 43 ∨ c.toNat = 45))) := rfl
            have HY : Hid (zmC c = true → (s.take (j + 1)).all zmC = true) := fun q => by rw [Hs.out, Hall.out, q]; rfl
            rcases Bool.eq_false_or_eq_true (isLt c) with hl | hl
            · have Hl := Lib.hid hl
              have Hn := Lib.hid (HY.out (by rw [HC.out, hl]; rfl))
              clear hl
              go_wp2_with (first
                | (go_at_call 72; (with_reducible refine (zlet_c c _ _ Hl.out).mono ?_); rintro e w1 ⟨rfl, rfl⟩)
                | (go_at_call 73; (with_reducible refine (zdig_c c _ _ Hd.out).mono ?_); rintro e w1 ⟨rfl, rfl⟩)
                | (go_at_call 74; (with_reducible refine (idx4_c c _ _ Hq.out).mono ?_); rintro e w1 ⟨z, rfl, hz, rfl⟩; simp only [Bool.not_true, Bool.not_false, decide_eq_true_eq, decide_eq_false_iff_not] at hz))
              go_round
              case rel => exact ⟨j + 1, by omega, by go_num, Hn⟩
              case measure => simp [intOf]; omega
            · have Hl := Lib.hid hl
              rcases Bool.eq_false_or_eq_true (isDg c) with hd | hd
              · have Hd := Lib.hid hd
                have Hn := Lib.hid (HY.out (by rw [HC.out, hl, hd]; rfl))
                clear hl hd
                go_wp2_with (first
                  | (go_at_call 72; (with_reducible refine (zlet_c c _ _ Hl.out).mono ?_); rintro e w1 ⟨rfl, rfl⟩)
                  | (go_at_call 73; (with_reducible refine (zdig_c c _ _ Hd.out).mono ?_); rintro e w1 ⟨rfl, rfl⟩)
                  | (go_at_call 74; (with_reducible refine (idx4_c c _ _ Hq.out).mono ?_); rintro e w1 ⟨z, rfl, hz, rfl⟩; simp only [Bool.not_true, Bool.not_false, decide_eq_true_eq, decide_eq_false_iff_not] at hz))
                go_round
                case rel => exact ⟨j + 1, by omega, by go_num, Hn⟩
                case measure => simp [intOf]; omega
              · have Hd := Lib.hid hd
                by_cases q95 : c.toNat = 95
                · have q : decide (c.toNat = 95 ∨ c.toNat = 47 ∨ c.toNat = 43 ∨ c.toNat = 45) = true := decide_eq_true (by omega)
                  have Hq := Lib.hid q
                  have Hn := Lib.hid (HY.out (by rw [HC.out, hl, hd, q]; rfl))
                  have t95 : ((c.toNat : Int) != 95) = false := by rw [q95]; rfl
                  clear hl hd q q95
                  go_wp2_with (first
                    | (go_at_call 72; (with_reducible refine (zlet_c c _ _ Hl.out).mono ?_); rintro e w1 ⟨rfl, rfl⟩)
                    | (go_at_call 73; (with_reducible refine (zdig_c c _ _ Hd.out).mono ?_); rintro e w1 ⟨rfl, rfl⟩)
                    | (go_at_call 74; (with_reducible refine (idx4_c c _ _ Hq.out).mono ?_); rintro e w1 ⟨z, rfl, hz, rfl⟩; simp only [Bool.not_true, Bool.not_false, decide_eq_true_eq, decide_eq_false_iff_not] at hz))
                  go_round
                  case rel => exact ⟨j + 1, by omega, by go_num, Hn⟩
                  case measure => simp [intOf]; omega
                · have t95 : ((c.toNat : Int) != 95) = true := by rw [bne_iff_ne]; omega
                  by_cases q47 : c.toNat = 47
                  · have q : decide (c.toNat = 95 ∨ c.toNat = 47 ∨ c.toNat = 43 ∨ c.toNat = 45) = true := decide_eq_true (by omega)
                    have Hq := Lib.hid q
                    have Hn := Lib.hid (HY.out (by rw [HC.out, hl, hd, q]; rfl))
                    have t47 : ((c.toNat : Int) != 47) = false := by rw [q47]; rfl
                    clear hl hd q q47
                    go_wp2_with (first
                      | (go_at_call 72; (with_reducible refine (zlet_c c _ _ Hl.out).mono ?_); rintro e w1 ⟨rfl, rfl⟩)
                      | (go_at_call 73; (with_reducible refine (zdig_c c _ _ Hd.out).mono ?_); rintro e w1 ⟨rfl, rfl⟩)
                      | (go_at_call 74; (with_reducible refine (idx4_c c _ _ Hq.out).mono ?_); rintro e w1 ⟨z, rfl, hz, rfl⟩; simp only [Bool.not_true, Bool.not_false, decide_eq_true_eq, decide_eq_false_iff_not] at hz))
                    go_round
                    case rel => exact ⟨j + 1, by omega, by go_num, Hn⟩
                    case measure => simp [intOf]; omega
                  · have t47 : ((c.toNat : Int) != 47) = true := by rw [bne_iff_ne]; omega
                    by_cases q43 : c.toNat = 43
                    · have q : decide (c.toNat = 95 ∨ c.toNat = 47 ∨ c.toNat = 43 ∨ c.toNat = 45) = true := decide_eq_true (by omega)
                      have Hq := Lib.hid q
                      have Hn := Lib.hid (HY.out (by rw [HC.out, hl, hd, q]; rfl))
                      have t43 : ((c.toNat : Int) != 43) = false := by rw [q43]; rfl
                      clear hl hd q q43
                      go_wp2_with (first
                        | (go_at_call 72; (with_reducible refine (zlet_c c _ _ Hl.out).mono ?_); rintro e w1 ⟨rfl, rfl⟩)
                        | (go_at_call 73; (with_reducible refine (zdig_c c _ _ Hd.out).mono ?_); rintro e w1 ⟨rfl, rfl⟩)
                        | (go_at_call 74; (with_reducible refine (idx4_c c _ _ Hq.out).mono ?_); rintro e w1 ⟨z, rfl, hz, rfl⟩; simp only [Bool.not_true, Bool.not_false, decide_eq_true_eq, decide_eq_false_iff_not] at hz))
                      go_round
                      case rel => exact ⟨j + 1, by omega, by go_num, Hn⟩
                      case measure => simp [intOf]; omega
                    · have t43 : ((c.toNat : Int) != 43) = true := by rw [bne_iff_ne]; omega
                      by_cases q45 : c.toNat = 45
                      · have q : decide (c.toNat = 95 ∨ c.toNat = 47 ∨ c.toNat = 43 ∨ c.toNat = 45) = true := decide_eq_true (by omega)
                        have Hq := Lib.hid q
                        have Hn := Lib.hid (HY.out (by rw [HC.out, hl, hd, q]; rfl))
                        have t45 : ((c.toNat : Int) != 45) = false := by rw [q45]; rfl
                        clear hl hd q q45
                        go_wp2_with (first
                          | (go_at_call 72; (with_reducible refine (zlet_c c _ _ Hl.out).mono ?_); rintro e w1 ⟨rfl, rfl⟩)
                          | (go_at_call 73; (with_reducible refine (zdig_c c _ _ Hd.out).mono ?_); rintro e w1 ⟨rfl, rfl⟩)
                          | (go_at_call 74; (with_reducible refine (idx4_c c _ _ Hq.out).mono ?_); rintro e w1 ⟨z, rfl, hz, rfl⟩; simp only [Bool.not_true, Bool.not_false, decide_eq_true_eq, decide_eq_false_iff_not] at hz))
                        go_round
                        case rel => exact ⟨j + 1, by omega, by go_num, Hn⟩
                        case measure => simp [intOf]; omega
                      · have t45 : ((c.toNat : Int) != 45) = true := by rw [bne_iff_ne]; omega
                        have q : decide (c.toNat = 95 ∨ c.toNat = 47 ∨ c.toNat = 43 ∨ c.toNat = 45) = false := decide_eq_false (by omega)
                        have Hq := Lib.hid q
                        have Hn : Hid (b = false) := by rw [Hid, ← HB.out]; exact HN.out (by rw [HC.out, hl, hd, q]; rfl)
                        clear hl hd q
                        go_wp2_with (first
                          | (go_at_call 72; (with_reducible refine (zlet_c c _ _ Hl.out).mono ?_); rintro e w1 ⟨rfl, rfl⟩)
                          | (go_at_call 73; (with_reducible refine (zdig_c c _ _ Hd.out).mono ?_); rintro e w1 ⟨rfl, rfl⟩)
                          | (go_at_call 74; (with_reducible refine (idx4_c c _ _ Hq.out).mono ?_); rintro e w1 ⟨z, rfl, hz, rfl⟩; simp only [Bool.not_true, Bool.not_false, decide_eq_true_eq, decide_eq_false_iff_not] at hz))
                        go_ret
                        exact ⟨by rw [Hn.out]; rfl, rfl⟩
          · obtain rfl : j = s.length := by omega
            have Hn : Hid (b = true) := by rw [Hid, ← HB.out]; have := Hall.out; rwa [List.take_length] at this
            go_wp2_with fail
            go_ret
            exact ⟨by rw [Hn.out]; rfl, rfl⟩
      · have H0 := Lib.hid h0
        rw [h0, Bool.false_and] at hb
        subst hb
        clear h0
        go_enter Tryz.func34, Tryz.ntmps34
        go_wp2_with (first
          | (go_at_call 72; (with_reducible refine (zlet_c c0 false _ H0.out).mono ?_); rintro e w1 ⟨rfl, rfl⟩))
        go_ret
        exact ⟨rfl, rfl⟩
    · have hq : zNameB s = false := by unfold zNameB; rw [decide_eq_false h2]; simp
      rw [hq] at hb
      subst hb
      have d2 : (30 : Int) < (s.length : Int) := by omega
      clear h2 hq
      go_enter Tryz.func34, Tryz.ntmps34
      go_wp2_with fail
      go_ret
      exact ⟨rfl, rfl⟩
  · have hq : zNameB s = false := by unfold zNameB; rw [decide_eq_false h1]; simp
    rw [hq] at hb
    subst hb
    have d2 : (s.length : Int) < 1 := by omega
    clear h1 hq
    go_enter Tryz.func34, Tryz.ntmps34
    go_wp2_with fail
    go_ret
    exact ⟨rfl, rfl⟩
set_option maxRecDepth 100000 in
set_option maxHeartbeats 1000000 in
theorem rzname_c (s : List UInt8) (b : Bool) (w : World) (hs : s.length ≤ 9223372036854775806) (hb : zNameB s = b) : Calls Tryz.prog 61 #[.string ⟨s.toArray⟩] w fun e w' => e = .returned (.bool b) ∧ w = w' := by
  by_cases h1 : 1 ≤ s.length
  · by_cases h2 : s.length ≤ 30
    · have b0 := bget s 0 (by omega) _ rfl
      rw [zName_eq s h1 h2] at hb
      obtain ⟨c0, hc0⟩ : ∃ c, c = s[0] := ⟨_, rfl⟩
      rw [← hc0] at b0 hb
      clear hc0
      rcases Bool.eq_false_or_eq_true (isLt c0) with h0 | h0
      · have H0 := Lib.hid h0
        rw [h0, Bool.true_and] at hb
        have HB := Lib.hid hb
        clear h0 hb
        go_enter Tryz.func61, Tryz.ntmps61
        go_wp2_with (first
          | (go_at_call 104; (with_reducible refine (rzlet_c c0 true _ H0.out).mono ?_); rintro e w1 ⟨rfl, rfl⟩))
        go_loop [3] (fun i => ∃ j : Nat, j ≤ s.length ∧ i = .int .i64 (j : Int) ∧ Hid ((s.take j).all zmC = true)) (fun i => s.length - (intOf i).toNat)
        case atStart => exact ⟨0, Nat.zero_le _, rfl, rfl⟩
        case round =>
          obtain ⟨j, hj, rfl, Hall⟩ := hrel
          clear b0
          by_cases hlt : j < s.length
          · have hbg := bget s j hlt _ rfl
            have Hs := Lib.hid (all_take zmC s j hlt)
            have HN := Lib.hid (fun q : zmC s[j] = false => all_no j hlt q)
            obtain ⟨c, hc⟩ : ∃ c, c = s[j] := ⟨_, rfl⟩
            rw [← hc] at hbg Hs HN
            clear hc
            have HC : Hid (zmC c = (isLt c || isDg c || decide (c.toNat = 95 ∨ c.toNat = 47 ∨ c.toNat = 43 ∨ c.toNat = 45))) := rfl
            have HY : Hid (zmC c = true → (s.take (j + 1)).all zmC = true) := fun q => by rw [Hs.out, Hall.out, q]; rfl
            rcases Bool.eq_false_or_eq_true (isLt c) with hl | hl
            · have Hl := Lib.hid hl
              have Hn := Lib.hid (HY.out (by rw [HC.out, hl]; rfl))
              clear hl
              go_wp2_with (first
                | (go_at_call 104; (with_reducible refine (rzlet_c c _ _ Hl.out).mono ?_); rintro e w1 ⟨rfl, rfl⟩)
                | (go_at_call 105; (with_reducible refine (rzdig_c c _ _ Hd.out).mono ?_); rintro e w1 ⟨rfl, rfl⟩))
              go_round
              case rel => exact ⟨j + 1, by omega, by go_num, Hn⟩
              case measure => simp [intOf]; omega
            · have Hl := Lib.hid hl
              rcases Bool.eq_false_or_eq_true (isDg c) with hd | hd
              · have Hd := Lib.hid hd
                have Hn := Lib.hid (HY.out (by rw [HC.out, hl, hd]; rfl))
                clear hl hd
                go_wp2_with (first
                  | (go_at_call 104; (with_reducible refine (rzlet_c c _ _ Hl.out).mono ?_); rintro e w1 ⟨rfl, rfl⟩)
                  | (go_at_call 105; (with_reducible refine (rzdig_c c _ _ Hd.out).mono ?_); rintro e w1 ⟨rfl, rfl⟩))
                go_round
                case rel => exact ⟨j + 1, by omega, by go_num, Hn⟩
                case measure => simp [intOf]; omega
              · have Hd := Lib.hid hd
                by_cases q95 : c.toNat = 95
                · have q : decide (c.toNat = 95 ∨ c.toNat = 47 ∨ c.toNat = 43 ∨ c.toNat = 45) = true := decide_eq_true (by omega)
                  have Hq := Lib.hid q
                  have Hn := Lib.hid (HY.out (by rw [HC.out, hl, hd, q]; rfl))
                  have t95 : ((c.toNat : Int) != 95) = false := by rw [q95]; rfl
                  clear hl hd q q95
                  go_wp2_with (first
                    | (go_at_call 104; (with_reducible refine (rzlet_c c _ _ Hl.out).mono ?_); rintro e w1 ⟨rfl, rfl⟩)
                    | (go_at_call 105; (with_reducible refine (rzdig_c c _ _ Hd.out).mono ?_); rintro e w1 ⟨rfl, rfl⟩))
                  go_round
                  case rel => exact ⟨j + 1, by omega, by go_num, Hn⟩
                  case measure => simp [intOf]; omega
                · have t95 : ((c.toNat : Int) != 95) = true := by rw [bne_iff_ne]; omega
                  by_cases q47 : c.toNat = 47
                  · have q : decide (c.toNat = 95 ∨ c.toNat = 47 ∨ c.toNat = 43 ∨ c.toNat = 45) = true := decide_eq_true (by omega)
                    have Hq := Lib.hid q
                    have Hn := Lib.hid (HY.out (by rw [HC.out, hl, hd, q]; rfl))
                    have t47 : ((c.toNat : Int) != 47) = false := by rw [q47]; rfl
                    clear hl hd q q47
                    go_wp2_with (first
                      | (go_at_call 104; (with_reducible refine (rzlet_c c _ _ Hl.out).mono ?_); rintro e w1 ⟨rfl, rfl⟩)
                      | (go_at_call 105; (with_reducible refine (rzdig_c c _ _ Hd.out).mono ?_); rintro e w1 ⟨rfl, rfl⟩))
                    go_round
                    case rel => exact ⟨j + 1, by omega, by go_num, Hn⟩
                    case measure => simp [intOf]; omega
                  · have t47 : ((c.toNat : Int) != 47) = true := by rw [bne_iff_ne]; omega
                    by_cases q43 : c.toNat = 43
                    · have q : decide (c.toNat = 95 ∨ c.toNat = 47 ∨ c.toNat = 43 ∨ c.toNat = 45) = true := decide_eq_true (by omega)
                      have Hq := Lib.hid q
                      have Hn := Lib.hid (HY.out (by rw [HC.out, hl, hd, q]; rfl))
                      have t43 : ((c.toNat : Int) != 43) = false := by rw [q43]; rfl
                      clear hl hd q q43
                      go_wp2_with (first
                        | (go_at_call 104; (with_reducible refine (rzlet_c c _ _ Hl.out).mono ?_); rintro e w1 ⟨rfl, rfl⟩)
                        | (go_at_call 105; (with_reducible refine (rzdig_c c _ _ Hd.out).mono ?_); rintro e w1 ⟨rfl, rfl⟩))
                      go_round
                      case rel => exact ⟨j + 1, by omega, by go_num, Hn⟩
                      case measure => simp [intOf]; omega
                    · have t43 : ((c.toNat : Int) != 43) = true := by rw [bne_iff_ne]; omega
                      by_cases q45 : c.toNat = 45
                      · have q : decide (c.toNat = 95 ∨ c.toNat = 47 ∨ c.toNat = 43 ∨ c.toNat = 45) = true := decide_eq_true (by omega)
                        have Hq := Lib.hid q
                        have Hn := Lib.hid (HY.out (by rw [HC.out, hl, hd, q]; rfl))
                        have t45 : ((c.toNat : Int) != 45) = false := by rw [q45]; rfl
                        clear hl hd q q45
                        go_wp2_with (first
                          | (go_at_call 104; (with_reducible refine (rzlet_c c _ _ Hl.out).mono ?_); rintro e w1 ⟨rfl, rfl⟩)
                          | (go_at_call 105; (with_reducible refine (rzdig_c c _ _ Hd.out).mono ?_); rintro e w1 ⟨rfl, rfl⟩))
                        go_round
                        case rel => exact ⟨j + 1, by omega, by go_num, Hn⟩
                        case measure => simp [intOf]; omega
                      · have t45 : ((c.toNat : Int) != 45) = true := by rw [bne_iff_ne]; omega
                        have q : decide (c.toNat = 95 ∨ c.toNat = 47 ∨ c.toNat = 43 ∨ c.toNat = 45) = false := decide_eq_false (by omega)
                        have Hq := Lib.hid q
                        have Hn : Hid (b = false) := by rw [Hid, ← HB.out]; exact HN.out (by rw [HC.out, hl, hd, q]; rfl)
                        clear hl hd q
                        go_wp2_with (first
                          | (go_at_call 104; (with_reducible refine (rzlet_c c _ _ Hl.out).mono ?_); rintro e w1 ⟨rfl, rfl⟩)
                          | (go_at_call 105; (with_reducible refine (rzdig_c c _ _ Hd.out).mono ?_); rintro e w1 ⟨rfl, rfl⟩))
                        go_ret
                        exact ⟨by rw [Hn.out]; rfl, rfl⟩
          · obtain rfl : j = s.length := by omega
            have Hn : Hid (b = true) := by rw [Hid, ← HB.out]; have := Hall.out; rwa [List.take_length] at this
            go_wp2_with fail
            go_ret
            exact ⟨by rw [Hn.out]; rfl, rfl⟩
      · have H0 := Lib.hid h0
        rw [h0, Bool.false_and] at hb
        subst hb
        clear h0
        go_enter Tryz.func61, Tryz.ntmps61
        go_wp2_with (first
          | (go_at_call 104; (with_reducible refine (rzlet_c c0 false _ H0.out).mono ?_); rintro e w1 ⟨rfl, rfl⟩))
        go_ret
        exact ⟨rfl, rfl⟩
    · have hq : zNameB s = false := by unfold zNameB; rw [decide_eq_false h2]; simp
      rw [hq] at hb
      subst hb
      have d2 : (30 : Int) < (s.length : Int) := by omega
      clear h2 hq
      go_enter Tryz.func61, Tryz.ntmps61
      go_wp2_with fail
      go_ret
      exact ⟨rfl, rfl⟩
  · have hq : zNameB s = false := by unfold zNameB; rw [decide_eq_false h1]; simp
    rw [hq] at hb
    subst hb
    have d2 : (s.length : Int) < 1 := by omega
    clear h1 hq
    go_enter Tryz.func61, Tryz.ntmps61
    go_wp2_with fail
    go_ret
    exact ⟨rfl, rfl⟩
end Go.Proofs.YtlmoibmmjonjoaaGreatDoor
/- Locales: the walks of the reference's letters and forms. -/
namespace Go.Proofs.YtlmoibmmjonjoaaGreatDoor
set_option linter.unusedVariables false
set_option linter.unusedSimpArgs false
open Go.RowKit

theorem sfC_iff (c : UInt8) : sfC c = decide ((97 ≤ c.toNat ∧ c.toNat ≤ 122) ∨ (65 ≤ c.toNat ∧ c.toNat ≤ 90) ∨ c.toNat = 46) := by
  unfold sfC isLt
  rw [Bool.eq_iff_iff]
  simp [or_assoc]
set_option maxRecDepth 100000 in
theorem rlet_sm (s : List UInt8) (b : Bool) (w : World) (hs : s.length ≤ 9223372036854775806) (hb : onlyB smC 10 s = b) : Calls Tryz.prog 64 #[.string ⟨s.toArray⟩, .int .i64 10, .bool false] w fun e w' => e = .returned (.bool b) ∧ w = w' := by
  unfold onlyB at hb
  by_cases h1 : 1 ≤ s.length
  · by_cases h2 : (s.length : Int) ≤ 10
    · rw [decide_eq_true h1, decide_eq_true h2, Bool.true_and, Bool.true_and] at hb
      have HB := Lib.hid hb
      clear hb
      go_enter Tryz.func64, Tryz.ntmps64
      go_wp2_with fail
      go_loop [7] (fun i => ∃ j : Nat, j ≤ s.length ∧ i = .int .i64 (j : Int) ∧ Hid ((s.take j).all smC = true)) (fun i => s.length - (intOf i).toNat)
      case atStart => exact ⟨0, Nat.zero_le _, rfl, rfl⟩
      case round =>
        obtain ⟨j, hj, rfl, Hall⟩ := hrel
        by_cases hlt : j < s.length
        · have hbg := bget s j hlt _ rfl
          have Hs := Lib.hid (all_take smC s j hlt)
          have HN := Lib.hid (fun q : smC s[j] = false => all_no j hlt q)
          obtain ⟨c, hc⟩ : ∃ c, c = s[j] := ⟨_, rfl⟩
          rw [← hc] at hbg Hs HN
          clear hc
          have hc256 : c.toNat < 256 := c.toNat_lt
          rcases Bool.eq_false_or_eq_true (smC c) with hq | hq
          · have Hn : Hid ((s.take (j + 1)).all smC = true) := by rw [Hid, Hs.out, Hall.out, hq]; rfl
            unfold smC at hq; simp only [decide_eq_true_eq, decide_eq_false_iff_not] at hq
            by_cases a1 : 97 ≤ c.toNat <;> by_cases a2 : c.toNat ≤ 122 <;> by_cases a3 : 65 ≤ c.toNat <;> by_cases a4 : c.toNat ≤ 90 <;> by_cases a5 : c.toNat = 46
            all_goals first
              | (exfalso; omega)
              | ((first | have t5 : ((c.toNat : Int) == 46) = true := by (rw [beq_iff_eq]; omega) | have t5 : ((c.toNat : Int) == 46) = false := by (rw [beq_eq_false_iff_ne]; omega))
                 (first | have e1 : decide ((97 : Int) ≤ (c.toNat : Int)) = true := decide_eq_true (by omega) | have e1 : decide ((97 : Int) ≤ (c.toNat : Int)) = false := decide_eq_false (by omega))
                 (first | have e2 : decide ((c.toNat : Int) ≤ 122) = true := decide_eq_true (by omega) | have e2 : decide ((c.toNat : Int) ≤ 122) = false := decide_eq_false (by omega))
                 (first | have e3 : decide ((65 : Int) ≤ (c.toNat : Int)) = true := decide_eq_true (by omega) | have e3 : decide ((65 : Int) ≤ (c.toNat : Int)) = false := decide_eq_false (by omega))
                 (first | have e4 : decide ((c.toNat : Int) ≤ 90) = true := decide_eq_true (by omega) | have e4 : decide ((c.toNat : Int) ≤ 90) = false := decide_eq_false (by omega))
                 clear a1 a2 a3 a4 a5 hq hc256
                 go_wp2_with fail
                 go_round
                 case rel => exact ⟨j + 1, by omega, by go_num, Hn⟩
                 case measure => simp [intOf]; omega)
          · have Hn : Hid (b = false) := by rw [Hid, ← HB.out]; exact HN.out hq
            unfold smC at hq; simp only [decide_eq_true_eq, decide_eq_false_iff_not] at hq
            by_cases a1 : 97 ≤ c.toNat <;> by_cases a2 : c.toNat ≤ 122 <;> by_cases a3 : 65 ≤ c.toNat <;> by_cases a4 : c.toNat ≤ 90 <;> by_cases a5 : c.toNat = 46
            all_goals first
              | (exfalso; omega)
              | ((first | have t5 : ((c.toNat : Int) == 46) = true := by (rw [beq_iff_eq]; omega) | have t5 : ((c.toNat : Int) == 46) = false := by (rw [beq_eq_false_iff_ne]; omega))
                 (first | have e1 : decide ((97 : Int) ≤ (c.toNat : Int)) = true := decide_eq_true (by omega) | have e1 : decide ((97 : Int) ≤ (c.toNat : Int)) = false := decide_eq_false (by omega))
                 (first | have e2 : decide ((c.toNat : Int) ≤ 122) = true := decide_eq_true (by omega) | have e2 : decide ((c.toNat : Int) ≤ 122) = false := decide_eq_false (by omega))
                 (first | have e3 : decide ((65 : Int) ≤ (c.toNat : Int)) = true := decide_eq_true (by omega) | have e3 : decide ((65 : Int) ≤ (c.toNat : Int)) = false := decide_eq_false (by omega))
                 (first | have e4 : decide ((c.toNat : Int) ≤ 90) = true := decide_eq_true (by omega) | have e4 : decide ((c.toNat : Int) ≤ 90) = false := decide_eq_false (by omega))
                 clear a1 a2 a3 a4 a5 hq hc256
                 go_wp2_with fail
                 go_ret
                 exact ⟨by rw [Hn.out]; rfl, rfl⟩)
        · obtain rfl : j = s.length := by omega
          have Hn : Hid (b = true) := by rw [Hid, ← HB.out]; have := Hall.out; rwa [List.take_length] at this
          go_wp2_with fail
          go_ret
          exact ⟨by rw [Hn.out]; rfl, rfl⟩
    · rw [decide_eq_false h2] at hb
      simp at hb
      subst hb
      have h3 : 10 < (s.length : Int) := by omega
      clear h2
      go_enter Tryz.func64, Tryz.ntmps64
      go_wp2_with fail
      go_ret
      exact ⟨rfl, rfl⟩
  · rw [decide_eq_false h1] at hb
    simp at hb
    subst hb
    have h3 : (s.length : Int) < 1 := by omega
    clear h1
    go_enter Tryz.func64, Tryz.ntmps64
    go_wp2_with fail
    go_ret
    exact ⟨rfl, rfl⟩
set_option maxRecDepth 100000 in
theorem rlet_sf (s : List UInt8) (b : Bool) (w : World) (hs : s.length ≤ 9223372036854775806) (hb : onlyB sfC 8 s = b) : Calls Tryz.prog 64 #[.string ⟨s.toArray⟩, .int .i64 8, .bool true] w fun e w' => e = .returned (.bool b) ∧ w = w' := by
  unfold onlyB at hb
  by_cases h1 : 1 ≤ s.length
  · by_cases h2 : (s.length : Int) ≤ 8
    · rw [decide_eq_true h1, decide_eq_true h2, Bool.true_and, Bool.true_and] at hb
      have HB := Lib.hid hb
      clear hb
      go_enter Tryz.func64, Tryz.ntmps64
      go_wp2_with fail
      go_loop [7] (fun i => ∃ j : Nat, j ≤ s.length ∧ i = .int .i64 (j : Int) ∧ Hid ((s.take j).all sfC = true)) (fun i => s.length - (intOf i).toNat)
      case atStart => exact ⟨0, Nat.zero_le _, rfl, rfl⟩
      case round =>
        obtain ⟨j, hj, rfl, Hall⟩ := hrel
        by_cases hlt : j < s.length
        · have hbg := bget s j hlt _ rfl
          have Hs := Lib.hid (all_take sfC s j hlt)
          have HN := Lib.hid (fun q : sfC s[j] = false => all_no j hlt q)
          obtain ⟨c, hc⟩ : ∃ c, c = s[j] := ⟨_, rfl⟩
          rw [← hc] at hbg Hs HN
          clear hc
          have hc256 : c.toNat < 256 := c.toNat_lt
          rcases Bool.eq_false_or_eq_true (sfC c) with hq | hq
          · have Hn : Hid ((s.take (j + 1)).all sfC = true) := by rw [Hid, Hs.out, Hall.out, hq]; rfl
            rw [sfC_iff] at hq; simp only [decide_eq_true_eq, decide_eq_false_iff_not] at hq
            by_cases a1 : 97 ≤ c.toNat <;> by_cases a2 : c.toNat ≤ 122 <;> by_cases a3 : 65 ≤ c.toNat <;> by_cases a4 : c.toNat ≤ 90 <;> by_cases a5 : c.toNat = 46
            all_goals first
              | (exfalso; omega)
              | ((first | have t5 : ((c.toNat : Int) == 46) = true := by (rw [beq_iff_eq]; omega) | have t5 : ((c.toNat : Int) == 46) = false := by (rw [beq_eq_false_iff_ne]; omega))
                 (first | have e1 : decide ((97 : Int) ≤ (c.toNat : Int)) = true := decide_eq_true (by omega) | have e1 : decide ((97 : Int) ≤ (c.toNat : Int)) = false := decide_eq_false (by omega))
                 (first | have e2 : decide ((c.toNat : Int) ≤ 122) = true := decide_eq_true (by omega) | have e2 : decide ((c.toNat : Int) ≤ 122) = false := decide_eq_false (by omega))
                 (first | have e3 : decide ((65 : Int) ≤ (c.toNat : Int)) = true := decide_eq_true (by omega) | have e3 : decide ((65 : Int) ≤ (c.toNat : Int)) = false := decide_eq_false (by omega))
                 (first | have e4 : decide ((c.toNat : Int) ≤ 90) = true := decide_eq_true (by omega) | have e4 : decide ((c.toNat : Int) ≤ 90) = false := decide_eq_false (by omega))
                 clear a1 a2 a3 a4 a5 hq hc256
                 go_wp2_with fail
                 go_round
                 case rel => exact ⟨j + 1, by omega, by go_num, Hn⟩
                 case measure => simp [intOf]; omega)
          · have Hn : Hid (b = false) := by rw [Hid, ← HB.out]; exact HN.out hq
            rw [sfC_iff] at hq; simp only [decide_eq_true_eq, decide_eq_false_iff_not] at hq
            by_cases a1 : 97 ≤ c.toNat <;> by_cases a2 : c.toNat ≤ 122 <;> by_cases a3 : 65 ≤ c.toNat <;> by_cases a4 : c.toNat ≤ 90 <;> by_cases a5 : c.toNat = 46
            all_goals first
              | (exfalso; omega)
              | ((first | have t5 : ((c.toNat : Int) == 46) = true := by (rw [beq_iff_eq]; omega) | have t5 : ((c.toNat : Int) == 46) = false := by (rw [beq_eq_false_iff_ne]; omega))
                 (first | have e1 : decide ((97 : Int) ≤ (c.toNat : Int)) = true := decide_eq_true (by omega) | have e1 : decide ((97 : Int) ≤ (c.toNat : Int)) = false := decide_eq_false (by omega))
                 (first | have e2 : decide ((c.toNat : Int) ≤ 122) = true := decide_eq_true (by omega) | have e2 : decide ((c.toNat : Int) ≤ 122) = false := decide_eq_false (by omega))
                 (first | have e3 : decide ((65 : Int) ≤ (c.toNat : Int)) = true := decide_eq_true (by omega) | have e3 : decide ((65 : Int) ≤ (c.toNat : Int)) = false := decide_eq_false (by omega))
                 (first | have e4 : decide ((c.toNat : Int) ≤ 90) = true := decide_eq_true (by omega) | have e4 : decide ((c.toNat : Int) ≤ 90) = false := decide_eq_false (by omega))
                 clear a1 a2 a3 a4 a5 hq hc256
                 go_wp2_with fail
                 go_ret
                 exact ⟨by rw [Hn.out]; rfl, rfl⟩)
        · obtain rfl : j = s.length := by omega
          have Hn : Hid (b = true) := by rw [Hid, ← HB.out]; have := Hall.out; rwa [List.take_length] at this
          go_wp2_with fail
          go_ret
          exact ⟨by rw [Hn.out]; rfl, rfl⟩
    · rw [decide_eq_false h2] at hb
      simp at hb
      subst hb
      have h3 : 8 < (s.length : Int) := by omega
      clear h2
      go_enter Tryz.func64, Tryz.ntmps64
      go_wp2_with fail
      go_ret
      exact ⟨rfl, rfl⟩
  · rw [decide_eq_false h1] at hb
    simp at hb
    subst hb
    have h3 : (s.length : Int) < 1 := by omega
    clear h1
    go_enter Tryz.func64, Tryz.ntmps64
    go_wp2_with fail
    go_ret
    exact ⟨rfl, rfl⟩
theorem formB_eq (s : List UInt8) (h1 : 1 ≤ s.length) (h2 : s.length ≤ 30) : formB s = (s.all frC && (!decide (s[0] = 32) && !decide (s[s.length - 1] = 32))) := by
  unfold formB onlyB trimOk
  rw [decide_eq_true h1, decide_eq_true (show (s.length : Int) ≤ 30 by omega)]
  have e1 : s.head? = some s[0] := by cases s with | nil => simp at h1 | cons c r => rfl
  have e2 : s.getLast? = some s[s.length - 1] := by
    rw [List.getLast?_eq_getElem?, List.getElem?_eq_getElem (by omega)]
  rw [e1, e2]
  simp [Bool.beq_eq_decide_eq]
set_option maxRecDepth 100000 in
set_option maxHeartbeats 1000000 in
theorem rform_c (s : List UInt8) (b : Bool) (w : World) (hs : s.length ≤ 9223372036854775806) (hb : formB s = b) : Calls Tryz.prog 65 #[.string ⟨s.toArray⟩] w fun e w' => e = .returned (.bool b) ∧ w = w' := by
  by_cases h1 : 1 ≤ s.length
  · by_cases h2 : s.length ≤ 30
    · have b0 := bget s 0 (by omega) _ rfl
      have bz := bget s (s.length - 1) (by omega) _ rfl
      rw [formB_eq s h1 h2] at hb
      have hiz : ((s.length : Int) - 1).toNat = s.length - 1 := by omega
      obtain ⟨z, hz⟩ : ∃ z, z = s.length - 1 := ⟨_, rfl⟩
      have hzi : (s.length : Int) - 1 = (z : Int) := by omega
      have hzl : z < s.length := by omega
      have bz2 := bget s z hzl s[z] rfl
      obtain ⟨cz, hcz⟩ : ∃ c, c = s[z] := ⟨_, rfl⟩
      have hb2 : (s.all frC && (!decide (s[0] = 32) && !decide (cz = 32))) = b := by rw [← hb, hcz]; subst hz; rfl
      rw [← hcz] at bz2
      obtain ⟨c0, hc0⟩ : ∃ c, c = s[0] := ⟨_, rfl⟩
      rw [← hc0] at b0 hb2
      clear hc0 hb bz hiz hcz hz
      by_cases q0 : c0 = 32
      · have hB : Hid (b = false) := by rw [Hid, ← hb2, q0]; simp
        have t0 : ((c0.toNat : Int) == 32) = true := by rw [q0]; rfl
        clear q0 hb2
        go_enter Tryz.func65, Tryz.ntmps65
        go_wp2_with fail
        go_ret
        exact ⟨by rw [hB.out]; rfl, rfl⟩
      · have e0 : ¬ c0.toNat = 32 := fun e => q0 (by rw [← UInt8.toNat_inj]; rw [e]; rfl)
        have t0 : ((c0.toNat : Int) == 32) = false := by rw [beq_eq_false_iff_ne]; omega
        by_cases qz : cz = 32
        · have hB : Hid (b = false) := by rw [Hid, ← hb2, qz]; simp
          have t1 : ((cz.toNat : Int) == 32) = true := by rw [qz]; rfl
          clear q0 qz hb2 e0
          go_enter Tryz.func65, Tryz.ntmps65
          go_wp2_with fail
          go_ret
          exact ⟨by rw [hB.out]; rfl, rfl⟩
        · have e1 : ¬ cz.toNat = 32 := fun e => qz (by rw [← UInt8.toNat_inj]; rw [e]; rfl)
          have t1 : ((cz.toNat : Int) == 32) = false := by rw [beq_eq_false_iff_ne]; omega
          have HB : Hid (s.all frC = b) := by rw [Hid, ← hb2]; simp [q0, qz]
          clear q0 qz hb2 e0 e1
          go_enter Tryz.func65, Tryz.ntmps65
          go_wp2_with fail
          go_loop [3] (fun i => ∃ j : Nat, j ≤ s.length ∧ i = .int .i64 (j : Int) ∧ Hid ((s.take j).all frC = true)) (fun i => s.length - (intOf i).toNat)
          case atStart => exact ⟨0, Nat.zero_le _, rfl, rfl⟩
          case round =>
            obtain ⟨j, hj, rfl, Hall⟩ := hrel
            clear b0 bz2 t0 t1 hzi hzl
            by_cases hlt : j < s.length
            · have hbg := bget s j hlt _ rfl
              have Hs := Lib.hid (all_take frC s j hlt)
              have HN := Lib.hid (fun q : frC s[j] = false => all_no j hlt q)
              obtain ⟨c, hc⟩ : ∃ c, c = s[j] := ⟨_, rfl⟩
              rw [← hc] at hbg Hs HN
              clear hc
              have hc256 : c.toNat < 256 := c.toNat_lt
              rcases Bool.eq_false_or_eq_true (frC c) with hq | hq
              · have Hn : Hid ((s.take (j + 1)).all frC = true) := by rw [Hid, Hs.out, Hall.out, hq]; rfl
                unfold frC at hq
                simp only [decide_eq_true_eq] at hq
                by_cases a1 : 32 ≤ c.toNat <;> by_cases a2 : c.toNat ≤ 126 <;> by_cases a3 : 48 ≤ c.toNat <;> by_cases a4 : c.toNat ≤ 57 <;> by_cases a5 : c.toNat = 44
                all_goals first
                  | (exfalso; omega)
                  | ((first | have t5 : ((c.toNat : Int) == 44) = true := by (rw [beq_iff_eq]; omega) | have t5 : ((c.toNat : Int) == 44) = false := by (rw [beq_eq_false_iff_ne]; omega))
                     (first | have e1 : decide ((c.toNat : Int) < 32) = true := decide_eq_true (by omega) | have e1 : decide ((c.toNat : Int) < 32) = false := decide_eq_false (by omega))
                     (first | have e2 : decide ((126 : Int) < (c.toNat : Int)) = true := decide_eq_true (by omega) | have e2 : decide ((126 : Int) < (c.toNat : Int)) = false := decide_eq_false (by omega))
                     (first | have e3 : decide ((48 : Int) ≤ (c.toNat : Int)) = true := decide_eq_true (by omega) | have e3 : decide ((48 : Int) ≤ (c.toNat : Int)) = false := decide_eq_false (by omega))
                     (first | have e4 : decide ((c.toNat : Int) ≤ 57) = true := decide_eq_true (by omega) | have e4 : decide ((c.toNat : Int) ≤ 57) = false := decide_eq_false (by omega))
                     clear a1 a2 a3 a4 a5 hq hc256
                     go_wp2_with fail
                     go_round
                     case rel => exact ⟨j + 1, by omega, by go_num, Hn⟩
                     case measure => simp [intOf]; omega)
              · have Hn : Hid (b = false) := by rw [Hid, ← HB.out]; exact HN.out hq
                unfold frC at hq
                simp only [decide_eq_false_iff_not] at hq
                by_cases a1 : 32 ≤ c.toNat <;> by_cases a2 : c.toNat ≤ 126 <;> by_cases a3 : 48 ≤ c.toNat <;> by_cases a4 : c.toNat ≤ 57 <;> by_cases a5 : c.toNat = 44
                all_goals first
                  | (exfalso; omega)
                  | ((first | have t5 : ((c.toNat : Int) == 44) = true := by (rw [beq_iff_eq]; omega) | have t5 : ((c.toNat : Int) == 44) = false := by (rw [beq_eq_false_iff_ne]; omega))
                     (first | have e1 : decide ((c.toNat : Int) < 32) = true := decide_eq_true (by omega) | have e1 : decide ((c.toNat : Int) < 32) = false := decide_eq_false (by omega))
                     (first | have e2 : decide ((126 : Int) < (c.toNat : Int)) = true := decide_eq_true (by omega) | have e2 : decide ((126 : Int) < (c.toNat : Int)) = false := decide_eq_false (by omega))
                     (first | have e3 : decide ((48 : Int) ≤ (c.toNat : Int)) = true := decide_eq_true (by omega) | have e3 : decide ((48 : Int) ≤ (c.toNat : Int)) = false := decide_eq_false (by omega))
                     (first | have e4 : decide ((c.toNat : Int) ≤ 57) = true := decide_eq_true (by omega) | have e4 : decide ((c.toNat : Int) ≤ 57) = false := decide_eq_false (by omega))
                     clear a1 a2 a3 a4 a5 hq hc256
                     go_wp2_with fail
                     go_ret
                     exact ⟨by rw [Hn.out]; rfl, rfl⟩)
            · obtain rfl : j = s.length := by omega
              have Hn : Hid (b = true) := by rw [Hid, ← HB.out]; have := Hall.out; rwa [List.take_length] at this
              go_wp2_with fail
              go_ret
              exact ⟨by rw [Hn.out]; rfl, rfl⟩
    · have hq : formB s = false := by unfold formB onlyB; rw [decide_eq_false (show ¬ (s.length : Int) ≤ 30 by omega)]; simp
      rw [hq] at hb
      subst hb
      have d2 : (30 : Int) < (s.length : Int) := by omega
      clear h2 hq
      go_enter Tryz.func65, Tryz.ntmps65
      go_wp2_with fail
      go_ret
      exact ⟨rfl, rfl⟩
  · have hq : formB s = false := by unfold formB onlyB; rw [decide_eq_false h1]; simp
    rw [hq] at hb
    subst hb
    have d2 : (s.length : Int) < 1 := by omega
    clear h1 hq
    go_enter Tryz.func65, Tryz.ntmps65
    go_wp2_with fail
    go_ret
    exact ⟨rfl, rfl⟩
end Go.Proofs.YtlmoibmmjonjoaaGreatDoor
