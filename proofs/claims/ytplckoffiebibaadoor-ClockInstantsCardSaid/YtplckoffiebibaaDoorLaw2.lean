/- The walk of the law ClockInstants. -/
import Derived.Test.YtplckoffiebibaaDoorAwk
namespace Go.Proofs.YtplckoffiebibaaDoor
open Go.RowKit

theorem at_div {d s : Int} (h : sdB s = true) : (86400 * d + s) / 86400 = d := by have := sd_iff.1 h; omega
theorem at_mod {d s : Int} (h : sdB s = true) : (86400 * d + s) % 86400 = s := by have := sd_iff.1 h; omega
theorem at_ins {d s : Int} (h : insB d = true) (h2 : sdB s = true) : insT (86400 * d + s) = true := by have := sd_iff.1 h2; have := ins_iff.1 h; rw [insT_iff]; omega
theorem split_at (t : Int) : 86400 * (t / 86400) + t % 86400 = t := by omega

set_option maxHeartbeats 1000000 in
theorem instants_yy (d s t : Int) (w : World) (hL : Laid w) (h1 : insB d = true) (h2 : sdB s = true) (ht : insT t = true) (_ : -9223372036854775808 ≤ d) (_ : d ≤ 9223372036854775807) (_ : -9223372036854775808 ≤ s) (_ : s ≤ 9223372036854775807) (_ : -9223372036854775808 ≤ t) (_ : t ≤ 9223372036854775807) :
    Calls Tryd.prog 4 #[.int .i64 d, .int .i64 s, .int .i64 t] w fun e w' => e = .returned (.bool true) ∧ Ext w w' := by
  have HL := Lib.hid hL
  clear hL
  obtain ⟨a1, a2⟩ := ins_iff.1 h1
  obtain ⟨a3, a4⟩ := sd_iff.1 h2
  have Hat := Lib.hid (at_ins h1 h2)
  go_enter Tryd.func4, Tryd.ntmps4
  go_wp2_with (first
    | (go_at_call 13; refine (awake_c _ HL.out).mono ?_; rintro e w1 ⟨rfl, hE1⟩)
        | (go_at_call 19; with_reducible refine (at_yes d s _ h1 h2).mono ?_; rintro e w2 ⟨rfl, rfl⟩)
        | (go_at_call 21; with_reducible refine (split_yes (86400 * d + s) _ Hat.out).mono ?_; rw [at_div h2, at_mod h2]; rintro e w2 ⟨rfl, n1, rfl⟩)
    | (go_at_call 19; with_reducible refine (at_yes (t / 86400) (t % 86400) _ (split_ins ht) (split_sd t)).mono ?_; rw [split_at]; rintro e w2 ⟨rfl, rfl⟩)
    | (go_at_call 21; with_reducible refine (split_yes t _ ht).mono ?_; rintro e w2 ⟨rfl, n2, rfl⟩)
    | (go_at_call 23; refine (rsplit_yes _ _ ht).mono ?_; rintro e w2 ⟨rfl, n3, rfl⟩)
    | (go_at_call 20; refine (rday_c _ _).mono ?_; rw [h1]; rintro e w2 ⟨rfl, rfl⟩)
    | (go_at_call 22; refine (rinst_c _ _).mono ?_; rw [ht]; rintro e w2 ⟨rfl, rfl⟩))
  all_goals go_ret
  all_goals first
    | exact ⟨rfl, hE1⟩
    | exact ⟨rfl, hE1.trans ((Ext.refl _).drewN _)⟩
set_option maxHeartbeats 1000000 in
theorem instants_yn (d s t : Int) (w : World) (hL : Laid w) (h1 : insB d = true) (h2 : sdB s = true) (ht : insT t = false) (_ : -9223372036854775808 ≤ d) (_ : d ≤ 9223372036854775807) (_ : -9223372036854775808 ≤ s) (_ : s ≤ 9223372036854775807) (_ : -9223372036854775808 ≤ t) (_ : t ≤ 9223372036854775807) :
    Calls Tryd.prog 4 #[.int .i64 d, .int .i64 s, .int .i64 t] w fun e w' => e = .returned (.bool true) ∧ Ext w w' := by
  have HL := Lib.hid hL
  clear hL
  obtain ⟨a1, a2⟩ := ins_iff.1 h1
  obtain ⟨a3, a4⟩ := sd_iff.1 h2
  have Hat := Lib.hid (at_ins h1 h2)
  go_enter Tryd.func4, Tryd.ntmps4
  go_wp2_with (first
    | (go_at_call 13; refine (awake_c _ HL.out).mono ?_; rintro e w1 ⟨rfl, hE1⟩)
        | (go_at_call 19; with_reducible refine (at_yes d s _ h1 h2).mono ?_; rintro e w2 ⟨rfl, rfl⟩)
        | (go_at_call 21; with_reducible refine (split_yes (86400 * d + s) _ Hat.out).mono ?_; rw [at_div h2, at_mod h2]; rintro e w2 ⟨rfl, n1, rfl⟩)
    | (go_at_call 21; with_reducible refine (split_no t _ ht).mono ?_; rintro e w2 ⟨rfl, n2, rfl⟩)
    | (go_at_call 20; refine (rday_c _ _).mono ?_; rw [h1]; rintro e w2 ⟨rfl, rfl⟩)
    | (go_at_call 22; refine (rinst_c _ _).mono ?_; rw [ht]; rintro e w2 ⟨rfl, rfl⟩))
  all_goals go_ret
  all_goals first
    | exact ⟨rfl, hE1⟩
    | exact ⟨rfl, hE1.trans ((Ext.refl _).drewN _)⟩
set_option maxHeartbeats 1000000 in
theorem instants_ay (d s t : Int) (w : World) (hL : Laid w) (h1 : insB d = false) (hn : ¬ (insB d = true ∧ sdB s = true)) (ht : insT t = true) (_ : -9223372036854775808 ≤ d) (_ : d ≤ 9223372036854775807) (_ : -9223372036854775808 ≤ s) (_ : s ≤ 9223372036854775807) (_ : -9223372036854775808 ≤ t) (_ : t ≤ 9223372036854775807) :
    Calls Tryd.prog 4 #[.int .i64 d, .int .i64 s, .int .i64 t] w fun e w' => e = .returned (.bool true) ∧ Ext w w' := by
  have HL := Lib.hid hL
  clear hL
  have hn := Lib.hid hn
  go_enter Tryd.func4, Tryd.ntmps4
  go_wp2_with (first
    | (go_at_call 13; refine (awake_c _ HL.out).mono ?_; rintro e w1 ⟨rfl, hE1⟩)
        | (go_at_call 19; with_reducible refine (at_no d s _ hn.out).mono ?_; rintro e w2 ⟨rfl, rfl⟩)
    | (go_at_call 19; with_reducible refine (at_yes (t / 86400) (t % 86400) _ (split_ins ht) (split_sd t)).mono ?_; rw [split_at]; rintro e w2 ⟨rfl, rfl⟩)
    | (go_at_call 21; with_reducible refine (split_yes t _ ht).mono ?_; rintro e w2 ⟨rfl, n2, rfl⟩)
    | (go_at_call 23; refine (rsplit_yes _ _ ht).mono ?_; rintro e w2 ⟨rfl, n3, rfl⟩)
    | (go_at_call 20; refine (rday_c _ _).mono ?_; rw [h1]; rintro e w2 ⟨rfl, rfl⟩)
    | (go_at_call 22; refine (rinst_c _ _).mono ?_; rw [ht]; rintro e w2 ⟨rfl, rfl⟩))
  all_goals go_ret
  all_goals first
    | exact ⟨rfl, hE1⟩
    | exact ⟨rfl, hE1.trans ((Ext.refl _).drewN _)⟩
set_option maxHeartbeats 1000000 in
theorem instants_an (d s t : Int) (w : World) (hL : Laid w) (h1 : insB d = false) (hn : ¬ (insB d = true ∧ sdB s = true)) (ht : insT t = false) (_ : -9223372036854775808 ≤ d) (_ : d ≤ 9223372036854775807) (_ : -9223372036854775808 ≤ s) (_ : s ≤ 9223372036854775807) (_ : -9223372036854775808 ≤ t) (_ : t ≤ 9223372036854775807) :
    Calls Tryd.prog 4 #[.int .i64 d, .int .i64 s, .int .i64 t] w fun e w' => e = .returned (.bool true) ∧ Ext w w' := by
  have HL := Lib.hid hL
  clear hL
  have hn := Lib.hid hn
  go_enter Tryd.func4, Tryd.ntmps4
  go_wp2_with (first
    | (go_at_call 13; refine (awake_c _ HL.out).mono ?_; rintro e w1 ⟨rfl, hE1⟩)
        | (go_at_call 19; with_reducible refine (at_no d s _ hn.out).mono ?_; rintro e w2 ⟨rfl, rfl⟩)
    | (go_at_call 21; with_reducible refine (split_no t _ ht).mono ?_; rintro e w2 ⟨rfl, n2, rfl⟩)
    | (go_at_call 20; refine (rday_c _ _).mono ?_; rw [h1]; rintro e w2 ⟨rfl, rfl⟩)
    | (go_at_call 22; refine (rinst_c _ _).mono ?_; rw [ht]; rintro e w2 ⟨rfl, rfl⟩))
  all_goals go_ret
  all_goals first
    | exact ⟨rfl, hE1⟩
    | exact ⟨rfl, hE1.trans ((Ext.refl _).drewN _)⟩
set_option maxHeartbeats 1000000 in
theorem instants_by (d s t : Int) (w : World) (hL : Laid w) (h1 : insB d = true) (h2 : s < 0) (hn : ¬ (insB d = true ∧ sdB s = true)) (ht : insT t = true) (_ : -9223372036854775808 ≤ d) (_ : d ≤ 9223372036854775807) (_ : -9223372036854775808 ≤ s) (_ : s ≤ 9223372036854775807) (_ : -9223372036854775808 ≤ t) (_ : t ≤ 9223372036854775807) :
    Calls Tryd.prog 4 #[.int .i64 d, .int .i64 s, .int .i64 t] w fun e w' => e = .returned (.bool true) ∧ Ext w w' := by
  have HL := Lib.hid hL
  clear hL
  have hn := Lib.hid hn
  go_enter Tryd.func4, Tryd.ntmps4
  go_wp2_with (first
    | (go_at_call 13; refine (awake_c _ HL.out).mono ?_; rintro e w1 ⟨rfl, hE1⟩)
        | (go_at_call 19; with_reducible refine (at_no d s _ hn.out).mono ?_; rintro e w2 ⟨rfl, rfl⟩)
    | (go_at_call 19; with_reducible refine (at_yes (t / 86400) (t % 86400) _ (split_ins ht) (split_sd t)).mono ?_; rw [split_at]; rintro e w2 ⟨rfl, rfl⟩)
    | (go_at_call 21; with_reducible refine (split_yes t _ ht).mono ?_; rintro e w2 ⟨rfl, n2, rfl⟩)
    | (go_at_call 23; refine (rsplit_yes _ _ ht).mono ?_; rintro e w2 ⟨rfl, n3, rfl⟩)
    | (go_at_call 20; refine (rday_c _ _).mono ?_; rw [h1]; rintro e w2 ⟨rfl, rfl⟩)
    | (go_at_call 22; refine (rinst_c _ _).mono ?_; rw [ht]; rintro e w2 ⟨rfl, rfl⟩))
  all_goals go_ret
  all_goals first
    | exact ⟨rfl, hE1⟩
    | exact ⟨rfl, hE1.trans ((Ext.refl _).drewN _)⟩
set_option maxHeartbeats 1000000 in
theorem instants_bn (d s t : Int) (w : World) (hL : Laid w) (h1 : insB d = true) (h2 : s < 0) (hn : ¬ (insB d = true ∧ sdB s = true)) (ht : insT t = false) (_ : -9223372036854775808 ≤ d) (_ : d ≤ 9223372036854775807) (_ : -9223372036854775808 ≤ s) (_ : s ≤ 9223372036854775807) (_ : -9223372036854775808 ≤ t) (_ : t ≤ 9223372036854775807) :
    Calls Tryd.prog 4 #[.int .i64 d, .int .i64 s, .int .i64 t] w fun e w' => e = .returned (.bool true) ∧ Ext w w' := by
  have HL := Lib.hid hL
  clear hL
  have hn := Lib.hid hn
  go_enter Tryd.func4, Tryd.ntmps4
  go_wp2_with (first
    | (go_at_call 13; refine (awake_c _ HL.out).mono ?_; rintro e w1 ⟨rfl, hE1⟩)
        | (go_at_call 19; with_reducible refine (at_no d s _ hn.out).mono ?_; rintro e w2 ⟨rfl, rfl⟩)
    | (go_at_call 21; with_reducible refine (split_no t _ ht).mono ?_; rintro e w2 ⟨rfl, n2, rfl⟩)
    | (go_at_call 20; refine (rday_c _ _).mono ?_; rw [h1]; rintro e w2 ⟨rfl, rfl⟩)
    | (go_at_call 22; refine (rinst_c _ _).mono ?_; rw [ht]; rintro e w2 ⟨rfl, rfl⟩))
  all_goals go_ret
  all_goals first
    | exact ⟨rfl, hE1⟩
    | exact ⟨rfl, hE1.trans ((Ext.refl _).drewN _)⟩
set_option maxHeartbeats 1000000 in
theorem instants_cy (d s t : Int) (w : World) (hL : Laid w) (h1 : insB d = true) (h2 : ¬ s < 0) (h3 : 86400 ≤ s) (hn : ¬ (insB d = true ∧ sdB s = true)) (ht : insT t = true) (_ : -9223372036854775808 ≤ d) (_ : d ≤ 9223372036854775807) (_ : -9223372036854775808 ≤ s) (_ : s ≤ 9223372036854775807) (_ : -9223372036854775808 ≤ t) (_ : t ≤ 9223372036854775807) :
    Calls Tryd.prog 4 #[.int .i64 d, .int .i64 s, .int .i64 t] w fun e w' => e = .returned (.bool true) ∧ Ext w w' := by
  have HL := Lib.hid hL
  clear hL
  have hn := Lib.hid hn
  go_enter Tryd.func4, Tryd.ntmps4
  go_wp2_with (first
    | (go_at_call 13; refine (awake_c _ HL.out).mono ?_; rintro e w1 ⟨rfl, hE1⟩)
        | (go_at_call 19; with_reducible refine (at_no d s _ hn.out).mono ?_; rintro e w2 ⟨rfl, rfl⟩)
    | (go_at_call 19; with_reducible refine (at_yes (t / 86400) (t % 86400) _ (split_ins ht) (split_sd t)).mono ?_; rw [split_at]; rintro e w2 ⟨rfl, rfl⟩)
    | (go_at_call 21; with_reducible refine (split_yes t _ ht).mono ?_; rintro e w2 ⟨rfl, n2, rfl⟩)
    | (go_at_call 23; refine (rsplit_yes _ _ ht).mono ?_; rintro e w2 ⟨rfl, n3, rfl⟩)
    | (go_at_call 20; refine (rday_c _ _).mono ?_; rw [h1]; rintro e w2 ⟨rfl, rfl⟩)
    | (go_at_call 22; refine (rinst_c _ _).mono ?_; rw [ht]; rintro e w2 ⟨rfl, rfl⟩))
  all_goals go_ret
  all_goals first
    | exact ⟨rfl, hE1⟩
    | exact ⟨rfl, hE1.trans ((Ext.refl _).drewN _)⟩
set_option maxHeartbeats 1000000 in
theorem instants_cn (d s t : Int) (w : World) (hL : Laid w) (h1 : insB d = true) (h2 : ¬ s < 0) (h3 : 86400 ≤ s) (hn : ¬ (insB d = true ∧ sdB s = true)) (ht : insT t = false) (_ : -9223372036854775808 ≤ d) (_ : d ≤ 9223372036854775807) (_ : -9223372036854775808 ≤ s) (_ : s ≤ 9223372036854775807) (_ : -9223372036854775808 ≤ t) (_ : t ≤ 9223372036854775807) :
    Calls Tryd.prog 4 #[.int .i64 d, .int .i64 s, .int .i64 t] w fun e w' => e = .returned (.bool true) ∧ Ext w w' := by
  have HL := Lib.hid hL
  clear hL
  have hn := Lib.hid hn
  go_enter Tryd.func4, Tryd.ntmps4
  go_wp2_with (first
    | (go_at_call 13; refine (awake_c _ HL.out).mono ?_; rintro e w1 ⟨rfl, hE1⟩)
        | (go_at_call 19; with_reducible refine (at_no d s _ hn.out).mono ?_; rintro e w2 ⟨rfl, rfl⟩)
    | (go_at_call 21; with_reducible refine (split_no t _ ht).mono ?_; rintro e w2 ⟨rfl, n2, rfl⟩)
    | (go_at_call 20; refine (rday_c _ _).mono ?_; rw [h1]; rintro e w2 ⟨rfl, rfl⟩)
    | (go_at_call 22; refine (rinst_c _ _).mono ?_; rw [ht]; rintro e w2 ⟨rfl, rfl⟩))
  all_goals go_ret
  all_goals first
    | exact ⟨rfl, hE1⟩
    | exact ⟨rfl, hE1.trans ((Ext.refl _).drewN _)⟩
theorem instants_walk (d s t : Int) (w : World) (hL : Laid w) (b1 : -9223372036854775808 ≤ d) (b2 : d ≤ 9223372036854775807) (b3 : -9223372036854775808 ≤ s) (b4 : s ≤ 9223372036854775807) (b5 : -9223372036854775808 ≤ t) (b6 : t ≤ 9223372036854775807) :
    Calls Tryd.prog 4 #[.int .i64 d, .int .i64 s, .int .i64 t] w fun e w' => e = .returned (.bool true) ∧ Ext w w' := by
  rcases Bool.eq_false_or_eq_true (insT t) with ht | ht <;> rcases Bool.eq_false_or_eq_true (insB d) with h1 | h1
  all_goals first
    | exact instants_ay d s t w hL h1 (by simp [h1]) ht b1 b2 b3 b4 b5 b6
    | exact instants_an d s t w hL h1 (by simp [h1]) ht b1 b2 b3 b4 b5 b6
    | (by_cases h2 : s < 0
       · have hn : ¬ (insB d = true ∧ sdB s = true) := by rw [sd_iff]; omega
         first | exact instants_by d s t w hL h1 h2 hn ht b1 b2 b3 b4 b5 b6 | exact instants_bn d s t w hL h1 h2 hn ht b1 b2 b3 b4 b5 b6
       · by_cases h3 : 86400 ≤ s
         · have hn : ¬ (insB d = true ∧ sdB s = true) := by rw [sd_iff]; omega
           first | exact instants_cy d s t w hL h1 h2 h3 hn ht b1 b2 b3 b4 b5 b6 | exact instants_cn d s t w hL h1 h2 h3 hn ht b1 b2 b3 b4 b5 b6
         · have h4 : sdB s = true := by rw [sd_iff]; omega
           first | exact instants_yy d s t w hL h1 h4 ht b1 b2 b3 b4 b5 b6 | exact instants_yn d s t w hL h1 h4 ht b1 b2 b3 b4 b5 b6)
end Go.Proofs.YtplckoffiebibaaDoor
