/- The walk of the law ClockDurations. -/
import Derived.Test.YtplckoffiebibaaDoorRPd
import Derived.Test.YtplckoffiebibaaDoorRead3
import Derived.Test.YtplckoffiebibaaDoorAwk
namespace Go.Proofs.YtplckoffiebibaaDoor
set_option linter.unusedVariables false
set_option linter.unusedSimpArgs false
open Go.RowKit

theorem ba_mk (s : ByteArray) : s = ⟨(s.data.toList).toArray⟩ := by
  apply ByteArray.ext; simp
set_option maxRecDepth 100000 in
set_option maxHeartbeats 1000000 in
theorem durs_long (n : Int) (s : ByteArray) (w : World) (hL : Laid w) (hs : 200 < s.size) (hm : s.size ≤ 9223372036854775807) :
    Calls Tryd.prog 7 #[.int .i64 n, .string s] w fun e w' => e = .returned (.bool true) ∧ Ext w w' := by
  have HL := Lib.hid hL
  clear hL
  go_enter Tryd.func7, Tryd.ntmps7
  go_wp2_with (first
    | (go_at_call 13; refine (awake_c _ HL.out).mono ?_; rintro e w1 ⟨rfl, hE⟩))
  go_ret
  exact ⟨rfl, hE⟩
theorem durT_len (n : Int) : (durT n).length ≤ 1000 := by
  unfold durT
  split
  · simp
  · rename_i hl
    have hl2 : lineB n = true := by simpa using hl
    have hl3 := of_decide_eq_true (show decide (-4398046511104 ≤ n ∧ n ≤ 4398046511104) = true from hl2)
    clear hl hl2
    split
    · simp
    · have h1 := prt_len (n.natAbs / 86400) 68 (by omega)
      have h2 := tk_len n.natAbs 4
      have h3 : (tpr n.natAbs).length ≤ 63 := h2
      unfold durP
      simp only [List.length_append, List.length_singleton]
      split <;> split <;> simp <;> omega
set_option maxRecDepth 100000 in
set_option maxHeartbeats 1000000 in
theorem durs_yes (n : Int) (l : List UInt8) (w : World) (hL : Laid w) (hn : lineB n = true) (hl : l.length ≤ 200) :
    Calls Tryd.prog 7 #[.int .i64 n, .string ⟨l.toArray⟩] w fun e w' => e = .returned (.bool true) ∧ Ext w w' := by
  have HL := Lib.hid hL
  have hT : (durT n).length ≤ 1000 := durT_len n
  clear hL
  have HP := Lib.hid (parD_durT n hn)
  go_enter Tryd.func7, Tryd.ntmps7
  go_wp2_with (first
    | (go_at_call 13; refine (awake_c _ HL.out).mono ?_; rintro e w1 ⟨rfl, hE⟩)
    | (go_at_call 31; refine (dur_c _ _ (HL.out.ext hE)).mono ?_; rintro e w2 ⟨rfl, hE2⟩; replace hE := hE.trans hE2)
    | (go_at_call 32; refine (rdur_c _ _).mono ?_; rintro e w2 ⟨rfl, hE2⟩; replace hE := hE.trans hE2)
    | (go_at_call 33; refine (lineB_c _ _).mono ?_; rw [hn]; rintro e w2 ⟨rfl, rfl⟩)
    | (go_at_call 34; (with_reducible refine (pd_c (durT n) _ (HL.out.ext hE) (by omega)).mono ?_); (with_reducible rw [HP.out]); rintro e w2 ⟨rfl, hE2⟩; replace hE := hE.trans hE2)
    | (go_at_call 34; (with_reducible refine (pd_c l _ (HL.out.ext hE) (by omega)).mono ?_); rintro e w2 ⟨rfl, hE2⟩; replace hE := hE.trans hE2)
    | (go_at_call 35; refine (rpd_c l _ hl).mono ?_; rintro e w2 ⟨rfl, rfl⟩))
  go_ret
  exact ⟨rfl, hE⟩
set_option maxRecDepth 100000 in
set_option maxHeartbeats 1000000 in
theorem durs_no (n : Int) (l : List UInt8) (w : World) (hL : Laid w) (hn : lineB n = false) (hl : l.length ≤ 200) :
    Calls Tryd.prog 7 #[.int .i64 n, .string ⟨l.toArray⟩] w fun e w' => e = .returned (.bool true) ∧ Ext w w' := by
  have HL := Lib.hid hL
  have hT : (durT n).length ≤ 1000 := durT_len n
  clear hL
  skip
  go_enter Tryd.func7, Tryd.ntmps7
  go_wp2_with (first
    | (go_at_call 13; refine (awake_c _ HL.out).mono ?_; rintro e w1 ⟨rfl, hE⟩)
    | (go_at_call 31; refine (dur_c _ _ (HL.out.ext hE)).mono ?_; rintro e w2 ⟨rfl, hE2⟩; replace hE := hE.trans hE2)
    | (go_at_call 32; refine (rdur_c _ _).mono ?_; rintro e w2 ⟨rfl, hE2⟩; replace hE := hE.trans hE2)
    | (go_at_call 33; refine (lineB_c _ _).mono ?_; rw [hn]; rintro e w2 ⟨rfl, rfl⟩)
    
    | (go_at_call 34; (with_reducible refine (pd_c l _ (HL.out.ext hE) (by omega)).mono ?_); rintro e w2 ⟨rfl, hE2⟩; replace hE := hE.trans hE2)
    | (go_at_call 35; refine (rpd_c l _ hl).mono ?_; rintro e w2 ⟨rfl, rfl⟩))
  go_ret
  exact ⟨rfl, hE⟩
theorem durs_walk (n : Int) (s : ByteArray) (w : World) (hL : Laid w) (n1 : -9223372036854775808 ≤ n) (n2 : n ≤ 9223372036854775807) (hm : s.size ≤ maxLen) :
    Calls Tryd.prog 7 #[.int .i64 n, .string s] w fun e w' => e = .returned (.bool true) ∧ Ext w w' := by
  unfold maxLen at hm
  by_cases hs : 200 < s.size
  · exact durs_long n s w hL hs hm
  · rw [ba_mk s]
    have hl : s.data.toList.length ≤ 200 := by
      have : s.data.toList.length = s.size := Array.length_toList
      omega
    rcases Bool.eq_false_or_eq_true (lineB n) with h | h
    · exact durs_yes n _ w hL h hl
    · exact durs_no n _ w hL h hl
end Go.Proofs.YtplckoffiebibaaDoor
