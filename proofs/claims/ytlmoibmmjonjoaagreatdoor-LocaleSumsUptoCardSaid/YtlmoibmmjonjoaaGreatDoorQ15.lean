/- The reference's starts and digits. -/
import Derived.Test.YtlmoibmmjonjoaaGreatDoorQ14
import Derived.Test.YtlmoibmmjonjoaaGreatDoorQ03
import Derived.Test.YtlmoibmmjonjoaaGreatDoorQ10
namespace Go.Proofs.YtlmoibmmjonjoaaGreatDoor
set_option linter.unusedVariables false
set_option linter.unusedSimpArgs false
open Go.RowKit

theorem ext_ba (s : List UInt8) (n : Nat) : (⟨s.toArray⟩ : ByteArray).extract 0 n = ⟨(s.take n).toArray⟩ := by
  apply ByteArray.ext
  simp
theorem pre_take (s t : List UInt8) (h : t.length ≤ s.length) : (s.take t.length == t) = t.isPrefixOf s := by
  rw [Bool.eq_iff_iff, beq_iff_eq, List.isPrefixOf_iff_prefix, List.prefix_iff_eq_take]
  exact ⟨Eq.symm, Eq.symm⟩
theorem digN_at (s : List UInt8) : ∀ (m j : Nat), j ≤ digN s m → (j < digN s m → j < m ∧ ∃ h : j < s.length, isDg s[j] = true) ∧ (j = digN s m → j = m ∨ j = s.length ∨ ∃ h : j < s.length, isDg s[j] = false) := by
  induction s with
  | nil => intro m j hj; unfold digN at *; simp at *; omega
  | cons c r ih =>
    intro m j hj
    cases m with
    | zero => unfold digN at *; simp at *; omega
    | succ m =>
      by_cases hc : isDg c = true
      · have e : digN (c :: r) (m + 1) = digN r m + 1 := by unfold digN; simp [hc]
        rw [e] at hj ⊢
        cases j with
        | zero => exact ⟨fun _ => ⟨by omega, by simp, by simpa using hc⟩, fun q => by omega⟩
        | succ j =>
          obtain ⟨h1, h2⟩ := ih m j (by omega)
          refine ⟨fun q => ?_, fun q => ?_⟩
          · obtain ⟨a, b, c⟩ := h1 (by omega)
            exact ⟨by omega, by simp; omega, by simpa using c⟩
          · rcases h2 (by omega) with a | a | ⟨a, b⟩
            · exact .inl (by omega)
            · exact .inr (.inl (by simp; omega))
            · exact .inr (.inr ⟨by simp; omega, by simpa using b⟩)
      · have hc : isDg c = false := by simpa using hc
        have e : digN (c :: r) (m + 1) = 0 := by unfold digN; simp [hc]
        rw [e] at hj ⊢
        obtain rfl : j = 0 := by omega
        exact ⟨fun q => by omega, fun _ => .inr (.inr ⟨by simp, by simpa using hc⟩)⟩
end Go.Proofs.YtlmoibmmjonjoaaGreatDoor
/- The reference's names. -/
namespace Go.Proofs.YtlmoibmmjonjoaaGreatDoor
set_option linter.unusedVariables false
set_option linter.unusedSimpArgs false
open Go.RowKit

theorem nms_no (l : List (List UInt8)) (j : Nat) (hj : j < l.length) (h : nmAt 30 l j = false) : nmsB 30 l = false := by
  rw [nmsB_ref, List.all_eq_false]
  exact ⟨j, by simpa using hj, by simp [h]⟩
theorem nms_yes (l : List (List UInt8)) (h : ∀ i, i < l.length → nmAt 30 l i = true) : nmsB 30 l = true := by
  rw [nmsB_ref, List.all_eq_true]
  exact fun i hi => h i (by simpa using hi)
theorem nmAt_eq (l : List (List UInt8)) (j : Nat) (hj : j < l.length) : nmAt 30 l j = (nameB 30 l[j] && (List.range l.length).all fun k => decide (k = j) || !l[j].isPrefixOf (l.getD k [])) := by
  unfold nmAt
  simp [List.getD, hj]
theorem nmAt_bad (l : List (List UInt8)) (j : Nat) (hj : j < l.length) (h : nameB 30 l[j] = false) : nmAt 30 l j = false := by
  rw [nmAt_eq l j hj, h]; rfl
theorem nmAt_pre (l : List (List UInt8)) (j k : Nat) (hj : j < l.length) (hk : k < l.length) (hne : ¬ k = j) (h : l[j].isPrefixOf l[k] = true) : nmAt 30 l j = false := by
  rw [nmAt_eq l j hj, Bool.and_eq_false_iff]
  right
  rw [List.all_eq_false]
  exact ⟨k, by simpa using hk, by simp [List.getD, hk, hne, h]⟩
theorem nmAt_yes (l : List (List UInt8)) (j : Nat) (hj : j < l.length) (h : nameB 30 l[j] = true) (h2 : ∀ k (hk : k < l.length), k = j ∨ l[j].isPrefixOf l[k] = false) : nmAt 30 l j = true := by
  rw [nmAt_eq l j hj, h, Bool.true_and, List.all_eq_true]
  intro k hk
  have hk : k < l.length := by simpa using hk
  rcases h2 k hk with q | q
  · simp [q]
  · simp [List.getD, hk, q]
theorem nameB_eq (s : List UInt8) (h1 : 1 ≤ s.length) (h2 : s.length ≤ 30) : nameB 30 s = (isLt s[0] && s.all nmC) := by
  unfold nameB; rw [decide_eq_true h1, decide_eq_true h2]
  have : s.headD 0 = s[0] := by cases s with | nil => simp at h1 | cons c r => rfl
  rw [this]; rfl
theorem nmC_cases (c : UInt8) : (isLt c = true ∧ nmC c = true) ∨ (isLt c = false ∧ ((c.toNat = 32 ∧ nmC c = true) ∨ (c.toNat = 46 ∧ nmC c = true) ∨ (c.toNat = 45 ∧ nmC c = true) ∨ (¬ c.toNat = 32 ∧ ¬ c.toNat = 46 ∧ ¬ c.toNat = 45 ∧ nmC c = false))) := by
  have e : ∀ n : Nat, n < 256 → (c.toNat = n ↔ c = UInt8.ofNat n) := by
    intro n hn
    constructor
    · intro h; rw [← h]; simp
    · intro h; rw [h]; simp; omega
  have e1 := e 32 (by decide)
  have e2 := e 46 (by decide)
  have e3 := e 45 (by decide)
  have q1 : UInt8.ofNat 32 = 32 := rfl
  have q2 : UInt8.ofNat 46 = 46 := rfl
  have q3 : UInt8.ofNat 45 = 45 := rfl
  rw [q1] at e1; rw [q2] at e2; rw [q3] at e3
  unfold nmC
  rcases Bool.eq_false_or_eq_true (isLt c) with h | h
  · left; simp [h]
  · right
    refine ⟨h, ?_⟩
    by_cases a : c = 32
    · left; exact ⟨e1.2 a, by simp [a]⟩
    by_cases b : c = 46
    · right; left; exact ⟨e2.2 b, by simp [b]⟩
    by_cases d : c = 45
    · right; right; left; exact ⟨e3.2 d, by simp [d]⟩
    right; right; right
    exact ⟨fun q => a (e1.1 q), fun q => b (e2.1 q), fun q => d (e3.1 q), by simp [h, a, b, d]⟩
set_option maxRecDepth 100000 in
set_option maxHeartbeats 1000000 in
theorem rnames_c (l : List (List UInt8)) (B off : Nat) (b : Bool) (w : World) (h : RdS l B off w) (hn : l.length ≤ 1000) (hl : ∀ s ∈ l, s.length ≤ 2000000) (hb : nmsB 30 l = b) :
    Calls Tryz.prog 106 #[.slice (some ⟨B, off, none⟩) l.length l.length] w fun e w' => e = .returned (.bool b) ∧ w = w' := by
  have Hb := Lib.hid hb
  have Hl := Lib.hid hl
  have HR := Lib.hid h.2
  have hB := h.1
  clear hb hl h
  go_enter Tryz.func106, Tryz.ntmps106
  go_wp2_with fail
  go_loop [3] (fun i => ∃ j : Nat, j ≤ l.length ∧ i = .int .i64 (j : Int) ∧ Hid (∀ i, i < j → nmAt 30 l i = true)) (fun i => l.length - (intOf i).toNat)
  case atStart => exact ⟨0, Nat.zero_le _, rfl, fun i q => absurd q (Nat.not_lt_zero i)⟩
  case round =>
    obtain ⟨j, hj, rfl, Hall⟩ := hrel
    by_cases hlt : j < l.length
    · have c0 := HR.out j hlt
      have hls := Hl.out l[j] (List.getElem_mem _)
      have HNO : Hid (nameB 30 l[j] = false → b = false) := fun q => by rw [← Hb.out]; exact nms_no l j hlt (nmAt_bad l j hlt q)
      have HPR : Hid (∀ k (hk : k < l.length), ¬ k = j → l[j].isPrefixOf l[k] = true → b = false) := fun k hk hne q => by rw [← Hb.out]; exact nms_no l j hlt (nmAt_pre l j k hlt hk hne q)
      have HOK : Hid (nameB 30 l[j] = true → (∀ k (hk : k < l.length), k = j ∨ l[j].isPrefixOf l[k] = false) → ∀ i, i < j + 1 → nmAt 30 l i = true) := fun q1 q2 i hi => by
        by_cases hij : i < j
        · exact Hall.out i hij
        · obtain rfl : i = j := by omega
          exact nmAt_yes l i hlt q1 q2
      obtain ⟨s, hs⟩ : ∃ s, s = l[j] := ⟨_, rfl⟩
      rw [← hs] at c0 hls HNO HPR HOK
      clear hs
      by_cases h1 : 1 ≤ s.length
      · by_cases h2 : s.length ≤ 30
        · have b0 := bget s 0 (by omega) _ rfl
          have HT := Lib.hid (nameB_eq s h1 h2)
          obtain ⟨c, hc⟩ : ∃ c, c = s[0] := ⟨_, rfl⟩
          rw [← hc] at b0 HT
          clear hc
          have d1 : ¬ (s.length : Int) < 1 := by omega
          have d2 : ¬ (30 : Int) < (s.length : Int) := by omega
          rcases Bool.eq_false_or_eq_true (isLt c) with h0 | h0
          · have H0 := Lib.hid h0
            have HT2 : Hid (nameB 30 s = s.all nmC) := by rw [Hid, HT.out, h0]; rfl
            clear h0 HT
            go_wp2_with (first
              | (go_at_call 102; (with_reducible refine (rLt_c c true _ H0.out).mono ?_); rintro e w1 ⟨rfl, rfl⟩))
            go_loop [5] (fun i => ∃ q : Nat, q ≤ s.length ∧ i = .int .i64 (q : Int) ∧ Hid ((s.take q).all nmC = true)) (fun i => s.length - (intOf i).toNat)
            case atStart => exact ⟨0, Nat.zero_le _, rfl, rfl⟩
            case round =>
              obtain ⟨q, hq, rfl, Hq⟩ := hrel
              clear b0
              by_cases hql : q < s.length
              · have hb9 := bget s q hql s[q] rfl
                have Hs := Lib.hid (all_succP s nmC q hql)
                have hql' : (q : Int) < (s.length : Int) := by omega
                have HN2 : Hid (nmC s[q] = false → b = false) := fun hp => HNO.out (by
                  rw [HT2.out, List.all_eq_false]
                  exact ⟨s[q], List.getElem_mem _, by simp [hp]⟩)
                obtain ⟨x, hx⟩ : ∃ x, x = s[q] := ⟨_, rfl⟩
                rw [← hx] at hb9 Hs HN2
                clear hx
                rcases nmC_cases x with ⟨a1, a2⟩ | ⟨a1, ⟨a3, a2⟩ | ⟨a3, a2⟩ | ⟨a3, a2⟩ | ⟨a3, a4, a5, a2⟩⟩
                · have A1 := Lib.hid a1
                  have Hn : Hid ((s.take (q + 1)).all nmC = true) := by rw [Hid, Hs.out, Hq.out, a2]; rfl
                  clear a1 a2
                  go_wp2_with (first
                    | (go_at_call 102; (with_reducible refine (rLt_c x true _ A1.out).mono ?_); rintro e w1 ⟨rfl, rfl⟩))
                  go_round
                  case rel => exact ⟨q + 1, by omega, by go_num, Hn⟩
                  case measure => simp [intOf]; omega
                · have t1 : ((x.toNat : Int) != 32) = false := by rw [a3]; rfl
                  clear a3
                  have A1 := Lib.hid a1
                  have Hn : Hid ((s.take (q + 1)).all nmC = true) := by rw [Hid, Hs.out, Hq.out, a2]; rfl
                  clear a1 a2
                  go_wp2_with (first
                    | (go_at_call 102; (with_reducible refine (rLt_c x false _ A1.out).mono ?_); rintro e w1 ⟨rfl, rfl⟩))
                  go_round
                  case rel => exact ⟨q + 1, by omega, by go_num, Hn⟩
                  case measure => simp [intOf]; omega
                · have t1 : ((x.toNat : Int) != 32) = true := by rw [a3]; rfl
                  have t2 : ((x.toNat : Int) != 46) = false := by rw [a3]; rfl
                  clear a3
                  have A1 := Lib.hid a1
                  have Hn : Hid ((s.take (q + 1)).all nmC = true) := by rw [Hid, Hs.out, Hq.out, a2]; rfl
                  clear a1 a2
                  go_wp2_with (first
                    | (go_at_call 102; (with_reducible refine (rLt_c x false _ A1.out).mono ?_); rintro e w1 ⟨rfl, rfl⟩))
                  go_round
                  case rel => exact ⟨q + 1, by omega, by go_num, Hn⟩
                  case measure => simp [intOf]; omega
                · have t1 : ((x.toNat : Int) != 32) = true := by rw [a3]; rfl
                  have t2 : ((x.toNat : Int) != 46) = true := by rw [a3]; rfl
                  have t3 : ((x.toNat : Int) != 45) = false := by rw [a3]; rfl
                  clear a3
                  have A1 := Lib.hid a1
                  have Hn : Hid ((s.take (q + 1)).all nmC = true) := by rw [Hid, Hs.out, Hq.out, a2]; rfl
                  clear a1 a2
                  go_wp2_with (first
                    | (go_at_call 102; (with_reducible refine (rLt_c x false _ A1.out).mono ?_); rintro e w1 ⟨rfl, rfl⟩))
                  go_round
                  case rel => exact ⟨q + 1, by omega, by go_num, Hn⟩
                  case measure => simp [intOf]; omega
                · have t1 : ((x.toNat : Int) != 32) = true := by rw [bne_iff_ne]; omega
                  have t2 : ((x.toNat : Int) != 46) = true := by rw [bne_iff_ne]; omega
                  have t3 : ((x.toNat : Int) != 45) = true := by rw [bne_iff_ne]; omega
                  have A1 := Lib.hid a1
                  have HN := Lib.hid (HN2.out a2)
                  clear a1 a2 a3 a4 a5
                  go_wp2_with (first
                    | (go_at_call 102; (with_reducible refine (rLt_c x false _ A1.out).mono ?_); rintro e w1 ⟨rfl, rfl⟩))
                  go_ret
                  exact ⟨by rw [HN.out]; rfl, rfl⟩
              · obtain rfl : q = s.length := by omega
                have HG : Hid (nameB 30 s = true) := by rw [Hid, HT2.out]; have := Hq.out; rwa [List.take_length] at this
                clear hql hq
                go_wp2_with fail
                go_loop [6] (fun i => ∃ k : Nat, k ≤ l.length ∧ i = .int .i64 (k : Int) ∧ Hid (∀ q (hq : q < l.length), q < k → q = j ∨ s.isPrefixOf l[q] = false)) (fun i => l.length - (intOf i).toNat)
                case atStart => exact ⟨0, Nat.zero_le _, rfl, fun q hq hk => absurd hk (Nat.not_lt_zero q)⟩
                case round =>
                  obtain ⟨k, hk, rfl, Hk⟩ := hrel
                  by_cases hkl : k < l.length
                  · have k0 := HR.out k hkl
                    have hkt := Hl.out l[k] (List.getElem_mem _)
                    have HNX : Hid (k = j ∨ s.isPrefixOf l[k] = false → ∀ q (hq : q < l.length), q < k + 1 → q = j ∨ s.isPrefixOf l[q] = false) := fun h q hq hqk => by
                      by_cases hqq : q < k
                      · exact Hk.out q hq hqq
                      · obtain rfl : q = k := by omega
                        exact h
                    have HP2 := Lib.hid (HPR.out k hkl)
                    obtain ⟨t, ht⟩ : ∃ t, t = l[k] := ⟨_, rfl⟩
                    rw [← ht] at k0 hkt HNX HP2
                    clear ht
                    have hkl' : (k : Int) < (l.length : Int) := by omega
                    by_cases hkj : k = j
                    · have HY := Lib.hid (HNX.out (.inl hkj))
                      have e1 : ((k : Int) != (j : Int)) = false := by rw [hkj]; simp
                      clear hkj
                      go_wp2_with fail
                      go_round
                      case rel => exact ⟨k + 1, by omega, by go_num, HY.out⟩
                      case measure => simp [intOf]; omega
                    · have e1 : ((k : Int) != (j : Int)) = true := by rw [bne_iff_ne]; omega
                      by_cases hle : s.length ≤ t.length
                      · have e2 : (s.length : Int) ≤ (t.length : Int) := by omega
                        have ee : (((⟨t.toArray⟩ : ByteArray).extract 0 s.length).toList == s) = s.isPrefixOf t := by
                          rw [← pre_take t s hle, ext_ba]
                          have : (⟨(List.take s.length t).toArray⟩ : ByteArray).toList = List.take s.length t := by simp
                          rw [this]
                        rcases Bool.eq_false_or_eq_true (s.isPrefixOf t) with hp | hp
                        · have HN := Lib.hid (HP2.out hkj hp)
                          rw [hp] at ee
                          clear hkj hp hle
                          go_wp2_with fail
                          go_ret
                          exact ⟨by rw [HN.out]; rfl, rfl⟩
                        · have HY := Lib.hid (HNX.out (.inr hp))
                          rw [hp] at ee
                          clear hkj hp
                          go_wp2_with fail
                          go_round
                          case rel => exact ⟨k + 1, by omega, by go_num, HY.out⟩
                          case measure => simp [intOf]; omega
                      · have e2 : ¬ (s.length : Int) ≤ (t.length : Int) := by omega
                        have HY := Lib.hid (HNX.out (.inr (by
                          cases e : s.isPrefixOf t with
                          | false => rfl
                          | true => exact absurd ((List.isPrefixOf_iff_prefix.1 e).length_le) hle)))
                        clear hkj hle
                        go_wp2_with fail
                        go_round
                        case rel => exact ⟨k + 1, by omega, by go_num, HY.out⟩
                        case measure => simp [intOf]; omega
                  · obtain rfl : k = l.length := by omega
                    have HY := Lib.hid (HOK.out HG.out (fun k hk => Hk.out k hk hk))
                    go_wp2_with fail
                    go_round
                    case rel => exact ⟨j + 1, by omega, by go_num, HY.out⟩
                    case measure => simp [intOf]; omega
          · have H0 := Lib.hid h0
            have HN := Lib.hid (HNO.out (by rw [HT.out, h0]; rfl))
            clear h0 HT
            go_wp2_with (first
              | (go_at_call 102; (with_reducible refine (rLt_c c false _ H0.out).mono ?_); rintro e w1 ⟨rfl, rfl⟩))
            go_ret
            exact ⟨by rw [HN.out]; rfl, rfl⟩
        · have HN := Lib.hid (HNO.out (by unfold nameB; rw [decide_eq_false h2]; simp))
          have d1 : ¬ (s.length : Int) < 1 := by omega
          have d2 : (30 : Int) < (s.length : Int) := by omega
          clear h1 h2
          go_wp2_with fail
          go_ret
          exact ⟨by rw [HN.out]; rfl, rfl⟩
      · have HN := Lib.hid (HNO.out (by unfold nameB; rw [decide_eq_false h1]; simp))
        have d1 : (s.length : Int) < 1 := by omega
        clear h1
        go_wp2_with fail
        go_ret
        exact ⟨by rw [HN.out]; rfl, rfl⟩
    · obtain rfl : j = l.length := by omega
      have HV : Hid (b = true) := by rw [Hid, ← Hb.out]; exact nms_yes l Hall.out
      go_wp2_with fail
      go_ret
      exact ⟨by rw [HV.out]; rfl, rfl⟩
end Go.Proofs.YtlmoibmmjonjoaaGreatDoor
/- The reference's ValidNames. -/
namespace Go.Proofs.YtlmoibmmjonjoaaGreatDoor
set_option linter.unusedVariables false
set_option linter.unusedSimpArgs false
open Go.RowKit

theorem rnames_k {N : Nms} (hN : N.ok) (hl : ∀ s ∈ N.all, s.length ≤ 2000000) (k : Int) (hk : k = 4 ∨ k = 5 ∨ k = 7 ∨ k = 8 ∨ k = 13) (B n O : Nat) (b : Bool) (w : World) (h : RdS N.all B 0 w) (hO : offK k = O) (hn : (lstK N k).length = n) (hb : nmsB 30 (lstK N k) = b) :
    Calls Tryz.prog 106 #[.slice (some ⟨B, O, none⟩) n n] w fun e w' => e = .returned (.bool b) ∧ w = w' := by
  subst hO
  have h12 := lstK_len hN k
  have q := rnames_c (lstK N k) B (offK k) b w (names_at hN h hk) (by omega) (fun s hs => hl s (lstK_sub N k s hs)) hb
  rw [hn] at q
  exact q
set_option maxRecDepth 100000 in
set_option maxHeartbeats 1000000 in
theorem rvalidnames_c (N : Nms) (b : Bool) (hN : N.ok) (w : World) (hl : ∀ s ∈ N.all, s.length ≤ 2000000) (hv : nmOk N = b) : Calls Tryz.prog 62 #[.agg (sv N.all).toArray] w fun e w' => e = .returned (.bool b) ∧ Ext w w' := by
  have hE0 : Ext w (w.alloc (.cells (sv N.all).toArray 26)) := (Ext.refl w).alloc _
  have hR0 : RdS N.all w.heap.size 0 (w.alloc (.cells (sv N.all).toArray 26)) := by
    refine ⟨by simp, fun i hi => ?_⟩
    rw [Nat.zero_add, World.cell?_alloc_new]
    simp [sv, hi]
  obtain ⟨n1, n2, n3, n4, n5⟩ := hN
  have s1 := sl33
  have s2 := sl34
  have s3 := sl35
  obtain ⟨b1, hb1⟩ : ∃ b, nmsB 30 N.mo = b := ⟨_, rfl⟩
  obtain ⟨b2, hb2⟩ : ∃ b, nmsB 30 N.sh = b := ⟨_, rfl⟩
  obtain ⟨b3, hb3⟩ : ∃ b, nmsB 30 N.da = b := ⟨_, rfl⟩
  obtain ⟨b4, hb4⟩ : ∃ b, nmsB 30 N.sd = b := ⟨_, rfl⟩
  obtain ⟨b5, hb5⟩ : ∃ b, nmsB 30 N.ha = b := ⟨_, rfl⟩
  have HV : Hid ((b1 && b2 && b3 && b4 && b5) = b) := by rw [← hb1, ← hb2, ← hb3, ← hb4, ← hb5]; exact hv
  have hN : N.ok := ⟨n1, n2, n3, n4, n5⟩
  have HM := Lib.hid (rnames_k hN hl 5 (by decide) w.heap.size 12 0 b1 _ hR0 (by decide) n1 hb1)
  have HS := Lib.hid (rnames_k hN hl 4 (by decide) w.heap.size 12 12 b2 _ hR0 (by decide) n2 hb2)
  have HD := Lib.hid (rnames_k hN hl 8 (by decide) w.heap.size 7 24 b3 _ hR0 (by decide) n3 hb3)
  have HT := Lib.hid (rnames_k hN hl 7 (by decide) w.heap.size 7 31 b4 _ hR0 (by decide) n4 hb4)
  have HH := Lib.hid (rnames_k hN hl 13 (by decide) w.heap.size 2 38 b5 _ hR0 (by decide) n5 hb5)
  clear hl hv hb1 hb2 hb3 hb4 hb5 hN n1 n2 n3 n4 n5 hR0
  cases b1 with
  | false =>
    have HV2 : Hid (b = false) := by rw [Hid, ← HV.out]; rfl
    go_enter Tryz.func62, Tryz.ntmps62
    go_wp2_with (first
      | (go_at_call 106; (with_reducible refine HM.out.mono ?_); rintro e w1 ⟨rfl, rfl⟩)
      | (go_at_call 106; (with_reducible refine HS.out.mono ?_); rintro e w1 ⟨rfl, rfl⟩)
      | (go_at_call 106; (with_reducible refine HD.out.mono ?_); rintro e w1 ⟨rfl, rfl⟩)
      | (go_at_call 106; (with_reducible refine HT.out.mono ?_); rintro e w1 ⟨rfl, rfl⟩)
      | (go_at_call 106; (with_reducible refine HH.out.mono ?_); rintro e w1 ⟨rfl, rfl⟩))
    go_ret
    exact ⟨by rw [HV2.out]; rfl, hE0⟩
  | true =>
    cases b2 with
    | false =>
      have HV2 : Hid (b = false) := by rw [Hid, ← HV.out]; rfl
      go_enter Tryz.func62, Tryz.ntmps62
      go_wp2_with (first
        | (go_at_call 106; (with_reducible refine HM.out.mono ?_); rintro e w1 ⟨rfl, rfl⟩)
        | (go_at_call 106; (with_reducible refine HS.out.mono ?_); rintro e w1 ⟨rfl, rfl⟩)
        | (go_at_call 106; (with_reducible refine HD.out.mono ?_); rintro e w1 ⟨rfl, rfl⟩)
        | (go_at_call 106; (with_reducible refine HT.out.mono ?_); rintro e w1 ⟨rfl, rfl⟩)
        | (go_at_call 106; (with_reducible refine HH.out.mono ?_); rintro e w1 ⟨rfl, rfl⟩))
      go_ret
      exact ⟨by rw [HV2.out]; rfl, hE0⟩
    | true =>
      cases b3 with
      | false =>
        have HV2 : Hid (b = false) := by rw [Hid, ← HV.out]; rfl
        go_enter Tryz.func62, Tryz.ntmps62
        go_wp2_with (first
          | (go_at_call 106; (with_reducible refine HM.out.mono ?_); rintro e w1 ⟨rfl, rfl⟩)
          | (go_at_call 106; (with_reducible refine HS.out.mono ?_); rintro e w1 ⟨rfl, rfl⟩)
          | (go_at_call 106; (with_reducible refine HD.out.mono ?_); rintro e w1 ⟨rfl, rfl⟩)
          | (go_at_call 106; (with_reducible refine HT.out.mono ?_); rintro e w1 ⟨rfl, rfl⟩)
          | (go_at_call 106; (with_reducible refine HH.out.mono ?_); rintro e w1 ⟨rfl, rfl⟩))
        go_ret
        exact ⟨by rw [HV2.out]; rfl, hE0⟩
      | true =>
        cases b4 with
        | false =>
          have HV2 : Hid (b = false) := by rw [Hid, ← HV.out]; rfl
          go_enter Tryz.func62, Tryz.ntmps62
          go_wp2_with (first
            | (go_at_call 106; (with_reducible refine HM.out.mono ?_); rintro e w1 ⟨rfl, rfl⟩)
            | (go_at_call 106; (with_reducible refine HS.out.mono ?_); rintro e w1 ⟨rfl, rfl⟩)
            | (go_at_call 106; (with_reducible refine HD.out.mono ?_); rintro e w1 ⟨rfl, rfl⟩)
            | (go_at_call 106; (with_reducible refine HT.out.mono ?_); rintro e w1 ⟨rfl, rfl⟩)
            | (go_at_call 106; (with_reducible refine HH.out.mono ?_); rintro e w1 ⟨rfl, rfl⟩))
          go_ret
          exact ⟨by rw [HV2.out]; rfl, hE0⟩
        | true =>
          cases b5 with
          | false =>
            have HV2 : Hid (b = false) := by rw [Hid, ← HV.out]; rfl
            go_enter Tryz.func62, Tryz.ntmps62
            go_wp2_with (first
              | (go_at_call 106; (with_reducible refine HM.out.mono ?_); rintro e w1 ⟨rfl, rfl⟩)
              | (go_at_call 106; (with_reducible refine HS.out.mono ?_); rintro e w1 ⟨rfl, rfl⟩)
              | (go_at_call 106; (with_reducible refine HD.out.mono ?_); rintro e w1 ⟨rfl, rfl⟩)
              | (go_at_call 106; (with_reducible refine HT.out.mono ?_); rintro e w1 ⟨rfl, rfl⟩)
              | (go_at_call 106; (with_reducible refine HH.out.mono ?_); rintro e w1 ⟨rfl, rfl⟩))
            go_ret
            exact ⟨by rw [HV2.out]; rfl, hE0⟩
          | true =>
            have HV2 : Hid (b = true) := by rw [Hid, ← HV.out]; rfl
            go_enter Tryz.func62, Tryz.ntmps62
            go_wp2_with (first
              | (go_at_call 106; (with_reducible refine HM.out.mono ?_); rintro e w1 ⟨rfl, rfl⟩)
              | (go_at_call 106; (with_reducible refine HS.out.mono ?_); rintro e w1 ⟨rfl, rfl⟩)
              | (go_at_call 106; (with_reducible refine HD.out.mono ?_); rintro e w1 ⟨rfl, rfl⟩)
              | (go_at_call 106; (with_reducible refine HT.out.mono ?_); rintro e w1 ⟨rfl, rfl⟩)
              | (go_at_call 106; (with_reducible refine HH.out.mono ?_); rintro e w1 ⟨rfl, rfl⟩))
            go_ret
            exact ⟨by rw [HV2.out]; rfl, hE0⟩
end Go.Proofs.YtlmoibmmjonjoaaGreatDoor
