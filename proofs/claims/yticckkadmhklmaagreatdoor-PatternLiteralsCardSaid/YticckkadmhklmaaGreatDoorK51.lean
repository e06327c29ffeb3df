/- strings.ContainsAny(s, the bytes 0, 9, 10) at whatever text: it gives some answer. -/
import Derived.Test.YticckkadmhklmaaGreatDoorK00
import Derived.Test.YticckkadmhklmaaGreatDoorShelf
import Derived.Laws.RangeAny
import Derived.Deep.Cut
import Derived.Deep.LoopGhost
import Derived.Lib.Bytealg
import Derived.Lib.Small
import Derived.Lib.OthersKept
namespace Go.Proofs.YticckkadmhklmaaGreatDoor
set_option linter.unusedVariables false
set_option linter.unusedSimpArgs false
open Go.RowKit

def c3 : ByteArray := ⟨#[0, 9, 10]⟩
/-- The text of a rune beyond ASCII: two to four bytes, the last one beyond ASCII. -/
theorem enc_hi (r : Int) (h1 : 128 ≤ r) (hv : Utf8.valid r = true) : ∃ (L : List UInt8) (x : UInt8), Utf8.encode r = ⟨(L ++ [x]).toArray⟩ ∧ 1 ≤ L.length ∧ L.length ≤ 3 ∧ 128 ≤ x.toNat := by
  have hx : ∀ k, k < 64 → (UInt8.ofNat (128 + k)).toNat = 128 + k := fun k hk => by simp; omega
  have hn : r.toNat % 64 < 64 := Nat.mod_lt _ (by decide)
  have e := hx _ hn
  unfold Utf8.encode
  simp only [hv, if_true]
  have h2 : ¬ r.toNat < 128 := by omega
  rw [if_neg h2]
  split
  · exact ⟨[UInt8.ofNat (192 + r.toNat / 64)], UInt8.ofNat (128 + r.toNat % 64), rfl, by simp, by simp, by omega⟩
  · split
    · exact ⟨[UInt8.ofNat (224 + r.toNat / 4096), UInt8.ofNat (128 + r.toNat / 64 % 64)], UInt8.ofNat (128 + r.toNat % 64), rfl, by simp, by simp, by omega⟩
    · exact ⟨[UInt8.ofNat (240 + r.toNat / 262144), UInt8.ofNat (128 + r.toNat / 4096 % 64), UInt8.ofNat (128 + r.toNat / 64 % 64)], UInt8.ofNat (128 + r.toNat % 64), rfl, by simp, by simp, by omega⟩
theorem c3_lt : ∀ (i : Nat) (hi : i < (⟨#[0, 9, 10]⟩ : ByteArray).size), ((⟨#[0, 9, 10]⟩ : ByteArray)[i]'hi).toNat < 128
  | 0, _ => by show (0 : UInt8).toNat < 128; decide
  | 1, _ => by show (9 : UInt8).toNat < 128; decide
  | 2, _ => by show (10 : UInt8).toNat < 128; decide
  | n + 3, h => absurd h (by show ¬ n + 3 < 3; omega)
theorem valid_eq (r : Int) : Lib.validRune r = Utf8.valid r := by
  unfold Lib.validRune Utf8.valid
  rw [Bool.eq_iff_iff]
  simp
  omega
theorem idxb_no : ∀ (l : List UInt8) (x : UInt8), (∀ c ∈ l, c.toNat < 128) → 128 ≤ x.toNat → Lib.indexByte l x = -1
  | [], _, _, _ => rfl
  | b :: l, x, hl, hx => by
    have h1 := hl b (by simp)
    have h2 := idxb_no l x (fun c hc => hl c (by simp [hc])) hx
    have hb : (b == x) = false := by
      rw [beq_eq_false_iff_ne]
      rintro rfl
      omega
    rw [Lib.indexByte, hb, h2]; rfl
theorem idx_none (l : List UInt8) (x : UInt8) (w : World) (hl : ∀ c ∈ l, c.toNat < 128) (hx : 128 ≤ x.toNat) : Calls Tryz.prog 101 #[.string ⟨l.toArray⟩, .int .u8 (x.toNat : Int)] w fun e w' => e = .returned (.int .i64 (-1)) ∧ w = w' := by
  have q : Calls Tryz.prog 101 #[.string ⟨l.toArray⟩, .int .u8 (x.toNat : Int)] w fun e w' => e = .returned (.int .i64 (Lib.indexByte (⟨l.toArray⟩ : ByteArray).data.toList ((x.toNat : Int)).toNat.toUInt8)) ∧ w' = w := Any.strings_IndexByte { Tryz.lays152 with } ⟨l.toArray⟩ (x.toNat : Int) w
  refine q.mono ?_
  rintro e w' ⟨rfl, rfl⟩
  refine ⟨?_, rfl⟩
  have e : ((x.toNat : Int)).toNat.toUInt8 = x := by simp
  rw [e, show (⟨l.toArray⟩ : ByteArray).data.toList = l from rfl, idxb_no l x hl hx]
theorem vr_c (r : Int) (b : Bool) (w : World) (h : Utf8.valid r = b) : Calls Tryz.prog 102 #[.int .i32 r] w fun e w' => e = .returned (.bool b) ∧ w = w' := by
  refine (Tryz.utf8_ValidRune r w).mono ?_
  rintro e w' ⟨rfl, rfl⟩
  rw [valid_eq, h]; exact ⟨rfl, rfl⟩
set_option maxRecDepth 100000 in
set_option maxHeartbeats 1000000 in
theorem irn_bad (r : Int) (w : World) (h1 : 128 ≤ r) (h2 : r ≤ 2147483647) (he : ¬ r = 65533) (hv : Utf8.valid r = false) :
    Calls Tryz.prog 77 #[.string ⟨#[0, 9, 10]⟩, .int .i32 r] w fun e w' => e = .returned (.int .i64 (-1)) ∧ Ext w w' := by
  have HV := Lib.hid hv
  have t1 : (r == 65533) = false := by simpa using he
  have d0 : decide (r < 128) = false := decide_eq_false (by omega)
  clear hv
  go_enter Tryz.func77, Tryz.ntmps77
  go_wp2_with (first
    | (go_at_call 102; (with_reducible refine (vr_c r false _ HV.out).mono ?_); rintro e w1 ⟨rfl, rfl⟩))
  go_ret
  exact ⟨rfl, Ext.refl _⟩
set_option maxRecDepth 100000 in
set_option maxHeartbeats 1000000 in
theorem irn_err (w : World) :
    Calls Tryz.prog 77 #[.string ⟨#[0, 9, 10]⟩, .int .i32 65533] w fun e w' => e = .returned (.int .i64 (-1)) ∧ Ext w w' := by
  go_enter Tryz.func77, Tryz.ntmps77
  go_wp2_with fail
  go_loopg [5, 6] 3 (fun g _ _ wx => ∃ i : Nat, i + g = 3 ∧ wx = w.iter ⟨#[0, 9, 10]⟩ i)
  case atStart => exact ⟨0, by omega, rfl⟩
  case round =>
    obtain ⟨i, hig, rfl⟩ := hrel
    cases gk with
    | zero =>
      obtain rfl : i = 3 := by omega
      have hnx := fun ty => run_next_end (P := Tryz.prog) w ⟨#[0, 9, 10]⟩ 3 ty (by decide)
      go_wp2
      go_ret
      exact ⟨rfl, (Ext.refl w).alloc _⟩
    | succ g =>
      have hi : i < 3 := by omega
      have hx := c3_lt i hi
      have hnx := fun ty => run_next_ascii (P := Tryz.prog) w ⟨#[0, 9, 10]⟩ i ty hi hx
      obtain ⟨x, hxx⟩ : ∃ x : UInt8, (⟨#[0, 9, 10]⟩ : ByteArray)[i]'hi = x := ⟨_, rfl⟩
      rw [hxx] at hnx hx
      clear hxx
      have t1 : ((x.toNat : Int) == 65533) = false := by rw [beq_eq_false_iff_ne]; omega
      go_wp2
      go_roundg g
      case measure => omega
      case rel => exact ⟨i + 1, by omega, rfl⟩
set_option maxRecDepth 100000 in
set_option maxHeartbeats 1000000 in
theorem irn_val (r : Int) (w : World) (h1 : 128 ≤ r) (h2 : r ≤ 2147483647) (he : ¬ r = 65533) (hv : Utf8.valid r = true) :
    Calls Tryz.prog 77 #[.string ⟨#[0, 9, 10]⟩, .int .i32 r] w fun e w' => e = .returned (.int .i64 (-1)) ∧ Ext w w' := by
  obtain ⟨L, x, hen, hL1, hL3, hx⟩ := enc_hi r h1 hv
  have HV := Lib.hid hv
  have t1 : (r == 65533) = false := by simpa using he
  have d0 : decide (r < 128) = false := decide_eq_false (by omega)
  have hw : IntKind.i32.wrap r = r := IntWalk.i32_in _ (by omega)
  clear hv
  have HI := Lib.hid (fun l w (hl : ∀ c ∈ l, c.toNat < 128) => idx_none l x w hl hx)
  have hsz : (⟨(L ++ [x]).toArray⟩ : ByteArray).size = L.length + 1 := by simp [ByteArray.size]
  have hlx : ((⟨(L ++ [x]).toArray⟩ : ByteArray)[L.length]'(by rw [hsz]; omega)) = x := by
    show (L ++ [x]).toArray[L.length] = x
    simp
  have hEl : (⟨(L ++ [x]).toArray⟩ : ByteArray).size - 1 = L.length := by omega
  obtain ⟨n, hn⟩ : ∃ n, n = L.length := ⟨_, rfl⟩
  obtain ⟨E, hE⟩ : ∃ E : ByteArray, E = ⟨(L ++ [x]).toArray⟩ := ⟨_, rfl⟩
  have hEs : E.size = n + 1 := by rw [hE, hsz, hn]
  have hEx : E[n]'(by omega) = x := by subst hE; subst hn; exact hlx
  rw [← hE] at hen
  rw [← hn] at hL1 hL3
  have HEN := Lib.hid hen
  have HES := Lib.hid hEs
  have HEX := Lib.hid hEx
  clear hlx hsz hEl hE hn
  have g1 : ((⟨#[0, 9, 10]⟩ : ByteArray)[1]'(by decide)) = 9 := rfl
  have g2 : ((⟨#[0, 9, 10]⟩ : ByteArray)[2]'(by decide)) = 10 := rfl
  have e2 : (⟨#[0, 9, 10]⟩ : ByteArray).extract 2 3 = ⟨([10] : List UInt8).toArray⟩ := by rfl
  have e3 : (⟨#[0, 9, 10]⟩ : ByteArray).extract 3 3 = ⟨([] : List UInt8).toArray⟩ := by rfl
  have w2 : IntKind.i64.wrap 2 = 2 := by decide
  have w3 : IntKind.i64.wrap 3 = 3 := by decide
  have k9 : ((9 : Int) != (x.toNat : Int)) = true := by rw [bne_iff_ne]; omega
  have k10 : ((10 : Int) != (x.toNat : Int)) = true := by rw [bne_iff_ne]; omega
  rcases (show n = 1 ∨ n = 2 ∨ n = 3 by omega) with rfl | rfl | rfl
  · go_enter Tryz.func77, Tryz.ntmps77
    go_wp2_with (first
      | (go_at_call 102; (with_reducible refine (vr_c r true _ HV.out).mono ?_); rintro e w1 ⟨rfl, rfl⟩))
    go_step3
    go_wp2_with fail
    refine wp_loop_rounds 1 ?_
    rw [rounds_succ]
    go_wp2_with fail
    go_step3
    go_wp2_with fail
    go_quiet (fail)
    have hEq : Ext w (w.drewN nq) := (Ext.refl w).drewN _
    generalize w.drewN nq = w2 at hEq ⊢
    go_wp2_with fail
    go_quiet ((go_at_call 101; (with_reducible refine Calls.quiet_of_same ((HI.out _ _ (by intro c hc; simp at hc; subst hc; decide)).mono fun _ _ q => ⟨q.1, q.2.symm⟩))))
    go_wp2_with fail
    try simp only [Exit.noGoto, Exit.inBlock, Exit.then]
    go_ret
    exact ⟨rfl, hEq.trans (by (repeat (with_reducible (first | assumption | exact Ext.refl _ | refine Ext.alloc ?_ _ | refine Ext.drewN ?_ _ | refine Ext.drew ?_))))⟩
  · go_enter Tryz.func77, Tryz.ntmps77
    go_wp2_with (first
      | (go_at_call 102; (with_reducible refine (vr_c r true _ HV.out).mono ?_); rintro e w1 ⟨rfl, rfl⟩))
    go_step3
    go_wp2_with fail
    refine wp_loop_rounds 1 ?_
    rw [rounds_succ]
    go_wp2_with fail
    go_step3
    go_wp2_with fail
    go_quiet (fail)
    have hEq : Ext w (w.drewN nq) := (Ext.refl w).drewN _
    generalize w.drewN nq = w2 at hEq ⊢
    go_wp2_with fail
    go_quiet ((go_at_call 101; (with_reducible refine Calls.quiet_of_same ((HI.out _ _ (by intro c hc; simp at hc)).mono fun _ _ q => ⟨q.1, q.2.symm⟩))))
    go_wp2_with fail
    try simp only [Exit.noGoto, Exit.inBlock, Exit.then]
    go_ret
    exact ⟨rfl, hEq.trans (by (repeat (with_reducible (first | assumption | exact Ext.refl _ | refine Ext.alloc ?_ _ | refine Ext.drewN ?_ _ | refine Ext.drew ?_))))⟩
  · go_enter Tryz.func77, Tryz.ntmps77
    go_wp2_with (first
      | (go_at_call 102; (with_reducible refine (vr_c r true _ HV.out).mono ?_); rintro e w1 ⟨rfl, rfl⟩))
    go_step3
    go_wp2_with fail
    refine wp_loop_rounds 1 ?_
    rw [rounds_succ]
    go_wp2_with fail
    try simp only [Exit.noGoto, Exit.inBlock, Exit.then]
    go_ret
    exact ⟨rfl, Ext.refl _⟩
end Go.Proofs.YticckkadmhklmaaGreatDoor
/- strings.ContainsAny(s, the bytes 0, 9, 10) at whatever text: it gives some answer. -/
namespace Go.Proofs.YticckkadmhklmaaGreatDoor
set_option linter.unusedVariables false
set_option linter.unusedSimpArgs false
open Go.RowKit

theorem irn_hi (r : Int) (w : World) (h1 : 128 ≤ r) (h2 : r ≤ 2147483647) :
    Calls Tryz.prog 77 #[.string ⟨#[0, 9, 10]⟩, .int .i32 r] w fun e w' => e = .returned (.int .i64 (-1)) ∧ Ext w w' := by
  by_cases he : r = 65533
  · subst he; exact irn_err w
  · rcases Bool.eq_false_or_eq_true (Utf8.valid r) with hv | hv
    · exact irn_val r w h1 h2 he hv
    · exact irn_bad r w h1 h2 he hv
theorem irn_any (r : Int) (w : World) (h1 : 0 ≤ r) (h2 : r ≤ 2147483647) :
    Calls Tryz.prog 77 #[.string ⟨#[0, 9, 10]⟩, .int .i32 r] w fun e w' => ∃ z : Int, e = .returned (.int .i64 z) ∧ Ext w w' := by
  by_cases h : 128 ≤ r
  · exact (irn_hi r w h h2).mono fun _ _ ⟨a, b⟩ => ⟨_, a, b⟩
  · refine (Tryz.strings_IndexRune_ascii ⟨#[0, 9, 10]⟩ r w h1 (by omega)).mono ?_
    rintro e w' ⟨rfl, rfl⟩
    exact ⟨_, rfl, Ext.refl _⟩
theorem sua_c (n : Int) (w : World) (b : Bool) (h : decide (8 < n) = b) : Calls Tryz.prog 78 #[.int .i64 n] w fun e w' => e = .returned (.bool b) ∧ w = w' := by
  subst h
  go_enter Tryz.func78, Tryz.ntmps78
  go_wp2
  go_ret
  exact ⟨rfl, rfl⟩
theorem dec_ge (s : ByteArray) (i : Nat) (h : i < s.size) : 1 ≤ (Utf8.decode s i).2 := by
  by_cases q : (s[i]'h).toNat < 128
  · rw [decode_ascii s i h q]; exact Nat.le_refl _
  · exact (decode_high s i h (by omega)).2
set_option maxRecDepth 100000 in
set_option maxHeartbeats 2000000 in
theorem idxany_s (s : List UInt8) (w : World) (hs : s.length ≤ 8) :
    Calls Tryz.prog 48 #[.string ⟨s.toArray⟩, .string ⟨#[0, 9, 10]⟩] w fun e w' => ∃ z : Int, e = .returned (.int .i64 z) ∧ Ext w w' := by
  have d8 : decide ((8 : Int) < (s.length : Int)) = false := decide_eq_false (by omega)
  have H8 := Lib.hid d8
  clear d8
  go_enter Tryz.func48, Tryz.ntmps48
  go_wp2_with (first
    | (go_at_call 78; (with_reducible refine (sua_c _ _ false H8.out).mono ?_); rintro e w1 ⟨rfl, rfl⟩))
  obtain ⟨S, hS⟩ : ∃ S : ByteArray, S = ⟨s.toArray⟩ := ⟨_, rfl⟩
  have hSz : S.size = s.length := by rw [hS]; simp [ByteArray.size]
  have h0 : (w.iter S 0).heap[w.heap.size]? = some (.stringIter S 0) := by simp [World.iter_heap]
  have hE0 : Ext w (w.iter S 0) := (Ext.refl w).alloc _
  rw [← hS]
  have HSz := Lib.hid hSz
  clear hS hSz
  generalize w.iter S 0 = w0 at h0 hE0 ⊢
  obtain ⟨K, hK⟩ : ∃ K, w.heap.size = K := ⟨_, rfl⟩
  have hKw : w.heap.size ≤ K := by omega
  rw [hK] at h0 ⊢
  have HK := Lib.hid hK
  clear hK
  go_loopg [9, 10] s.length (fun g _ _ wx => ∃ i : Nat, s.length ≤ i + g ∧ Hid (wx.heap[K]? = some (.stringIter S i)) ∧ Ext w wx)
  case atStart => exact ⟨0, by omega, h0, hE0⟩
  case round =>
    obtain ⟨i, hig, HI, hE⟩ := hrel
    by_cases hi : i < s.length
    · obtain ⟨g, rfl⟩ : ∃ g, gk = g + 1 := ⟨gk - 1, by omega⟩
      have hiS : i < S.size := by rw [HSz.out]; exact hi
      have hd := dec_ge S i hiS
      have hle := decode_le S i
      have hnx := fun ty => Go.Lib.run_next_any_at (P := Tryz.prog) wr K S i ty HI.out hiS
      have hI2 := Go.Lib.iterAt_heap wr K S i (i + (Utf8.decode S i).2) HI.out
      have hE2 : Ext w (wr.iterAt K S (i + (Utf8.decode S i).2)) := Go.Lib.below_iterAt hE hKw _ _
      obtain ⟨r, hr⟩ : ∃ r, (Utf8.decode S i).1 = r := ⟨_, rfl⟩
      obtain ⟨d, hdd⟩ : ∃ d, (Utf8.decode S i).2 = d := ⟨_, rfl⟩
      rw [hr] at hnx hle
      rw [hdd] at hnx hI2 hE2 hd
      have hlt : K < (wr.iterAt K S (i + d)).heap.size := (Array.getElem?_eq_some_iff.1 hI2).1
      have HI2 := Lib.hid hI2
      clear hr hdd hI2 hiS
      generalize wr.iterAt K S (i + d) = w1 at hnx HI2 hE2 hlt
      go_wp2_with (first
        | (go_at_call 77; (with_reducible refine (irn_any (r : Int) _ (by omega) (by omega)).mono ?_); rintro e w2 ⟨z, rfl, hE3⟩; have hE4 := hE2.trans hE3; have HI3 : Hid (w2.heap[K]? = some (.stringIter S (i + d))) := (hE3.block K hlt).trans HI2.out))
      all_goals first
        | (go_ret; exact ⟨_, rfl, hE4⟩)
        | (go_roundg g
           case measure => omega
           case rel => exact ⟨i + d, by omega, HI3, hE4⟩)
    · have hiS : ¬ i < S.size := by rw [HSz.out]; exact hi
      have hnx := fun ty => Go.Lib.run_next_end_at (P := Tryz.prog) wr K S i ty HI.out hiS
      clear hiS
      go_wp2_with fail
      go_ret
      exact ⟨_, rfl, hE⟩
theorem idxany_l (s : List UInt8) (w : World) (h8 : 8 < s.length) (hs : s.length ≤ 4000) :
    Calls Tryz.prog 48 #[.string ⟨s.toArray⟩, .string ⟨#[0, 9, 10]⟩] w fun e w' => ∃ z : Int, e = .returned (.int .i64 z) ∧ Ext w w' := by
  have hz : (⟨s.toArray⟩ : ByteArray).size = s.length := by simp [ByteArray.size]
  refine (Tryz.strings_IndexAny_long (fun _ => by kernel_rfl) ⟨s.toArray⟩ ⟨#[0, 9, 10]⟩ w (by decide) (by rw [hz]; omega) (by rw [hz]; omega) (by decide) ?_).mono ?_
  · intro j b hj
    have h : ∀ c ∈ ([0, 9, 10] : List UInt8), c.toNat < 128 := by decide
    exact h b (List.mem_of_getElem? (l := [0, 9, 10]) hj)
  · rintro e w' ⟨rfl, rfl⟩
    exact ⟨_, rfl, ((Ext.refl w).alloc _).alloc _⟩
theorem cta_c (s : List UInt8) (w : World) (hs : s.length ≤ 4000) :
    Calls Tryz.prog 17 #[.string ⟨s.toArray⟩, .string ⟨#[0, 9, 10]⟩] w fun e w' => ∃ b : Bool, e = .returned (.bool b) ∧ Ext w w' := by
  have HX : Hid (∀ w, Calls Tryz.prog 48 #[.string ⟨s.toArray⟩, .string ⟨#[0, 9, 10]⟩] w fun e w' => ∃ z : Int, e = .returned (.int .i64 z) ∧ Ext w w') := fun w => by
    by_cases h : s.length ≤ 8
    · exact idxany_s s w h
    · exact idxany_l s w (by omega) hs
  go_enter Tryz.func17, Tryz.ntmps17
  go_wp2_with (first
    | (go_at_call 48; (with_reducible refine (HX.out _).mono ?_); rintro e w1 ⟨z, rfl, hE⟩))
  go_ret
  exact ⟨_, rfl, hE⟩
end Go.Proofs.YticckkadmhklmaaGreatDoor
