/- Patterns: the walk of reader.read: literals, offsets, names of types. -/
import Derived.Test.YticckkadmhklmaaGreatDoorK09
import Derived.Test.YticckkadmhklmaaGreatDoorK04
import Derived.Test.YticckkadmhklmaaGreatDoorShelf
namespace Go.Proofs.YticckkadmhklmaaGreatDoor
set_option linter.unusedVariables false
set_option linter.unusedSimpArgs false
open Go.RowKit Go.Maps

theorem cut_l (s p X : List UInt8) (b : Bool) (w : World) (hb : p.isPrefixOf s = b) (hX : (if b then s.drop p.length else s) = X) : Calls Tryz.prog 90 #[.string ⟨s.toArray⟩, .string ⟨p.toArray⟩] w fun e w' => e = .returned (.tuple #[.string ⟨X.toArray⟩, .bool b]) ∧ w = w' := by
  refine (Tryz.strings_CutPrefix ⟨s.toArray⟩ ⟨p.toArray⟩ w).mono ?_
  rintro e w' ⟨rfl, rfl⟩
  refine ⟨?_, rfl⟩
  show Ending.returned (.tuple #[.string ⟨(if p.isPrefixOf s then s.drop p.length else s).toArray⟩, .bool (p.isPrefixOf s)]) = _
  rw [hb, hX]
theorem RdM.ext2 {N : Nms} {B b n : Nat} {s : List UInt8} {c : Bool} {D : DataW Unit} {w : World} (h : RdM N B b s c D n w) (o1 o2 : Obj) : RdM N B b s c D n ((w.alloc o1).alloc o2) := h.ext (((Ext.refl w).alloc o1).alloc o2)
/-- What a reader has read, when a part has been read. -/
def RdPost (N : Nms) (B b : Nat) (p : Prt) (q : Option Prt) (s : List UInt8) (vs : List (Int × Nat)) (w : World) (e : Ending) (w' : World) : Prop :=
  e = .returned (.bool (rd1 N p q s).isSome) ∧ Frm (RdS2 B b) w w' ∧ ∀ n v, rd1 N p q s = some (n, v) → Rdr N B b (s.drop n) (vs ++ v) w'
theorem rd_no {N : Nms} {B b : Nat} {p : Prt} {q : Option Prt} {s : List UInt8} {vs : List (Int × Nat)} {w w' : World} (hrd : rd1 N p q s = none) (hF : Frm (RdS2 B b) w w') : RdPost N B b p q s vs w (.returned (.bool false)) w' :=
  ⟨by rw [hrd]; rfl, hF, fun n v e => by rw [hrd] at e; cases e⟩
theorem rd_yes {N : Nms} {B b : Nat} {p : Prt} {q : Option Prt} {s : List UInt8} {vs : List (Int × Nat)} {w w' : World} {k : Nat} {vs' : List (Int × Nat)} (hrd : rd1 N p q s = some (k, vs')) (hF : Frm (RdS2 B b) w w') (hR : Rdr N B b (s.drop k) (vs ++ vs') w') : RdPost N B b p q s vs w (.returned (.bool true)) w' :=
  ⟨by rw [hrd]; rfl, hF, fun n v e => by rw [hrd] at e; injection e with e; injection e with e1 e2; rw [← e1, ← e2]; exact hR⟩
theorem Frm.put40 {B b : Nat} {w w' : World} (h : Ext w w') (o : Nat) (u : Value) : Frm (RdS2 B b) w (w'.setCell ⟨B, o, none⟩ u) := (Frm.of_ext h).setCell (.inl (.inl rfl)) u
/-- The rest is stored; no value. -/
theorem rd_st {N : Nms} {B b : Nat} {p : Prt} {q : Option Prt} {s X : List UInt8} {vs : List (Int × Nat)} {c : Bool} {D : DataW Unit} {n : Nat} {w w' : World} {k : Nat} (hN : N.ok) (hM : RdM N B b s c D n w) (hE : Ext w w') (hD : RdD vs D) (hnn : n ≤ vs.length) (hcl : c = false ↔ Cons vs) (hX : X = s.drop k) (hrd : rd1 N p q s = some (k, [])) :
    RdPost N B b p q s vs w (.returned (.bool true)) (w'.setCell ⟨B, 40, none⟩ (.string ⟨X.toArray⟩)) := by
  refine rd_yes hrd (Frm.put40 hE 40 _) ?_
  rw [List.append_nil, ← hX]
  exact ⟨c, D, n, (hM.ext hE).set hN 40 _ (.inl ⟨rfl, rfl, rfl⟩), hD, hnn, hcl⟩
set_option maxRecDepth 100000 in
set_option maxHeartbeats 1000000 in
theorem read_lit (N : Nms) (hN : N.ok) (B b : Nat) (q0 : Option Prt) (q : Prt) (s t : List UInt8) (vs : List (Int × Nat)) (wd : Int) (w : World) (h : Rdr N B b s vs w) (hs : s.length ≤ 100000) (ht : t.length ≤ 100000) :
    Calls Tryz.prog 64 #[.pointer (some ⟨B, 0, none⟩), .agg #[.int .i64 1, .int .i64 wd, .string ⟨t.toArray⟩], pv q] w (RdPost N B b ⟨1, wd, t⟩ q0 s vs w) := by
  obtain ⟨c, D, n, hM, hD, hnn, hcl⟩ := h
  obtain ⟨qk, qw, qt⟩ := q
  have hE0 : Ext w ((w.alloc (.cells #[.int .i64 1, .int .i64 wd, .string ⟨t.toArray⟩] 38)).alloc (.cells #[.int .i64 qk, .int .i64 qw, .string ⟨qt.toArray⟩] 38)) := ((Ext.refl w).alloc _).alloc _
  have hM0 := hM.ext hE0
  have hr : rd1 N ⟨1, wd, t⟩ q0 s = if t.isPrefixOf s then some (t.length, []) else none := rfl
  obtain ⟨bo, hbo⟩ : ∃ bo, t.isPrefixOf s = bo := ⟨_, rfl⟩
  obtain ⟨X, hX⟩ : ∃ X, (if bo then s.drop t.length else s) = X := ⟨_, rfl⟩
  have c40 := hM0.rest
  have f40 := hM0.free
  have HM0 := Lib.hid hM0
  have Hb := Lib.hid hbo
  have HX := Lib.hid hX
  have HM := Lib.hid hM
  have HD := Lib.hid hD
  have HC := Lib.hid hcl
  have HN := Lib.hid hN
  have HR := Lib.hid hr
  show Calls _ _ #[_, _, .agg #[.int .i64 qk, .int .i64 qw, .string ⟨qt.toArray⟩]] w _
  clear hbo hX hM hD hcl hN hr hM0
  go_enter Tryz.func64, Tryz.ntmps64
  go_wp2_with fail
  go_quiet ((go_at_call 90; (with_reducible refine Calls.quiet_of_same ((cut_l s t X bo _ Hb.out HX.out).mono fun _ _ q => ⟨q.1, q.2.symm⟩))))
  go_wp2_with fail
  go_ret
  cases bo
  · refine rd_no (by rw [HR.out, Hb.out]; rfl) (Frm.put40 (hE0.drewN _) 40 _)
  · exact rd_st HN.out HM.out (hE0.drewN _) HD.out hnn HC.out HX.out.symm (by rw [HR.out, Hb.out]; rfl)
set_option maxRecDepth 100000 in
set_option maxHeartbeats 1000000 in
theorem read_typ (N : Nms) (hN : N.ok) (B b : Nat) (q0 : Option Prt) (q : Prt) (s t : List UInt8) (vs : List (Int × Nat)) (wd : Int) (w : World) (h : Rdr N B b s vs w) (hs : s.length ≤ 100000) :
    Calls Tryz.prog 64 #[.pointer (some ⟨B, 0, none⟩), .agg #[.int .i64 15, .int .i64 wd, .string ⟨t.toArray⟩], pv q] w (RdPost N B b ⟨15, wd, t⟩ q0 s vs w) := by
  obtain ⟨c, D, n, hM, hD, hnn, hcl⟩ := h
  obtain ⟨qk, qw, qt⟩ := q
  have hE0 : Ext w ((w.alloc (.cells #[.int .i64 15, .int .i64 wd, .string ⟨t.toArray⟩] 38)).alloc (.cells #[.int .i64 qk, .int .i64 qw, .string ⟨qt.toArray⟩] 38)) := ((Ext.refl w).alloc _).alloc _
  have hM0 := hM.ext hE0
  have c40 := hM0.rest
  have f40 := hM0.free
  have HM := Lib.hid hM
  have HD := Lib.hid hD
  have HC := Lib.hid hcl
  have HN := Lib.hid hN
  show Calls _ _ #[_, _, .agg #[.int .i64 qk, .int .i64 qw, .string ⟨qt.toArray⟩]] w _
  clear hM hD hcl hN hM0
  have HR : Hid (rd1 N ⟨15, wd, t⟩ q0 s = if tyN s = 0 then none else some (tyN s, [])) := rfl
  go_enter Tryz.func64, Tryz.ntmps64
  go_upto_region 16 with fail
  generalize (w.alloc (.cells #[.int .i64 15, .int .i64 wd, .string ⟨t.toArray⟩] 38)).alloc (.cells #[.int .i64 qk, .int .i64 qw, .string ⟨qt.toArray⟩] 38) = W at hE0 c40 f40 ⊢
  go_wp2_with fail
  go_loop [11] (fun i => ∃ k : Nat, i = .int .i64 (k : Int) ∧ k ≤ s.length ∧ k ≤ 8 ∧ Hid (∀ j, j < k → ∃ c, (s.take 8)[j]? = some c ∧ tyC c = true)) (fun i => s.length - (intOf i).toNat)
  case atStart => exact ⟨0, rfl, by omega, by omega, fun j hj => absurd hj (Nat.not_lt_zero j)⟩
  case round =>
    obtain ⟨k, rfl, hk, hkn, Hall⟩ := hrel
    by_cases hlt : k < s.length
    · by_cases hln : k < 8
      · have hb := bget s k hlt _ rfl
        have e1 : (s.take 8)[k]? = some s[k] := by rw [List.getElem?_take_of_lt hln]; exact List.getElem?_eq_getElem hlt
        obtain ⟨ch, hc⟩ : ∃ ch, ch = s[k] := ⟨_, rfl⟩
        rw [← hc] at hb e1
        clear hc
        rcases Bool.eq_false_or_eq_true (tyC ch) with hd | hd
        · have Hd := Lib.hid hd
          have Hn : Hid (∀ j, j < k + 1 → ∃ c, (s.take 8)[j]? = some c ∧ tyC c = true) := by
            intro j hj
            by_cases e : j = k
            · rw [e]; exact ⟨ch, e1, hd⟩
            · exact Hall.out j (by omega)
          clear hd e1
          go_wp2_with (first
            | (go_at_call 85; (with_reducible refine (tyC_lit ch true _ Hd.out).mono ?_); rintro e w1 ⟨rfl, rfl⟩))
          go_round
          case rel => exact ⟨k + 1, by go_num, by omega, by omega, Hn⟩
          case measure => simp [intOf]; omega
        · have Hd := Lib.hid hd
          have HE : Hid (tyN s = k) := twl_eq _ k Hall.out (fun c' h' => by rw [e1] at h'; rw [← Option.some.inj h']; exact hd)
          clear hd e1
          by_cases hk0 : k = 0
          · subst hk0
            go_wp2_with (first
              | (go_at_call 85; (with_reducible refine (tyC_lit ch false _ Hd.out).mono ?_); rintro e w1 ⟨rfl, rfl⟩))
            go_ret
            exact rd_no (by rw [HR.out, HE.out]; rfl) (Frm.of_ext hE0)
          · have HR2 : Hid (rd1 N ⟨15, wd, t⟩ q0 s = some (k, [])) := by rw [Hid, HR.out, HE.out, if_neg hk0]
            have h1k : (1 : Int) ≤ (k : Int) := by omega
            have hdr := bdrop s k
            clear hk0
            go_wp2_with (first
              | (go_at_call 85; (with_reducible refine (tyC_lit ch false _ Hd.out).mono ?_); rintro e w1 ⟨rfl, rfl⟩))
            go_ret
            exact rd_st HN.out HM.out hE0 HD.out hnn HC.out rfl HR2.out
      · obtain rfl : k = 8 := by omega
        have HE : Hid (tyN s = 8) := twl_eq _ 8 Hall.out (fun c' h' => by rw [List.getElem?_eq_none (by rw [List.length_take]; omega)] at h'; cases h')
        have HR2 : Hid (rd1 N ⟨15, wd, t⟩ q0 s = some (8, [])) := by rw [Hid, HR.out, HE.out]; rfl
        have hdr := bdrop s 8
        go_wp2_with fail
        go_ret
        exact rd_st HN.out HM.out hE0 HD.out hnn HC.out rfl HR2.out
    · obtain rfl : k = s.length := by omega
      have HE : Hid (tyN s = s.length) := twl_eq _ _ Hall.out (fun c' h' => by rw [List.getElem?_eq_none (by rw [List.length_take]; omega)] at h'; cases h')
      by_cases hk0 : s.length = 0
      · have HR2 : Hid (rd1 N ⟨15, wd, t⟩ q0 s = none) := by rw [Hid, HR.out, HE.out, if_pos hk0]
        clear hlt hk hkn hs
        go_wp2_with fail
        go_ret
        exact rd_no HR2.out (Frm.of_ext hE0)
      · have HR2 : Hid (rd1 N ⟨15, wd, t⟩ q0 s = some (s.length, [])) := by rw [Hid, HR.out, HE.out, if_neg hk0]
        have h1k : (1 : Int) ≤ (s.length : Int) := by omega
        have hdr := bdrop s s.length
        clear hk0 hlt
        by_cases hk8 : s.length < 8
        · go_wp2_with fail
          go_ret
          exact rd_st HN.out HM.out hE0 HD.out hnn HC.out List.drop_length.symm HR2.out
        · have hk8' : s.length = 8 := by omega
          clear hk8 hkn hk hs h1k
          go_wp2_with fail
          go_ret
          exact rd_st HN.out HM.out hE0 HD.out hnn HC.out List.drop_length.symm HR2.out
theorem digits_l (s : List UInt8) (n v : Nat) (w : World) (hs : s.length ≤ 1000000) (hn : n ≤ 1000) (hv : digN s n = v) :
    Calls Tryz.prog 91 #[.string ⟨s.toArray⟩, .int .i64 (n : Int)] w fun e w' => e = .returned (.int .i64 (v : Int)) ∧ w = w' := by
  rw [← hv]; exact digits_c s n w (by omega) hn
theorem digits_2 (s : List UInt8) (v : Nat) (w : World) (hs : s.length ≤ 1000000) (hv : digN s 2 = v) :
    Calls Tryz.prog 91 #[.string ⟨s.toArray⟩, .int .i64 2] w fun e w' => e = .returned (.int .i64 (v : Int)) ∧ w = w' := digits_l s 2 v w hs (by decide) hv
theorem colon_3 (s : List UInt8) (b : Bool) (w : World) (hs : s.length ≤ 1000000) (hv : colB s 3 = b) :
    Calls Tryz.prog 92 #[.string ⟨s.toArray⟩, .int .i64 3] w fun e w' => e = .returned (.bool b) ∧ w = w' := by
  rw [← hv]; exact colon_c s 3 w (by omega) (by decide)
theorem colon_6 (s : List UInt8) (b : Bool) (w : World) (hs : s.length ≤ 1000000) (hv : colB s 6 = b) :
    Calls Tryz.prog 92 #[.string ⟨s.toArray⟩, .int .i64 6] w fun e w' => e = .returned (.bool b) ∧ w = w' := by
  rw [← hv]; exact colon_c s 6 w (by omega) (by decide)
set_option maxRecDepth 100000 in
set_option maxHeartbeats 1000000 in
theorem read_off (N : Nms) (hN : N.ok) (B b : Nat) (q0 : Option Prt) (q : Prt) (s t : List UInt8) (vs : List (Int × Nat)) (wd : Int) (w : World) (h : Rdr N B b s vs w) (hs : s.length ≤ 100000) :
    Calls Tryz.prog 64 #[.pointer (some ⟨B, 0, none⟩), .agg #[.int .i64 14, .int .i64 wd, .string ⟨t.toArray⟩], pv q] w (RdPost N B b ⟨14, wd, t⟩ q0 s vs w) := by
  obtain ⟨c, D, n, hM, hD, hnn, hcl⟩ := h
  obtain ⟨qk, qw, qt⟩ := q
  have hE0 : Ext w ((w.alloc (.cells #[.int .i64 14, .int .i64 wd, .string ⟨t.toArray⟩] 38)).alloc (.cells #[.int .i64 qk, .int .i64 qw, .string ⟨qt.toArray⟩] 38)) := ((Ext.refl w).alloc _).alloc _
  have hM0 := hM.ext hE0
  have c40 := hM0.rest
  have f40 := hM0.free
  have HM := Lib.hid hM
  have HD := Lib.hid hD
  have HC := Lib.hid hcl
  have HN := Lib.hid hN
  show Calls _ _ #[_, _, .agg #[.int .i64 qk, .int .i64 qw, .string ⟨qt.toArray⟩]] w _
  clear hM hD hcl hN hM0
  have HR : Hid (rd1 N ⟨14, wd, t⟩ q0 s = if offB s then some (if colB s 6 then 9 else 6, []) else none) := rfl
  by_cases h6 : 6 ≤ s.length
  · have b0 := bget s 0 (by omega) _ rfl
    have e0 : s.headD 0 = s[0] := by cases s with | nil => simp at h6 | cons c r => rfl
    have hd1 := bdrop s 1
    have hld : (s.drop 1).length ≤ 1000000 := by rw [List.length_drop]; omega
    have HO' : Hid (offB s = (decide (6 ≤ s.length) && (decide (s.headD 0 = 43) || decide (s.headD 0 = 45)) && decide (digN (s.drop 1) 2 = 2) && colB s 3)) := rfl
    obtain ⟨r, hr⟩ : ∃ r, r = s.drop 1 := ⟨_, rfl⟩
    rw [← hr] at hd1 hld HO'
    have Hld := Lib.hid hld
    clear hr hld
    have h6' : (6 : Int) ≤ (s.length : Int) := by omega
    obtain ⟨c0, hc0⟩ : ∃ c0, c0 = s[0] := ⟨_, rfl⟩
    rw [← hc0] at b0 e0
    clear hc0
    have HO : Hid (offB s = ((decide (c0 = 43) || decide (c0 = 45)) && decide (digN r 2 = 2) && colB s 3)) := by
      rw [Hid, HO'.out, decide_eq_true h6, e0, Bool.true_and]
    clear HO'
    by_cases hc : c0 = 43 ∨ c0 = 45
    · have HO2 : Hid (offB s = (decide (digN r 2 = 2) && colB s 3)) := by
        rw [Hid, HO.out]; rcases hc with rfl | rfl <;> simp
      have hc2 : ((c0.toNat : Int) != 43) = false ∨ (((c0.toNat : Int) != 43) = true ∧ ((c0.toNat : Int) != 45) = false) := by
        rcases hc with rfl | rfl
        · exact .inl rfl
        · exact .inr ⟨rfl, rfl⟩
      obtain ⟨m, hm⟩ : ∃ m, digN r 2 = m := ⟨_, rfl⟩
      have Hm := Lib.hid hm
      rw [hm] at HO2
      clear HO e0 hm hc
      by_cases hm2 : m = 2
      · subst hm2
        have HO3 : Hid (offB s = colB s 3) := by rw [Hid, HO2.out]; simp
        clear HO2
        rcases Bool.eq_false_or_eq_true (colB s 3) with h3 | h3
        · have H3 := Lib.hid h3
          rcases Bool.eq_false_or_eq_true (colB s 6) with h9 | h9
          · have H9 := Lib.hid h9
            have hl9 : 9 ≤ s.length := by
              unfold colB at h9
              simp only [Bool.and_eq_true, decide_eq_true_eq] at h9
              omega
            have hl9' : (9 : Int) ≤ (s.length : Int) := by omega
            have HR2 : Hid (rd1 N ⟨14, wd, t⟩ q0 s = some (9, [])) := by rw [Hid, HR.out, HO3.out, h3, h9]; rfl
            have hd9 := bdrop s 9
            clear h3 h9 HO3
            rcases hc2 with t1 | ⟨t1, t2⟩
            · go_enter Tryz.func64, Tryz.ntmps64
              go_upto_region 7 with fail
              generalize (w.alloc (.cells #[.int .i64 14, .int .i64 wd, .string ⟨t.toArray⟩] 38)).alloc (.cells #[.int .i64 qk, .int .i64 qw, .string ⟨qt.toArray⟩] 38) = W at hE0 c40 f40 ⊢
              go_wp2_with (first
                | (go_at_call 91; (with_reducible refine (digits_2 r 2 _ Hld.out Hm.out).mono ?_); rintro e w1 ⟨rfl, rfl⟩)
                | (go_at_call 92; (with_reducible refine (colon_3 s true _ (by omega) H3.out).mono ?_); rintro e w1 ⟨rfl, rfl⟩)
                | (go_at_call 92; (with_reducible refine (colon_6 s true _ (by omega) H9.out).mono ?_); rintro e w1 ⟨rfl, rfl⟩))
              go_ret
              exact rd_st HN.out HM.out hE0 HD.out hnn HC.out rfl HR2.out
            · go_enter Tryz.func64, Tryz.ntmps64
              go_upto_region 7 with fail
              generalize (w.alloc (.cells #[.int .i64 14, .int .i64 wd, .string ⟨t.toArray⟩] 38)).alloc (.cells #[.int .i64 qk, .int .i64 qw, .string ⟨qt.toArray⟩] 38) = W at hE0 c40 f40 ⊢
              go_wp2_with (first
                | (go_at_call 91; (with_reducible refine (digits_2 r 2 _ Hld.out Hm.out).mono ?_); rintro e w1 ⟨rfl, rfl⟩)
                | (go_at_call 92; (with_reducible refine (colon_3 s true _ (by omega) H3.out).mono ?_); rintro e w1 ⟨rfl, rfl⟩)
                | (go_at_call 92; (with_reducible refine (colon_6 s true _ (by omega) H9.out).mono ?_); rintro e w1 ⟨rfl, rfl⟩))
              go_ret
              exact rd_st HN.out HM.out hE0 HD.out hnn HC.out rfl HR2.out
          · have H9 := Lib.hid h9
            have HR2 : Hid (rd1 N ⟨14, wd, t⟩ q0 s = some (6, [])) := by rw [Hid, HR.out, HO3.out, h3, h9]; rfl
            have hd6 := bdrop s 6
            clear h3 h9 HO3
            rcases hc2 with t1 | ⟨t1, t2⟩
            · go_enter Tryz.func64, Tryz.ntmps64
              go_upto_region 7 with fail
              generalize (w.alloc (.cells #[.int .i64 14, .int .i64 wd, .string ⟨t.toArray⟩] 38)).alloc (.cells #[.int .i64 qk, .int .i64 qw, .string ⟨qt.toArray⟩] 38) = W at hE0 c40 f40 ⊢
              go_wp2_with (first
                | (go_at_call 91; (with_reducible refine (digits_2 r 2 _ Hld.out Hm.out).mono ?_); rintro e w1 ⟨rfl, rfl⟩)
                | (go_at_call 92; (with_reducible refine (colon_3 s true _ (by omega) H3.out).mono ?_); rintro e w1 ⟨rfl, rfl⟩)
                | (go_at_call 92; (with_reducible refine (colon_6 s false _ (by omega) H9.out).mono ?_); rintro e w1 ⟨rfl, rfl⟩))
              go_ret
              exact rd_st HN.out HM.out hE0 HD.out hnn HC.out rfl HR2.out
            · go_enter Tryz.func64, Tryz.ntmps64
              go_upto_region 7 with fail
              generalize (w.alloc (.cells #[.int .i64 14, .int .i64 wd, .string ⟨t.toArray⟩] 38)).alloc (.cells #[.int .i64 qk, .int .i64 qw, .string ⟨qt.toArray⟩] 38) = W at hE0 c40 f40 ⊢
              go_wp2_with (first
                | (go_at_call 91; (with_reducible refine (digits_2 r 2 _ Hld.out Hm.out).mono ?_); rintro e w1 ⟨rfl, rfl⟩)
                | (go_at_call 92; (with_reducible refine (colon_3 s true _ (by omega) H3.out).mono ?_); rintro e w1 ⟨rfl, rfl⟩)
                | (go_at_call 92; (with_reducible refine (colon_6 s false _ (by omega) H9.out).mono ?_); rintro e w1 ⟨rfl, rfl⟩))
              go_ret
              exact rd_st HN.out HM.out hE0 HD.out hnn HC.out rfl HR2.out
        · have H3 := Lib.hid h3
          have HR2 : Hid (rd1 N ⟨14, wd, t⟩ q0 s = none) := by rw [Hid, HR.out, HO3.out, h3]; rfl
          clear h3 HO3
          rcases hc2 with t1 | ⟨t1, t2⟩
          · go_enter Tryz.func64, Tryz.ntmps64
            go_upto_region 7 with fail
            generalize (w.alloc (.cells #[.int .i64 14, .int .i64 wd, .string ⟨t.toArray⟩] 38)).alloc (.cells #[.int .i64 qk, .int .i64 qw, .string ⟨qt.toArray⟩] 38) = W at hE0 c40 f40 ⊢
            go_wp2_with (first
              | (go_at_call 91; (with_reducible refine (digits_2 r 2 _ Hld.out Hm.out).mono ?_); rintro e w1 ⟨rfl, rfl⟩)
              | (go_at_call 92; (with_reducible refine (colon_3 s false _ (by omega) H3.out).mono ?_); rintro e w1 ⟨rfl, rfl⟩))
            go_ret
            exact rd_no HR2.out (Frm.of_ext hE0)
          · go_enter Tryz.func64, Tryz.ntmps64
            go_upto_region 7 with fail
            generalize (w.alloc (.cells #[.int .i64 14, .int .i64 wd, .string ⟨t.toArray⟩] 38)).alloc (.cells #[.int .i64 qk, .int .i64 qw, .string ⟨qt.toArray⟩] 38) = W at hE0 c40 f40 ⊢
            go_wp2_with (first
              | (go_at_call 91; (with_reducible refine (digits_2 r 2 _ Hld.out Hm.out).mono ?_); rintro e w1 ⟨rfl, rfl⟩)
              | (go_at_call 92; (with_reducible refine (colon_3 s false _ (by omega) H3.out).mono ?_); rintro e w1 ⟨rfl, rfl⟩))
            go_ret
            exact rd_no HR2.out (Frm.of_ext hE0)
      · have HR2 : Hid (rd1 N ⟨14, wd, t⟩ q0 s = none) := by rw [Hid, HR.out, HO2.out, decide_eq_false hm2]; rfl
        have tm : ((m : Int) != 2) = true := by rw [bne_iff_ne]; omega
        clear HO2 hm2
        rcases hc2 with t1 | ⟨t1, t2⟩
        · go_enter Tryz.func64, Tryz.ntmps64
          go_upto_region 7 with fail
          generalize (w.alloc (.cells #[.int .i64 14, .int .i64 wd, .string ⟨t.toArray⟩] 38)).alloc (.cells #[.int .i64 qk, .int .i64 qw, .string ⟨qt.toArray⟩] 38) = W at hE0 c40 f40 ⊢
          go_wp2_with (first
            | (go_at_call 91; (with_reducible refine (digits_2 r m _ Hld.out Hm.out).mono ?_); rintro e w1 ⟨rfl, rfl⟩))
          go_ret
          exact rd_no HR2.out (Frm.of_ext hE0)
        · go_enter Tryz.func64, Tryz.ntmps64
          go_upto_region 7 with fail
          generalize (w.alloc (.cells #[.int .i64 14, .int .i64 wd, .string ⟨t.toArray⟩] 38)).alloc (.cells #[.int .i64 qk, .int .i64 qw, .string ⟨qt.toArray⟩] 38) = W at hE0 c40 f40 ⊢
          go_wp2_with (first
            | (go_at_call 91; (with_reducible refine (digits_2 r m _ Hld.out Hm.out).mono ?_); rintro e w1 ⟨rfl, rfl⟩))
          go_ret
          exact rd_no HR2.out (Frm.of_ext hE0)
    · have n1 : ¬ c0 = 43 := fun e => hc (.inl e)
      have n2 : ¬ c0 = 45 := fun e => hc (.inr e)
      have HR2 : Hid (rd1 N ⟨14, wd, t⟩ q0 s = none) := by rw [Hid, HR.out, HO.out, decide_eq_false n1, decide_eq_false n2]; rfl
      have e1 : ¬ c0.toNat = 43 := u8_ne (by decide) n1
      have e2 : ¬ c0.toNat = 45 := u8_ne (by decide) n2
      have t1 : ((c0.toNat : Int) != 43) = true := by rw [bne_iff_ne]; omega
      have t2 : ((c0.toNat : Int) != 45) = true := by rw [bne_iff_ne]; omega
      clear hc n1 n2 HO e0 e1 e2
      go_enter Tryz.func64, Tryz.ntmps64
      go_upto_region 7 with fail
      generalize (w.alloc (.cells #[.int .i64 14, .int .i64 wd, .string ⟨t.toArray⟩] 38)).alloc (.cells #[.int .i64 qk, .int .i64 qw, .string ⟨qt.toArray⟩] 38) = W at hE0 c40 f40 ⊢
      go_wp2_with fail
      go_ret
      exact rd_no HR2.out (Frm.of_ext hE0)
  · have HR2 : Hid (rd1 N ⟨14, wd, t⟩ q0 s = none) := by
      rw [Hid, HR.out]; unfold offB; rw [decide_eq_false h6]; rfl
    have h6' : (s.length : Int) < 6 := by omega
    clear h6
    go_enter Tryz.func64, Tryz.ntmps64
    go_upto_region 7 with fail
    generalize (w.alloc (.cells #[.int .i64 14, .int .i64 wd, .string ⟨t.toArray⟩] 38)).alloc (.cells #[.int .i64 qk, .int .i64 qw, .string ⟨qt.toArray⟩] 38) = W at hE0 c40 f40 ⊢
    go_wp2_with fail
    go_ret
    exact rd_no HR2.out (Frm.of_ext hE0)
end Go.Proofs.YticckkadmhklmaaGreatDoor
