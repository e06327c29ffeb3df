/- The walks of package clock and of its reference: times of day, instants, moments. -/
import Derived.Test.YticckkadmhklmaaGreatDoorK01
import Derived.Test.YticckkadmhklmaaGreatDoorK00
namespace Go.Proofs.YticckkadmhklmaaGreatDoor
open Go.RowKit

def tmB (h m s : Int) : Bool := decide (0 ≤ h ∧ h ≤ 23 ∧ 0 ≤ m ∧ m ≤ 59 ∧ 0 ≤ s ∧ s ≤ 59)
def secs (h m s : Int) : Int := 3600 * h + 60 * m + s
def sdB (s : Int) : Bool := decide (0 ≤ s ∧ s < 86400)
def insT (t : Int) : Bool := decide (-62135596800 ≤ t ∧ t < 253402300800)
theorem tm_iff {h m s : Int} : tmB h m s = true ↔ 0 ≤ h ∧ h ≤ 23 ∧ 0 ≤ m ∧ m ≤ 59 ∧ 0 ≤ s ∧ s ≤ 59 := by unfold tmB; simp
theorem tm_no {h m s : Int} (q : tmB h m s = false) : ¬ (0 ≤ h ∧ h ≤ 23 ∧ 0 ≤ m ∧ m ≤ 59 ∧ 0 ≤ s ∧ s ≤ 59) := by
  intro k
  rw [tm_iff.2 k] at q
  cases q
theorem ins_iff {n : Int} : insB n = true ↔ -719162 ≤ n ∧ n < 2932897 := by unfold insB; simp
theorem ins_no {n : Int} (h : insB n = false) : ¬ (-719162 ≤ n ∧ n < 2932897) := by intro k; rw [ins_iff.2 k] at h; cases h
theorem insT_iff {n : Int} : insT n = true ↔ -62135596800 ≤ n ∧ n < 253402300800 := by unfold insT; simp
theorem insT_no {n : Int} (h : insT n = false) : ¬ (-62135596800 ≤ n ∧ n < 253402300800) := by intro k; rw [insT_iff.2 k] at h; cases h
theorem sd_iff {n : Int} : sdB n = true ↔ 0 ≤ n ∧ n < 86400 := by unfold sdB; simp
theorem sd_no {n : Int} (h : sdB n = false) : ¬ (0 ≤ n ∧ n < 86400) := by intro k; rw [sd_iff.2 k] at h; cases h

set_option maxHeartbeats 400000 in
theorem seconds_yes (h m s : Int) (w : World) (hv : tmB h m s = true) : Calls Tryz.prog 117 #[.agg #[.int .i64 h, .int .i64 m, .int .i64 s]] w fun e w' => e = .returned (.tuple #[.int .i64 (secs h m s), .int .i64 0]) ∧ Ext w w' := by
  obtain ⟨a, b, c, d, f, g⟩ := tm_iff.1 hv
  unfold secs
  go_enter Tryz.func117, Tryz.ntmps117
  go_wp2
  go_ret2
  exact ⟨rfl, (Ext.refl w).alloc _⟩
set_option maxHeartbeats 400000 in
theorem seconds_no (h m s : Int) (w : World) (hv : tmB h m s = false) : Calls Tryz.prog 117 #[.agg #[.int .i64 h, .int .i64 m, .int .i64 s]] w fun e w' => e = .returned (.tuple #[.int .i64 0, .int .i64 1]) ∧ Ext w w' := by
  have Hn := Lib.hid (tm_no hv)
  go_enter Tryz.func117, Tryz.ntmps117
  go_wp2
  all_goals first
    | (go_ret2
       exact ⟨rfl, (Ext.refl w).alloc _⟩)
    | (exfalso; have := Hn.out; first | omega | (simp_all; done) | (simp_all; omega))
set_option maxHeartbeats 400000 in
theorem time_yes (s : Int) (w : World) (hv : sdB s = true) : Calls Tryz.prog 111 #[.int .i64 s] w fun e w' => e = .returned (.tuple #[.agg #[.int .i64 (s / 3600), .int .i64 (s / 60 % 60), .int .i64 (s % 60)], .int .i64 0]) ∧ Ext w w' := by
  obtain ⟨a, b⟩ := sd_iff.1 hv
  have : 0 ≤ s / 60 := by omega
  go_enter Tryz.func111, Tryz.ntmps111
  go_wp2
  exact bodyPost_ret (v := .tuple #[.agg #[.int .i64 (s / 3600), .int .i64 (s / 60 % 60), .int .i64 (s % 60)], .int .i64 0]) (by simp [results, Tryz.results111, go_sem]) rfl ⟨rfl, ((Ext.refl w).alloc _)⟩
set_option maxHeartbeats 400000 in
theorem time_no (s : Int) (w : World) (hv : sdB s = false) : Calls Tryz.prog 111 #[.int .i64 s] w fun e w' => e = .returned (.tuple #[.agg #[.int .i64 0, .int .i64 0, .int .i64 0], .int .i64 2]) ∧ Ext w w' := by
  have hn := sd_no hv
  by_cases a : s < 0
  all_goals
    go_enter Tryz.func111, Tryz.ntmps111
    go_wp2
    exact bodyPost_ret (v := .tuple #[.agg #[.int .i64 0, .int .i64 0, .int .i64 0], .int .i64 2]) (by simp [results, Tryz.results111, go_sem]) rfl ⟨rfl, ((Ext.refl w).alloc _)⟩
set_option maxHeartbeats 400000 in
theorem at_yes (n s : Int) (w : World) (h1 : insB n = true) (h2 : sdB s = true) : Calls Tryz.prog 118 #[.int .i64 n, .int .i64 s] w fun e w' => e = .returned (.tuple #[.int .i64 (86400 * n + s), .int .i64 0]) ∧ w = w' := by
  obtain ⟨a, b⟩ := ins_iff.1 h1
  obtain ⟨c, d⟩ := sd_iff.1 h2
  go_enter Tryz.func118, Tryz.ntmps118
  go_wp2
  go_ret2
  exact ⟨ret_i2 (by omega) rfl, rfl⟩
set_option maxHeartbeats 400000 in
theorem at_no (n s : Int) (w : World) (h : ¬ (insB n = true ∧ sdB s = true)) : Calls Tryz.prog 118 #[.int .i64 n, .int .i64 s] w fun e w' => e = .returned (.tuple #[.int .i64 0, .int .i64 2]) ∧ w = w' := by
  rw [ins_iff, sd_iff] at h
  by_cases a : n < -719162
  · go_enter Tryz.func118, Tryz.ntmps118
    go_wp2
    go_ret2
    exact ⟨rfl, rfl⟩
  · by_cases b : 2932897 ≤ n
    · go_enter Tryz.func118, Tryz.ntmps118
      go_wp2
      go_ret2
      exact ⟨rfl, rfl⟩
    · by_cases c : s < 0
      · go_enter Tryz.func118, Tryz.ntmps118
        go_wp2
        go_ret2
        exact ⟨rfl, rfl⟩
      · have d : 86400 ≤ s := by omega
        go_enter Tryz.func118, Tryz.ntmps118
        go_wp2
        go_ret2
        exact ⟨rfl, rfl⟩

set_option maxHeartbeats 400000 in
theorem split_yes (t : Int) (w : World) (h : insT t = true) : Calls Tryz.prog 87 #[.int .i64 t] w fun e w' => e = .returned (.tuple #[.int .i64 (t / 86400), .int .i64 (t % 86400), .int .i64 0]) ∧ ∃ n, w.drewN n = w' := by
  obtain ⟨a, b⟩ := insT_iff.1 h
  go_enter Tryz.func87, Tryz.ntmps87
  go_wp2_with (go_at_call 112; refine (Div_c _ _ _ (by omega) (by omega) (by omega) (by omega)).mono ?_; rintro e w' ⟨rfl, nq, rfl⟩)
  go_ret3
  exact ⟨rfl, _, rfl⟩
set_option maxHeartbeats 400000 in
theorem split_no (t : Int) (w : World) (h : insT t = false) : Calls Tryz.prog 87 #[.int .i64 t] w fun e w' => e = .returned (.tuple #[.int .i64 0, .int .i64 0, .int .i64 2]) ∧ ∃ n, w.drewN n = w' := by
  have hn := insT_no h
  by_cases a : t < -62135596800
  all_goals
    go_enter Tryz.func87, Tryz.ntmps87
    go_wp2
    go_ret3
    exact ⟨rfl, 0, rfl⟩
end Go.Proofs.YticckkadmhklmaaGreatDoor
/- The walks of package clock and of its reference: moments; rounding. -/
namespace Go.Proofs.YticckkadmhklmaaGreatDoor
open Go.RowKit

/-- The instant of a moment. -/
def inst (y m d h mi s : Int) : Int := 86400 * dn y m d + secs h mi s
theorem secs_bd {h m s : Int} (q : tmB h m s = true) : 0 ≤ secs h m s ∧ secs h m s < 86400 := by
  have := tm_iff.1 q
  unfold secs; omega
theorem sd_of_tm {h m s : Int} (q : tmB h m s = true) : sdB (secs h m s) = true := sd_iff.2 (secs_bd q)
theorem ins_of_vld {y m d : Int} (h : vldB y m d = true) : insB (dn y m d) = true := ins_iff.2 (dn_bd h)
theorem ret_ai {v : Value} {k : IntKind} {a a' : Int} (h : a = a') : Ending.returned (.tuple #[v, .int k a]) = .returned (.tuple #[v, .int k a']) := by rw [h]

set_option maxHeartbeats 400000 in
theorem of_yes (y m d h mi s : Int) (w : World) (hv : vldB y m d = true) (ht : tmB h mi s = true) :
    Calls Tryz.prog 96 #[.agg #[.int .i64 y, .int .i64 m, .int .i64 d, .int .i64 h, .int .i64 mi, .int .i64 s]] w fun e w' => e = .returned (.tuple #[.int .i64 (inst y m d h mi s), .int .i64 0]) ∧ Ext w w' := by
  go_enter Tryz.func96, Tryz.ntmps96
  go_wp2_with (first
    | (go_at_call 116; refine (day_yes _ _ _ _ hv).mono ?_; rintro e w1 ⟨rfl, hE⟩; have hc := hE.cells; have hz := hE.size)
    | (go_at_call 117; refine (seconds_yes _ _ _ _ ht).mono ?_; rintro e w2 ⟨rfl, hE2⟩)
    | (go_at_call 118; refine (at_yes _ _ _ (ins_of_vld hv) (sd_of_tm ht)).mono ?_; rintro e w3 ⟨rfl, rfl⟩))
  go_ret2
  exact ⟨rfl, (((Ext.refl w).alloc _).trans hE).trans hE2⟩
set_option maxHeartbeats 400000 in
theorem of_no (y m d h mi s : Int) (w : World) (hv : ¬ (vldB y m d = true ∧ tmB h mi s = true)) :
    Calls Tryz.prog 96 #[.agg #[.int .i64 y, .int .i64 m, .int .i64 d, .int .i64 h, .int .i64 mi, .int .i64 s]] w fun e w' => e = .returned (.tuple #[.int .i64 0, .int .i64 1]) ∧ Ext w w' := by
  rcases Bool.eq_false_or_eq_true (vldB y m d) with h1 | h1
  · have ht : tmB h mi s = false := by simpa [h1] using hv
    clear hv
    go_enter Tryz.func96, Tryz.ntmps96
    go_wp2_with (first
      | (go_at_call 116; refine (day_yes _ _ _ _ h1).mono ?_; rintro e w1 ⟨rfl, hE⟩; have hc := hE.cells; have hz := hE.size)
      | (go_at_call 117; refine (seconds_no _ _ _ _ ht).mono ?_; rintro e w2 ⟨rfl, hE2⟩))
    go_ret2
    exact ⟨rfl, (((Ext.refl w).alloc _).trans hE).trans hE2⟩
  · clear hv
    rcases Bool.eq_false_or_eq_true (tmB h mi s) with ht | ht
    · go_enter Tryz.func96, Tryz.ntmps96
      go_wp2_with (first
        | (go_at_call 116; refine (day_no _ _ _ _ h1).mono ?_; rintro e w1 ⟨rfl, hE⟩; have hc := hE.cells; have hz := hE.size)
        | (go_at_call 117; refine (seconds_yes _ _ _ _ ht).mono ?_; rintro e w2 ⟨rfl, hE2⟩))
      go_ret2
      exact ⟨rfl, (((Ext.refl w).alloc _).trans hE).trans hE2⟩
    · go_enter Tryz.func96, Tryz.ntmps96
      go_wp2_with (first
        | (go_at_call 116; refine (day_no _ _ _ _ h1).mono ?_; rintro e w1 ⟨rfl, hE⟩; have hc := hE.cells; have hz := hE.size)
        | (go_at_call 117; refine (seconds_no _ _ _ _ ht).mono ?_; rintro e w2 ⟨rfl, hE2⟩))
      go_ret2
      exact ⟨rfl, (((Ext.refl w).alloc _).trans hE).trans hE2⟩

theorem split_sd (t : Int) : sdB (t % 86400) = true := sd_iff.2 (by omega)
theorem split_ins {t : Int} (h : insT t = true) : insB (t / 86400) = true := by
  have := insT_iff.1 h
  exact ins_iff.2 (by omega)
/-- What the functions of the name Moment give for an instant t. -/
def momv (t y m d : Int) : Value := .agg #[.int .i64 y, .int .i64 m, .int .i64 d, .int .i64 (t % 86400 / 3600), .int .i64 (t % 86400 / 60 % 60), .int .i64 (t % 86400 % 60)]

set_option maxHeartbeats 1000000 in
theorem moment_yes (t : Int) (w : World) (h : insT t = true) :
    Calls Tryz.prog 86 #[.int .i64 t] w fun e w' => ∃ y m d : Int, e = .returned (.tuple #[momv t y m d, .int .i64 0]) ∧ IsDate (t / 86400) y m d ∧ Ext w w' := by
  go_enter Tryz.func86, Tryz.ntmps86
  go_wp2_with (first
    | (go_at_call 87; refine (split_yes _ _ h).mono ?_; rintro e w1 ⟨rfl, nq, rfl⟩)
    | (go_at_call 110; refine (date_yes _ _ (split_ins h)).mono ?_; rintro e w2 ⟨y, m, d, rfl, hD, hE⟩; have hc := hE.cells; have hf := hE.frozens; have hz : w.heap.size < w2.heap.size := (by have := hE.size; simp at this; omega))
    | (go_at_call 111; refine (time_yes _ _ (split_sd t)).mono ?_; rintro e w3 ⟨rfl, hE2⟩; have hc2 := hE2.cells; have hf2 := hE2.frozens; have hz2 : w2.heap.size < w3.heap.size := (by have := hE2.size; simp at this; omega); have hz3 : w.heap.size < w3.heap.size := (by omega)))
  have c0 : ∀ o, w3.cell? ⟨w.heap.size, o, none⟩ = (#[.int .i64 0, .int .i64 0, .int .i64 0, .int .i64 0, .int .i64 0, .int .i64 0] : Array Value)[o]? := by
    intro o
    rw [hc2 _ _ (by simp; omega), World.cell?_alloc_lt _ _ _ hz, hc _ _ (by simp)]
    exact World.cell?_alloc_new _ _ _ _
  refine bodyPost_ret (v := .tuple #[momv t y m d, .int .i64 0]) ?_ rfl ⟨y, m, d, rfl, hD, ?_⟩
  · simp [results, Tryz.results86, go_sem, momv, c0, hz3]
  · refine Ext.alloc ?_ _
    iterate 6 refine Ext.setCell ?_ (by simp) _
    exact (((Ext.refl w).alloc _).drewN _).trans (hE.trans (((Ext.refl _).alloc _).trans hE2))
end Go.Proofs.YticckkadmhklmaaGreatDoor
/- Patterns, plainly: the local time of the values that were read. No program in sight. -/
namespace Go.Proofs.YticckkadmhklmaaGreatDoor
set_option linter.unusedVariables false
set_option linter.unusedSimpArgs false

/-- The hour, as the program finds it. -/
def hourP (f : Int → Option Nat) : Nat × Bool :=
  match f 10, f 9 with
  | some t, some h => if t < 1 ∨ 12 < t then (0, false) else (h, !decide (t % 12 ≠ h % 12) && !(match f 13 with | some x => decide (x ≠ h / 12) | none => false))
  | some t, none => if t < 1 ∨ 12 < t then (0, false) else (t % 12 + 12 * (f 13).getD 0, true)
  | none, some h => (h, !(match f 13 with | some x => decide (x ≠ h / 12) | none => false))
  | none, none => (0, true)
/-- The weekday of a day. -/
def wdZ (n : Int) : Int := (n + 3) % 7 + 1
/-- The local time of the values f; whether there is one. -/
def momP (f : Int → Option Nat) (clash : Bool) : Int × Bool :=
  if clash = true ∨ (sameF f 1 false [3, 4, 5]).2 = false ∨ (sameF f 0 false [7, 8]).2 = false ∨ (hourP f).2 = false then (0, false)
  else
    let y : Int := ((f 2).getD 1970 : Nat)
    let mo := (sameF f 1 false [3, 4, 5]).1
    let d : Int := ((f 6).getD 1 : Nat)
    let h : Int := (hourP f).1
    let mi : Int := ((f 11).getD 0 : Nat)
    let s : Int := ((f 12).getD 0 : Nat)
    if vldB y mo d = true ∧ tmB h mi s = true then (inst y mo d h mi s, decide ((sameF f 0 false [7, 8]).1 = 0) || decide (wdZ (dn y mo d) = (sameF f 0 false [7, 8]).1)) else (0, false)
/-- F holds the fields of the instant t. -/
structure IsF (F : Fv) (t : Int) : Prop where
  vld : vldB F.y F.mo F.d = true
  day : dn F.y F.mo F.d = t / 86400
  h : (F.h : Int) = t % 86400 / 3600
  mi : (F.mi : Int) = t % 86400 / 60 % 60
  s : (F.s : Int) = t % 86400 % 60
  wd : (F.wd : Int) = wdZ (t / 86400)
theorem IsF.ok {F : Fv} {t : Int} (h : IsF F t) : F.ok := by
  obtain ⟨a, b, c, d, e, f, _⟩ := vld_parts h.vld
  have h1 := h.h; have h2 := h.mi; have h3 := h.s; have h4 := h.wd
  unfold wdZ at h4
  exact ⟨by omega, by omega, by omega, by omega, by omega, by omega, by omega, by omega, by omega, by omega, by omega⟩
theorem IsF.inst {F : Fv} {t : Int} (h : IsF F t) : Go.Proofs.YticckkadmhklmaaGreatDoor.inst F.y F.mo F.d F.h F.mi F.s = t ∧ tmB F.h F.mi F.s = true := by
  have h1 := h.h; have h2 := h.mi; have h3 := h.s; have h5 := h.day
  constructor
  · unfold Go.Proofs.YticckkadmhklmaaGreatDoor.inst secs
    rw [h5, h1, h2, h3]
    omega
  · rw [tm_iff]; omega
/-- What is read of what was written. -/
theorem vals_eq (F : Fv) (l : List Prt) : ∀ x ∈ l.flatMap (valsK F), x.2 = valK F x.1 := by
  intro x hx
  obtain ⟨p, _, hp⟩ := List.mem_flatMap.1 hx
  unfold valsK at hp
  split at hp
  · simp at hp
  · rw [List.mem_singleton.1 hp]
theorem vals_cons (F : Fv) (l : List Prt) : Cons (l.flatMap (valsK F)) := by
  intro a ha b hb hab
  rw [vals_eq F l a ha, vals_eq F l b hb, hab]
theorem vals_got {F : Fv} {l : List Prt} {k : Int} {v : Nat} (h : gotK (l.flatMap (valsK F)) k = some v) : v = valK F k := vals_eq F l _ (gotK_mem h)
theorem vals_has {F : Fv} {l : List Prt} {k : Int} (h : hasK l [k] = true) (hk : k ≠ 1 ∧ k ≠ 14 ∧ k ≠ 15) : gotK (l.flatMap (valsK F)) k = some (valK F k) := by
  unfold hasK at h
  rw [List.any_eq_true] at h
  obtain ⟨p, hp, e⟩ := h
  have e : p.k = k := by simpa using e
  subst e
  refine gotK_some (vals_cons F l) (List.mem_flatMap.2 ⟨p, hp, ?_⟩)
  unfold valsK
  rw [if_neg (by omega)]
  simp
theorem sameO_all (u x : Int) (a b c : Option Int) (ha : ∀ y, a = some y → y = x) (hb : ∀ y, b = some y → y = x) (hc : ∀ y, c = some y → y = x) :
    sameO u a b c = (if a = none ∧ b = none ∧ c = none then u else x, true) := by
  unfold sameO
  cases a with
  | none =>
    cases b with
    | none =>
      cases c with
      | none => simp
      | some z => simp [hc z rfl]
    | some y =>
      have := hb y rfl
      subst this
      cases c with
      | none => simp
      | some z => simp [hc z rfl]
  | some w =>
    have := ha w rfl
    subst this
    cases b with
    | none =>
      cases c with
      | none => simp
      | some z => simp [hc z rfl]
    | some y =>
      have := hb y rfl
      subst this
      cases c with
      | none => simp
      | some z => simp [hc z rfl]
theorem map_eq_some' {f : Nat → Int} {o : Option Nat} {y : Int} (h : o.map f = some y) : ∃ v, o = some v ∧ f v = y := by
  cases o with
  | none => simp at h
  | some v => exact ⟨v, rfl, Option.some.inj h⟩
/-- A pattern that loses nothing: the instant. -/
theorem mom_back {F : Fv} {t : Int} (hF : IsF F t) {l : List Prt} (hl : losB l = true) : momP (gotK (l.flatMap (valsK F))) false = (t, true) := by
  have hok := hF.ok
  obtain ⟨o1, o2, o3, o4, o5, o6, o7, o8, o9, o10, o11⟩ := hok
  obtain ⟨hi, ht⟩ := hF.inst
  unfold losB at hl
  simp only [Bool.and_eq_true, Bool.or_eq_true] at hl
  obtain ⟨⟨⟨⟨⟨⟨⟨_, k2⟩, k345⟩, k6⟩, kh⟩, k11⟩, k12⟩, _⟩ := hl
  have f2 := vals_has (F := F) k2 (by decide)
  have f6 := vals_has (F := F) k6 (by decide)
  have f11 := vals_has (F := F) k11 (by decide)
  have f12 := vals_has (F := F) k12 (by decide)
  rw [hasK_or] at k345
  simp only [Bool.or_eq_true] at k345
  have fm : ¬ ((gotK (l.flatMap (valsK F)) 3) = none ∧ (gotK (l.flatMap (valsK F)) 4) = none ∧ (gotK (l.flatMap (valsK F)) 5) = none) := by
    rintro ⟨e3, e4, e5⟩
    rcases k345 with (q | q) | q
    · rw [vals_has (F := F) q (by decide)] at e3; cases e3
    · rw [vals_has (F := F) q (by decide)] at e4; cases e4
    · rw [vals_has (F := F) q (by decide)] at e5; cases e5
  have fh : (gotK (l.flatMap (valsK F)) 9) = some (valK F 9) ∨ ((gotK (l.flatMap (valsK F)) 10) = some (valK F 10) ∧ (gotK (l.flatMap (valsK F)) 13) = some (valK F 13)) := by
    rcases kh with q | q
    · exact .inl (vals_has q (by decide))
    · exact .inr ⟨vals_has q.1 (by decide), vals_has q.2 (by decide)⟩
  have fv : ∀ k v, gotK (l.flatMap (valsK F)) k = some v → v = valK F k := fun k v h => vals_got h
  generalize gotK (l.flatMap (valsK F)) = f at *
  have sm : sameF f 1 false [3, 4, 5] = ((F.mo : Int), true) := by
    rw [same_month, sameO_all 1 (F.mo : Int)]
    · congr 1
      rw [if_neg]
      rintro ⟨q3, q4, q5⟩
      exact fm ⟨by simpa using q3, by simpa using q4, by simpa using q5⟩
    · intro y hy
      obtain ⟨v, hv, rfl⟩ := map_eq_some' hy
      rw [fv 3 v hv]; rfl
    · intro y hy
      obtain ⟨v, hv, rfl⟩ := map_eq_some' hy
      rw [fv 4 v hv]; simp [valK]; omega
    · intro y hy
      obtain ⟨v, hv, rfl⟩ := map_eq_some' hy
      rw [fv 5 v hv]; simp [valK]; omega
  have sd : ∃ x, sameF f 0 false [7, 8] = (x, true) ∧ (x = 0 ∨ x = (F.wd : Int)) := by
    rw [same_day, sameO_all 0 (F.wd : Int)]
    · refine ⟨_, rfl, ?_⟩
      split
      · exact .inl rfl
      · exact .inr rfl
    · intro y hy
      obtain ⟨v, hv, rfl⟩ := map_eq_some' hy
      rw [fv 7 v hv]; simp [valK]; omega
    · intro y hy
      obtain ⟨v, hv, rfl⟩ := map_eq_some' hy
      rw [fv 8 v hv]; simp [valK]; omega
    · intro y hy; cases hy
  have hh : hourP f = (F.h, true) := by
    have v9 : valK F 9 = F.h := rfl
    have v10 : valK F 10 = (F.h + 11) % 12 + 1 := rfl
    have v13 : valK F 13 = F.h / 12 := rfl
    unfold hourP
    cases e10 : f 10 with
    | none =>
      rcases fh with q | q
      · cases e13 : f 13 with
        | none => rw [q]; simp [v9]
        | some x => rw [q]; simp [v9, fv 13 x e13, v13]
      · rw [e10] at q; cases q.1
    | some t =>
      have et := fv 10 t e10
      rw [v10] at et
      cases e9 : f 9 with
      | none =>
        rcases fh with q | q
        · rw [e9] at q; cases q
        · simp only [q.2, v13, Option.getD_some]
          rw [if_neg (by omega), et]
          congr 1
          omega
      | some h =>
        have eh := fv 9 h e9
        rw [v9] at eh
        simp only
        rw [if_neg (by omega), et, eh]
        cases e13 : f 13 with
        | none => simp; omega
        | some x => simp [fv 13 x e13, v13]; omega
  obtain ⟨x, sx, hx⟩ := sd
  unfold momP
  rw [sm, sx, hh, f2, f6, f11, f12]
  simp only [Option.getD_some]
  have e2 : valK F 2 = F.y := rfl
  have e6 : valK F 6 = F.d := rfl
  have e11 : valK F 11 = F.mi := rfl
  have e12 : valK F 12 = F.s := rfl
  simp only [e2, e6, e11, e12]
  rw [if_neg (by simp), if_pos ⟨hF.vld, ht⟩, hi]
  refine Prod.ext rfl ?_
  simp only [hF.day]
  rw [Bool.eq_iff_iff]
  simp only [Bool.or_eq_true, decide_eq_true_eq, iff_true]
  rcases hx with hx | hx
  · exact .inl hx
  · right; rw [hx, hF.wd]
end Go.Proofs.YticckkadmhklmaaGreatDoor
/- Patterns, plainly: what Parse answers. No program in sight. -/
namespace Go.Proofs.YticckkadmhklmaaGreatDoor
set_option linter.unusedVariables false
set_option linter.unusedSimpArgs false

/-- Two readings of one kind that are not alike. -/
def clB (vs : List (Int × Nat)) : Bool := vs.any fun a => vs.any fun b => decide (a.1 = b.1) && decide (a.2 ≠ b.2)
theorem clB_iff (vs : List (Int × Nat)) : clB vs = false ↔ Cons vs := by
  unfold clB Cons
  rw [← Bool.not_eq_true]
  simp only [List.any_eq_true, Bool.and_eq_true, decide_eq_true_eq]
  constructor
  · intro h a ha b hb hab
    exact Decidable.byContradiction fun q => h ⟨a, ha, b, hb, hab, q⟩
  · rintro h ⟨a, ha, b, hb, hab, q⟩
    exact q (h a ha b hb hab)
/-- What Parse answers: the time, the column of an error (0: no place), the error. -/
def prsT (N : Nms) (l : List Prt) (s : List UInt8) : Int × Nat × Int :=
  if validB l = true ∧ nmOk N = true then
    if 4000 < s.length then (0, 0, 5)
    else match rdL N l s 0 [] with
      | .inl c => (0, c, 3)
      | .inr vs => if (momP (gotK vs) (clB vs)).2 = true then ((momP (gotK vs) (clB vs)).1, 0, 0) else (0, 0, 1)
  else (0, 0, 1)
theorem mostN_or (p : Prt) (q : Option Prt) : mostN p q = p.w.toNat ∨ mostN p q = (fullZ p.k).toNat := by
  cases q with
  | none => exact .inr rfl
  | some q => by_cases h : 0 < fullZ q.k <;> simp [mostN, h]
/-- One part: what is read is there; at most one value, and a small one. -/
theorem rd1_bd {N : Nms} (hN : N.ok) {p : Prt} {q : Option Prt} {s : List UInt8} {n : Nat} {v : List (Int × Nat)} (hp : partB p = true) (h : rd1 N p q s = some (n, v)) : n ≤ s.length ∧ v.length ≤ 1 ∧ ∀ x ∈ v, x.2 ≤ 100000 := by
  have hpre : ∀ (t : List UInt8), t.isPrefixOf s = true → t.length ≤ s.length := fun t ht => (List.isPrefixOf_iff_prefix.1 ht).length_le
  rcases kinds p hp with hk | hk | hk | hk | hk
  · unfold rd1 at h
    rw [if_pos hk] at h
    split at h
    · rename_i hq
      injection h with h; injection h with h1 h2
      subst h1; subst h2
      exact ⟨hpre _ hq, by simp, by simp⟩
    · cases h
  · unfold rd1 at h
    rw [if_neg (by omega), if_pos hk] at h
    split at h
    · rename_i hq
      injection h with h; injection h with h1 h2
      subst h1; subst h2
      have h6 : 6 ≤ s.length := by
        unfold offB at hq
        simp only [Bool.and_eq_true, decide_eq_true_eq] at hq
        omega
      refine ⟨?_, by simp, by simp⟩
      split
      · rename_i hc
        unfold colB at hc
        simp only [Bool.and_eq_true, decide_eq_true_eq] at hc
        omega
      · exact h6
    · cases h
  · unfold rd1 at h
    rw [if_neg (by omega), if_neg (by omega), if_pos hk] at h
    split at h
    · cases h
    · injection h with h; injection h with h1 h2
      subst h1; subst h2
      refine ⟨?_, by simp, by simp⟩
      unfold tyN
      have h := (List.takeWhile_sublist (tyC) (l := s.take 8)).length_le
      rw [List.length_take] at h
      omega
  · obtain ⟨n1, n2, n3⟩ := num_not hk
    unfold rd1 at h
    rw [if_neg n1, if_neg n2, if_neg n3, if_pos hk] at h
    split at h
    · cases h
    · injection h with h; injection h with h1 h2
      subst h1; subst h2
      obtain ⟨d1, d2⟩ := digN_le s (mostN p q)
      refine ⟨d2, by simp, fun x hx => ?_⟩
      rw [List.mem_singleton.1 hx]
      obtain ⟨w1, w2⟩ := num_width hp hk
      have hz : fullZ p.k ≤ 4 := by unfold fullZ; split <;> (try split) <;> omega
      have hm : mostN p q ≤ 4 := by
        have := mostN_or p q
        omega
      have e : s.take (digN s (mostN p q)) = (s.take (mostN p q)).takeWhile isDg := by
        unfold digN
        have h1 := List.takeWhile_prefix (p := isDg) (l := s.take (mostN p q))
        have h2 := h1.trans (List.take_prefix (mostN p q) s)
        exact (List.prefix_iff_eq_take.1 h2).symm
      have hv := val_lt (s.take (digN s (mostN p q))) (fun c hc => by rw [e] at hc; exact List.all_eq_true.1 List.all_takeWhile c hc)
      have hl : (s.take (digN s (mostN p q))).length ≤ 4 := by rw [List.length_take]; omega
      have : (10 : Nat) ^ (s.take (digN s (mostN p q))).length ≤ 10 ^ 4 := Nat.pow_le_pow_right (by decide) hl
      simp only
      omega
  · obtain ⟨n1, n2, n3, n4⟩ := nam_not hk
    unfold rd1 at h
    rw [if_neg n1, if_neg n2, if_neg n3, if_neg n4] at h
    split at h
    · rename_i hi
      injection h with h; injection h with h1 h2
      subst h1; subst h2
      have hl12 : (lstK N p.k).length ≤ 12 := by
        obtain ⟨a, b, c, d, e⟩ := hN
        unfold lstK
        repeat' split
        all_goals omega
      refine ⟨?_, by simp, fun x hx => ?_⟩
      · have e : (lstK N p.k).getD (namI (lstK N p.k) s) [] = (lstK N p.k)[namI (lstK N p.k) s] := by simp [List.getD, hi]
        rw [e]
        refine hpre _ ?_
        unfold namI at hi ⊢
        exact List.findIdx_getElem (w := hi)
      · rw [List.mem_singleton.1 hx]
        simp only
        omega
    · cases h
end Go.Proofs.YticckkadmhklmaaGreatDoor
/- Patterns, plainly: compiling, step by step. No program in sight. -/
namespace Go.Proofs.YticckkadmhklmaaGreatDoor
set_option linter.unusedVariables false
set_option linter.unusedSimpArgs false

theorem runN_eq (c : UInt8) : ∀ (r : List UInt8) (m : Nat), (∀ k, k < m → r[k]? = some c) → r[m]? ≠ some c → runN c r = m
  | [], 0, _, _ => rfl
  | [], m + 1, h, _ => by have := h 0 (by omega); simp at this
  | x :: r, 0, _, h2 => by
    have : x ≠ c := fun e => h2 (by rw [e]; rfl)
    unfold runN
    rw [List.takeWhile_cons_of_neg (by simpa using this)]
    rfl
  | x :: r, m + 1, h1, h2 => by
    have e : x = c := by have := h1 0 (by omega); simpa using this
    have ih := runN_eq c r m (fun k hk => by have := h1 (k + 1) (by omega); simpa using this) (by simpa using h2)
    unfold runN at ih ⊢
    rw [List.takeWhile_cons_of_pos (by simpa using e), List.length_cons, ih]
theorem cmpL_end (i : Nat) (q : Bool) (out : List Prt) : cmpL [] i q out = if q then ([], 0, 4) else if decide (40 < out.length) || longB out then ([], 0, 5) else (out, 0, 0) := by
  rw [cmpL]
theorem cmpL_cons (c : UInt8) (r : List UInt8) (i : Nat) (q : Bool) (out : List Prt) : cmpL (c :: r) i q out =
    if prn c = false then ([], i + 1, 3)
    else if c = 39 ∧ r.head? = some 39 then cmpL r.tail (i + 2) q (addLit out 39)
    else if c = 39 then cmpL r (i + 1) (!q) out
    else if q = true ∨ isLt c = false then cmpL r (i + 1) q (addLit out c)
    else if (fld c (1 + runN c r)).k = 0 then ([], i + 1, 3)
    else cmpL (r.drop (runN c r)) (i + (1 + runN c r)) q (out ++ [fld c (1 + runN c r)]) := by
  rw [cmpL]
section
variable (s : List UInt8) (i : Nat) (h : i < s.length) (q : Bool) (out : List Prt)
include h
theorem drop_at : s.drop i = s[i] :: s.drop (i + 1) := List.drop_eq_getElem_cons h
theorem cmp_bad (hp : prn s[i] = false) : cmpL (s.drop i) i q out = ([], i + 1, 3) := by
  rw [drop_at s i h, cmpL_cons, if_pos hp]
omit h in
theorem head_drop : (s.drop (i + 1)).head? = s[i + 1]? := by rw [List.head?_drop]
theorem cmp_two (hp : prn s[i] = true) (hc : s[i] = 39) (h2 : s[i + 1]? = some 39) : cmpL (s.drop i) i q out = cmpL (s.drop (i + 2)) (i + 2) q (addLit out 39) := by
  rw [drop_at s i h, cmpL_cons, if_neg (by rw [hp]; simp), if_pos ⟨hc, by rw [head_drop s i]; exact h2⟩, List.tail_drop]
theorem cmp_quote (hp : prn s[i] = true) (hc : s[i] = 39) (h2 : s[i + 1]? ≠ some 39) : cmpL (s.drop i) i q out = cmpL (s.drop (i + 1)) (i + 1) (!q) out := by
  rw [drop_at s i h, cmpL_cons, if_neg (by rw [hp]; simp), if_neg (by rw [head_drop s i]; exact fun x => h2 x.2), if_pos hc]
theorem cmp_lit (hp : prn s[i] = true) (hc : s[i] ≠ 39) (h2 : q = true ∨ isLt s[i] = false) : cmpL (s.drop i) i q out = cmpL (s.drop (i + 1)) (i + 1) q (addLit out s[i]) := by
  rw [drop_at s i h, cmpL_cons, if_neg (by rw [hp]; simp), if_neg (fun x => hc x.1), if_neg hc, if_pos h2]
theorem cmp_fld (hp : prn s[i] = true) (hc : s[i] ≠ 39) (hq : q = false) (hl : isLt s[i] = true) (m : Nat) (hm : runN s[i] (s.drop (i + 1)) = m) :
    cmpL (s.drop i) i q out = if (fld s[i] (1 + m)).k = 0 then ([], i + 1, 3) else cmpL (s.drop (i + (1 + m))) (i + (1 + m)) q (out ++ [fld s[i] (1 + m)]) := by
  subst hm
  rw [drop_at s i h, cmpL_cons, if_neg (by rw [hp]; simp), if_neg (fun x => hc x.1), if_neg hc, if_neg (by rw [hq, hl]; simp), List.drop_drop]
  congr 3
  omega
end
theorem fld_text (c : UInt8) (n : Nat) : (fld c n).t = [] := by unfold fld; split <;> rfl
theorem longB_fld (l : List Prt) (c : UInt8) (n : Nat) : longB (l ++ [fld c n]) = longB l := by rw [longB_snoc, fld_text]; simp
theorem addLit_texts (l : List Prt) (b : UInt8) (m : Nat) (h : ∀ p ∈ l, p.t.length ≤ m) : ∀ p ∈ addLit l b, p.t.length ≤ m + 1 := by
  rcases snoc_cases l with rfl | ⟨r, x, rfl⟩
  · intro p hp
    rw [addLit_nil, List.mem_singleton] at hp
    subst hp
    simp
  · intro p hp
    rw [addLit_snoc] at hp
    have hx := h x (by simp)
    split at hp
    · rcases List.mem_append.1 hp with hp | hp
      · have := h p (by simp [hp]); omega
      · rw [List.mem_singleton] at hp; subst hp; simp; omega
    · rcases List.mem_append.1 hp with hp | hp
      · have := h p hp; omega
      · rw [List.mem_singleton] at hp; subst hp; simp
end Go.Proofs.YticckkadmhklmaaGreatDoor
