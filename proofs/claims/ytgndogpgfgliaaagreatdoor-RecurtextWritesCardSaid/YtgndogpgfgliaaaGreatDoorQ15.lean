/- Recurrence rules: a rule in a box of its own; the walks of the writers of fields: listed$2, counted$2, worded$2. -/
import Derived.Test.YtgndogpgfgliaaaGreatDoorQ13
import Derived.Test.YtgndogpgfgliaaaGreatDoorQ14
namespace Go.Proofs.YtgndogpgfgliaaaGreatDoor
set_option linter.unusedVariables false
set_option linter.unnecessarySimpa false
set_option linter.unusedSimpArgs false
open Go.RowKit

/-- The rule's cells lie in block B. -/
def RcB (r : Rec) (B : Nat) (w : World) : Prop := B < w.heap.size ∧ w.rangeAt B 0 r.vals
theorem RcB.new (r : Rec) (w : World) (t : TypeId) : RcB r w.heap.size (w.alloc (.cells r.vals.toArray t)) := by
  refine ⟨by simp, fun j v hv => ?_⟩
  rw [Nat.zero_add, World.cell?_alloc_new]
  rw [← hv]
  exact Array.getElem?_toList.symm
theorem RcB.ext {r : Rec} {B : Nat} {w w' : World} (h : RcB r B w) (hE : Ext w w') : RcB r B w' :=
  ⟨hE.lt h.1, fun j v hv => (hE.cells B _ h.1).trans (h.2 j v hv)⟩
theorem RcB.at_ {r : Rec} {B : Nat} {w : World} (h : RcB r B w) {j : Nat} {v : Value} (hv : r.vals[j]? = some v) : w.cell? ⟨B, j, none⟩ = some v := by
  have := h.2 j v hv
  rwa [Nat.zero_add] at this
set_option maxRecDepth 100000 in
set_option maxHeartbeats 1000000 in
theorem lwrite_c (f off Y : Nat) (r : Rec) (ao : Option Addr) (cap : Nat) (zs : List Int) (X : List UInt8) (w : World) (hA : AtC f off) (hY : BxV Y (fnA f) w) (ho : r.vals[off]? = some (.slice ao zs.length cap)) (hV : IsV ao cap zs w) (hi : ∀ n ∈ zs, i64 n) (hn : zs.length ≤ 100000) (hX : numsT zs = X) :
    Calls Tryz.prog 138 #[.agg r.vals.toArray, .pointer (some ⟨Y, 0, none⟩)] w fun e w' => e = .returned (.string ⟨X.toArray⟩) ∧ Ext w w' := by
  have hcf := hA.1
  have HA := Lib.hid hA.2
  have hE0 : Ext w (w.alloc (.cells r.vals.toArray 25)) := (Ext.refl w).alloc _
  have HE0 := Lib.hid hE0
  have hB := RcB.new r w 25
  have hy : (w.alloc (.cells r.vals.toArray 25)).cell? ⟨Y, 0, none⟩ = some (.func (.func f) #[] #[]) := (hY.ext hE0).2
  have c0 := hB.at_ ho
  have HN := Lib.hid (unumsT_c zs ao cap X _ (hV.ext hE0) hi hn hX)
  clear hA hE0 hB hY ho hV hi hn hX
  go_enter Tryz.func138, Tryz.ntmps138
  go_upto_region 1 with fail
  generalize w.alloc (.cells r.vals.toArray 25) = W0 at *
  generalize w.heap.size = B at *
  go_wp2_with fail
  refine (HA.out _ _).mono ?_
  rintro e w2 ⟨rfl, rfl⟩
  go_wp2_with (go_at_call 139; (with_reducible refine HN.out.mono ?_); rintro e w2 ⟨rfl, hE2⟩)
  go_ret
  exact ⟨rfl, HE0.out.trans hE2⟩
set_option maxRecDepth 100000 in
set_option maxHeartbeats 1000000 in
theorem cwrite_c (f off Y Z : Nat) (r : Rec) (x u : Int) (X : List UInt8) (w : World) (hA : AtC f off) (hY : BxV Y (fnA f) w) (hZ : BxV Z (.int .i64 u) w) (ho : r.vals[off]? = some (.int .i64 x)) (hi : i64 x) (hX : (if x = u then [] else decZ x) = X) :
    Calls Tryz.prog 130 #[.agg r.vals.toArray, .pointer (some ⟨Y, 0, none⟩), .pointer (some ⟨Z, 0, none⟩)] w fun e w' => e = .returned (.string ⟨X.toArray⟩) ∧ Ext w w' := by
  have hcf := hA.1
  have HA := Lib.hid hA.2
  have hE0 : Ext w (w.alloc (.cells r.vals.toArray 25)) := (Ext.refl w).alloc _
  have HE0 := Lib.hid hE0
  have hB := RcB.new r w 25
  have hy : (w.alloc (.cells r.vals.toArray 25)).cell? ⟨Y, 0, none⟩ = some (.func (.func f) #[] #[]) := (hY.ext hE0).2
  have hz := (hZ.ext hE0).2
  have c0 := hB.at_ ho
  have Hi := Lib.hid hi
  clear hA hE0 hB hY ho hZ hi
  go_enter Tryz.func130, Tryz.ntmps130
  go_upto_region 1 with fail
  generalize w.alloc (.cells r.vals.toArray 25) = W0 at *
  generalize w.heap.size = B at *
  go_quiet ((exact quiet_of0 ((HA.out _ _).mono fun _ _ ⟨a, b⟩ => ⟨a, 0, b⟩)))
  obtain ⟨W1, hW1⟩ : ∃ W1, W1 = W0.drewN nq := ⟨_, rfl⟩
  have hE1 : Ext W0 W1 := by rw [hW1]; exact (Ext.refl _).drewN _
  have hy : W1.cell? ⟨Y, 0, none⟩ = some (.func (.func f) #[] #[]) := by rw [hW1, World.cell?_drewN]; exact hy
  have hz : W1.cell? ⟨Z, 0, none⟩ = some (.int .i64 u) := by rw [hW1, World.cell?_drewN]; exact hz
  have c0 : W1.cell? ⟨B, off, none⟩ = some (.int .i64 x) := by rw [hW1, World.cell?_drewN]; exact c0
  rw [← hW1]
  clear hW1
  by_cases hq : x = u
  · rw [if_pos hq] at hX
    subst hX
    have t1 : (x == u) = true := by simpa using hq
    clear hq
    go_wp2_with fail
    go_ret
    exact ⟨rfl, HE0.out.trans hE1⟩
  · rw [if_neg hq] at hX
    have t1 : (x == u) = false := by simpa using hq
    have HD := Lib.hid (udec_c x X W1 Hi.out hX)
    clear hq hX
    go_wp2_with fail
    refine (HA.out _ _).mono ?_
    rintro e w2 ⟨rfl, rfl⟩
    go_wp2_with (go_at_call 42; (with_reducible refine HD.out.mono ?_); rintro e w2 ⟨rfl, hE2⟩)
    go_ret
    exact ⟨rfl, HE0.out.trans (hE1.trans hE2)⟩
set_option maxRecDepth 100000 in
set_option maxHeartbeats 1000000 in
theorem wwrite_c (L : List (List UInt8)) (f off Y Z V H n : Nat) (r : Rec) (x u : Int) (X : List UInt8) (w : World) (hl : L.length = n) (hn : n ≤ 100) (hA : AtC f off) (hY : BxV Y (fnA f) w) (hZ : BxV Z (.int .i64 u) w) (hV : BxV V (.slice (some ⟨H, 0, none⟩) n n) w) (hH : RdS L H 0 w) (ho : r.vals[off]? = some (.int .i64 x)) (hx : 1 ≤ x) (hx2 : x ≤ (n : Int)) (hX : (if x = u then [] else L.getD (x - 1).toNat []) = X) :
    Calls Tryz.prog 128 #[.agg r.vals.toArray, .pointer (some ⟨Y, 0, none⟩), .pointer (some ⟨Z, 0, none⟩), .pointer (some ⟨V, 0, none⟩)] w fun e w' => e = .returned (.string ⟨X.toArray⟩) ∧ Ext w w' := by
  have hcf := hA.1
  have HA := Lib.hid hA.2
  have hE0 : Ext w (w.alloc (.cells r.vals.toArray 25)) := (Ext.refl w).alloc _
  have HE0 := Lib.hid hE0
  have hB := RcB.new r w 25
  have hy : (w.alloc (.cells r.vals.toArray 25)).cell? ⟨Y, 0, none⟩ = some (.func (.func f) #[] #[]) := (hY.ext hE0).2
  have hz := (hZ.ext hE0).2
  have hv := (hV.ext hE0).2
  have c0 := hB.at_ ho
  obtain ⟨k, rfl⟩ : ∃ k : Nat, x = (k : Int) + 1 := ⟨(x - 1).toNat, by omega⟩
  have hk : k < n := by omega
  have c1 := (hH.ext hE0).2 k (by omega)
  rw [Nat.zero_add] at c1
  have hg : L.getD ((k : Int) + 1 - 1).toNat [] = L[k] := by
    rw [show ((k : Int) + 1 - 1).toNat = k by omega]
    simp [List.getD, show k < L.length by omega]
  rw [hg] at hX
  obtain ⟨Y0, hY0⟩ : ∃ Y0, Y0 = L[k] := ⟨_, rfl⟩
  rw [← hY0] at hX c1
  have hw1 : IntKind.i64.wrap ((k : Int) + 1 - 1) = (k : Int) := by rw [IntWalk.i64_in _ (by omega)]; omega
  clear hA hE0 hB hY ho hZ hV hH hY0 hg hx hx2
  go_enter Tryz.func128, Tryz.ntmps128
  go_upto_region 1 with fail
  generalize w.alloc (.cells r.vals.toArray 25) = W0 at *
  generalize w.heap.size = B at *
  go_quiet ((exact quiet_of0 ((HA.out _ _).mono fun _ _ ⟨a, b⟩ => ⟨a, 0, b⟩)))
  obtain ⟨W1, hW1⟩ : ∃ W1, W1 = W0.drewN nq := ⟨_, rfl⟩
  have hE1 : Ext W0 W1 := by rw [hW1]; exact (Ext.refl _).drewN _
  have hy : W1.cell? ⟨Y, 0, none⟩ = some (.func (.func f) #[] #[]) := by rw [hW1, World.cell?_drewN]; exact hy
  have hz : W1.cell? ⟨Z, 0, none⟩ = some (.int .i64 u) := by rw [hW1, World.cell?_drewN]; exact hz
  have hv : W1.cell? ⟨V, 0, none⟩ = some (.slice (some ⟨H, 0, none⟩) n n) := by rw [hW1, World.cell?_drewN]; exact hv
  have c0 : W1.cell? ⟨B, off, none⟩ = some (.int .i64 ((k : Int) + 1)) := by rw [hW1, World.cell?_drewN]; exact c0
  have c1 : W1.cell? ⟨H, k, none⟩ = some (.string ⟨Y0.toArray⟩) := by rw [hW1, World.cell?_drewN]; exact c1
  rw [← hW1]
  clear hW1
  by_cases hq : (k : Int) + 1 = u
  · rw [if_pos hq] at hX
    subst hX
    have t1 : ((k : Int) + 1 == u) = true := by simpa using hq
    clear hq
    go_wp2_with fail
    go_ret
    exact ⟨rfl, HE0.out.trans hE1⟩
  · rw [if_neg hq] at hX
    have t1 : ((k : Int) + 1 == u) = false := by simpa using hq
    subst hX
    clear hq
    go_wp2_with fail
    go_quiet ((exact quiet_of0 ((HA.out _ _).mono fun _ _ ⟨a, b⟩ => ⟨a, 0, b⟩)))
    go_wp2_with fail
    go_ret
    exact ⟨rfl, (HE0.out.trans hE1).drewN _⟩
end Go.Proofs.YtgndogpgfgliaaaGreatDoor
/- Recurrence rules: the walk of Part's search: slices.IndexFunc over the fields; the readers of weekdays. -/
namespace Go.Proofs.YtgndogpgfgliaaaGreatDoor
set_option linter.unusedVariables false
set_option linter.unnecessarySimpa false
set_option linter.unusedSimpArgs false
open Go.RowKit

theorem plW_cons (a : List UInt8) (r : List (List UInt8)) (s : List UInt8) : plW (a :: r) s = if a = s then 1 else if plW r s = 0 then 0 else plW r s + 1 := by
  unfold plW
  by_cases h : a = s
  · subst h; simp
  · rw [if_neg h]
    by_cases h2 : s ∈ r
    · rw [if_pos (List.mem_cons_of_mem _ h2), if_pos h2, if_neg (by omega), List.idxOf_cons, show (a == s) = false by simpa using h]
      rfl
    · rw [if_neg (by simp [h2, Ne.symm h]), if_neg h2, if_pos rfl]
theorem plW_hit : ∀ (l : List (List UInt8)) (s : List UInt8) (j : Nat), j < l.length → l.getD j [] = s → (∀ i, i < j → l.getD i [] ≠ s) → plW l s = j + 1
  | [], s, j, h, _, _ => by cases h
  | a :: r, s, 0, _, e, _ => by rw [plW_cons, if_pos (show a = s from e)]
  | a :: r, s, j + 1, h, e, hn => by
    have h0 : a ≠ s := hn 0 (by omega)
    have ih := plW_hit r s j (by simpa using h) e (fun i hi => hn (i + 1) (by omega))
    rw [plW_cons, if_neg h0, ih, if_neg (by omega)]
theorem plW_miss : ∀ (l : List (List UInt8)) (s : List UInt8), (∀ i, i < l.length → l.getD i [] ≠ s) → plW l s = 0
  | [], s, _ => rfl
  | a :: r, s, hn => by
    have h0 : a ≠ s := hn 0 (by simp)
    have ih := plW_miss r s (fun i hi => hn (i + 1) (by simpa using hi))
    rw [plW_cons, if_neg h0, ih, if_pos rfl]
theorem flat3_at {α : Type} (f g h : α → Value) : ∀ (l : List α) (i : Nat) (hi : i < l.length), (l.flatMap fun k => [f k, g k, h k])[i * 3]? = some (f l[i]) ∧ (l.flatMap fun k => [f k, g k, h k])[i * 3 + 1]? = some (g l[i]) ∧ (l.flatMap fun k => [f k, g k, h k])[i * 3 + 2]? = some (h l[i])
  | [], i, hi => by cases hi
  | a :: r, i, hi => by
    have e : ((a :: r).flatMap fun k => [f k, g k, h k]) = f a :: g a :: h a :: (r.flatMap fun k => [f k, g k, h k]) := rfl
    rw [e]
    cases i with
    | zero => exact ⟨rfl, rfl, rfl⟩
    | succ i =>
      obtain ⟨x, y, z⟩ := flat3_at f g h r i (by simpa using hi)
      rw [show (i + 1) * 3 = i * 3 + 1 + 1 + 1 by omega]
      exact ⟨x, y, z⟩
theorem fld_at {y z v : Nat → Nat} {H : Nat} {w : World} (h : w.rangeAt H 0 (fldV y z v)) (j : Nat) (hj : j < 14) : w.cell? ⟨H, j * 3, none⟩ = some (.string ⟨(ptW.getD j []).toArray⟩) ∧ w.cell? ⟨H, j * 3 + 1, none⟩ = some (rdV y z v j) ∧ w.cell? ⟨H, j * 3 + 2, none⟩ = some (wrV y z v j) := by
  obtain ⟨a, b, c⟩ := flat3_at (fun k => .string ⟨(ptW.getD k []).toArray⟩) (rdV y z v) (wrV y z v) (List.range 14) j (by simpa using hj)
  rw [List.getElem_range] at a b c
  have h0 := h _ _ a
  have h1 := h _ _ b
  have h2 := h _ _ c
  rw [Nat.zero_add] at h0 h1 h2
  exact ⟨h0, h1, h2⟩
set_option maxRecDepth 100000 in
theorem part1_c (a nm : List UInt8) (u v : Value) (Z : Nat) (w : World) (hZ : BxV Z (.string ⟨nm.toArray⟩) w) :
    Calls Tryz.prog 58 #[.agg #[.string ⟨a.toArray⟩, u, v], .pointer (some ⟨Z, 0, none⟩)] w fun e w' => e = .returned (.bool (a == nm)) ∧ Ext w w' := by
  have hE : Ext w (w.alloc (.cells #[.string ⟨a.toArray⟩, u, v] 67)) := (Ext.refl w).alloc _
  have hz := (hZ.ext hE).2
  have hzl := hZ.1
  clear hZ
  go_enter Tryz.func58, Tryz.ntmps58
  go_wp2_with fail
  go_ret
  exact ⟨rfl, hE⟩
set_option maxRecDepth 100000 in
set_option maxHeartbeats 1000000 in
theorem idxfld_c (nm : List UInt8) (H Z : Nat) (y z v : Nat → Nat) (w : World) (hH : H < w.heap.size) (hF : w.rangeAt H 0 (fldV y z v)) (hZ : BxV Z (.string ⟨nm.toArray⟩) w) :
    Calls Tryz.prog 57 #[.slice (some ⟨H, 0, none⟩) 14 14, .func (.func 58) #[] #[.pointer (some ⟨Z, 0, none⟩)]] w fun e w' => e = .returned (.int .i64 ((plW ptW nm : Int) - 1)) ∧ Ext w w' := by
  have HF := Lib.hid (fun j (hj : j < 14) => fld_at hF j hj)
  have HZ := Lib.hid hZ
  have HHit : Hid (∀ j, j < 14 → ptW.getD j [] = nm → (∀ i, i < j → ptW.getD i [] ≠ nm) → plW ptW nm = j + 1) := fun j hj => plW_hit ptW nm j hj
  have HMiss : Hid ((∀ i, i < 14 → ptW.getD i [] ≠ nm) → plW ptW nm = 0) := plW_miss ptW nm
  obtain ⟨p, hp⟩ : ∃ p, p = plW ptW nm := ⟨_, rfl⟩
  rw [← hp] at HHit HMiss ⊢
  clear hF hZ hp
  go_enter Tryz.func57, Tryz.ntmps57
  go_wp2_with fail
  go_loopw [8] (fun i wr => ∃ j : Nat, j ≤ 14 ∧ i = .int .i64 (j : Int) ∧ (∀ i, i < j → ptW.getD i [] ≠ nm) ∧ Ext w wr) (fun i _ => 14 - (intOf i).toNat)
  case atStart => exact ⟨0, Nat.zero_le _, rfl, (fun i hi => by omega), Ext.refl _⟩
  case round =>
    obtain ⟨j, hj, rfl, hall, hE⟩ := hrel
    have Hall := Lib.hid hall
    clear hall
    by_cases hlt : j < 14
    · obtain ⟨c0, c1, c2⟩ := HF.out j hlt
      replace c0 := (hE.cells _ _ hH).trans c0
      replace c1 := (hE.cells _ _ hH).trans c1
      replace c2 := (hE.cells _ _ hH).trans c2
      have hHr := hE.lt hH
      have Hh := HHit.out j hlt
      have HA2 : Hid (ptW.getD j [] ≠ nm → ∀ i, i < j + 1 → ptW.getD i [] ≠ nm) := fun q i hi => by
        by_cases e : i = j
        · subst e; exact q
        · exact Hall.out i (by omega)
      obtain ⟨a, ha⟩ : ∃ a, a = ptW.getD j [] := ⟨_, rfl⟩
      obtain ⟨u, hu⟩ : ∃ u, u = rdV y z v j := ⟨_, rfl⟩
      obtain ⟨x, hx⟩ : ∃ x, x = wrV y z v j := ⟨_, rfl⟩
      rw [← ha] at c0 Hh HA2
      rw [← hu] at c1
      rw [← hx] at c2
      have HZr := HZ.out.ext hE
      clear ha hu hx
      by_cases hq : a = nm
      · have he := Hh hq Hall.out
        have HP : Hid (Calls Tryz.prog 58 #[.agg #[.string ⟨a.toArray⟩, u, x], .pointer (some ⟨Z, 0, none⟩)] wr fun e w' => e = .returned (.bool true) ∧ Ext wr w') := by
          have := part1_c a nm u x Z wr HZr
          rwa [show (a == nm) = true by simpa using hq] at this
        subst he
        clear hq HA2 Hh HZr
        go_wp2_with (go_at_call 58; (with_reducible refine HP.out.mono ?_); rintro e w1 ⟨rfl, hE1⟩)
        go_ret
        exact ⟨by simp, hE.trans hE1⟩
      · have HP : Hid (Calls Tryz.prog 58 #[.agg #[.string ⟨a.toArray⟩, u, x], .pointer (some ⟨Z, 0, none⟩)] wr fun e w' => e = .returned (.bool false) ∧ Ext wr w') := by
          have := part1_c a nm u x Z wr HZr
          rwa [show (a == nm) = false by simpa using hq] at this
        have HA3 := Lib.hid (HA2.out hq)
        clear hq HA2 Hh HZr
        go_wp2_with (go_at_call 58; (with_reducible refine HP.out.mono ?_); rintro e w1 ⟨rfl, hE1⟩)
        go_roundw
        case rel => exact ⟨j + 1, by omega, by go_num, HA3.out, hE.trans hE1⟩
        case measure => simp [intOf]; omega
    · obtain rfl : j = 14 := by omega
      have he := HMiss.out Hall.out
      subst he
      go_wp2_with fail
      go_ret
      exact ⟨by simp, hE⟩
def DReadR (x : Option (List (Int × Int))) (B : Nat) (w : World) (e : Ending) (w' : World) : Prop :=
  match x with
  | some l => e = .returned (.bool true) ∧ ∃ ao cap w1, Ext w w1 ∧ OsV ao cap l w1 ∧ (∀ R o m, ao = some ⟨R, o, m⟩ → w.heap.size ≤ R) ∧ w' = w1.setCell ⟨B, 8, none⟩ (.slice ao l.length cap)
  | none => e = .returned (.bool false) ∧ Ext w w'
set_option maxRecDepth 100000 in
set_option maxHeartbeats 1000000 in
theorem dread_c (B : Nat) (s : List UInt8) (u : Value) (w : World) (hm : Lm w) (hs : s.length ≤ 50000) (hB : B < w.heap.size) (hu : w.cell? ⟨B, 8, none⟩ = some u) (hf : w.frozen? ⟨B, 8, none⟩ = false) :
    Calls Tryz.prog 92 #[.pointer (some ⟨B, 0, none⟩), .string ⟨s.toArray⟩] w (DReadR (daysZ s) B w) := by
  have HN := Lib.hid (udays_c s w hm hs)
  have HU := Lib.hid hu
  have HF := Lib.hid hf
  unfold DaysR at HN
  cases hn : daysZ s with
  | none =>
    rw [hn] at HN
    clear hn hm hs hu hf
    go_enter Tryz.func92, Tryz.ntmps92
    go_wp2_with (go_at_call 22; (with_reducible refine HN.out.mono ?_); rintro e w1 ⟨rfl, hE1⟩)
    go_ret
    exact ⟨rfl, hE1⟩
  | some l =>
    rw [hn] at HN
    clear hn hm hs hu hf
    go_enter Tryz.func92, Tryz.ntmps92
    go_wp2_with (go_at_call 22; (with_reducible refine HN.out.mono ?_); rintro e w1 ⟨ao, cap, rfl, hV, hbs, hE1⟩; have u1 := (hE1.cells _ 8 hB).trans HU.out; have f1 : w1.frozen? ⟨B, 8, none⟩ = false := (hE1.frozens B 8 hB).trans HF.out; have hB1 := hE1.lt hB)
    go_ret
    exact ⟨rfl, ao, cap, _, hE1, hV, hbs, rfl⟩
set_option maxRecDepth 100000 in
set_option maxHeartbeats 1000000 in
theorem dwrite_c (r : Rec) (X : List UInt8) (w : World) (hV : OsV (r.a 4) (r.c 4) r.D.da w) (hi : ∀ o ∈ r.D.da, i64 o.1 ∧ i64 o.2) (hn : r.D.da.length ≤ 100000) (hX : daysTx r.D.da = X) :
    Calls Tryz.prog 93 #[.agg r.vals.toArray] w fun e w' => e = .returned (.string ⟨X.toArray⟩) ∧ Ext w w' := by
  have hE0 : Ext w (w.alloc (.cells r.vals.toArray 25)) := (Ext.refl w).alloc _
  have HE0 := Lib.hid hE0
  have hB := RcB.new r w 25
  have c0 := hB.at_ (j := 8) (v := .slice (r.a 4) r.D.da.length (r.c 4)) rfl
  have HN := Lib.hid (udaysT_c r.D.da (r.a 4) (r.c 4) X _ (hV.ext hE0) hi hn hX)
  clear hE0 hB hV hi hn hX
  go_enter Tryz.func93, Tryz.ntmps93
  go_upto_region 1 with fail
  generalize w.alloc (.cells r.vals.toArray 25) = W0 at *
  generalize w.heap.size = B at *
  go_wp2_with (go_at_call 25; (with_reducible refine HN.out.mono ?_); rintro e w2 ⟨rfl, hE2⟩)
  go_ret
  exact ⟨rfl, HE0.out.trans hE2⟩
end Go.Proofs.YtgndogpgfgliaaaGreatDoor
