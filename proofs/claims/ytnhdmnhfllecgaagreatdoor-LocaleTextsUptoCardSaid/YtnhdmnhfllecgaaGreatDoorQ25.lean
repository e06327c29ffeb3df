/- Locales: durations and relative times, plainly. -/
import Derived.Test.YtnhdmnhfllecgaaGreatDoorQ24
import Derived.Test.YtnhdmnhfllecgaaGreatDoorQ06
import Derived.Test.YtnhdmnhfllecgaaGreatDoorQ07
import Derived.Test.YtnhdmnhfllecgaaGreatDoorQ05
import Derived.Test.YtnhdmnhfllecgaaGreatDoorQ09
import Derived.Test.YtnhdmnhfllecgaaGreatDoorQ04
import Derived.Lib.Join
import Derived.Laws.IdiomStrings
import Derived.Test.YtnhdmnhfllecgaaGreatDoorShelf
namespace Go.Proofs.YtnhdmnhfllecgaaGreatDoor
set_option linter.unusedVariables false
set_option linter.unusedSimpArgs false
open Go.RowKit

/-- A number with its form. -/
def amt (P f : List Plu) (N : Nat) : List UInt8 := itx N 1 ++ 32 :: ((f[fstI N P]?.map (·.r)).getD [])
def dstep (P : List Plu) (st : List (List UInt8) × Nat) (u : Uni) : List (List UInt8) × Nat :=
  (if st.2 / u.s.natAbs = 0 then st.1 else st.1 ++ [amt P u.f (st.2 / u.s.natAbs)], st.2 % u.s.natAbs)
/-- The amounts of a number of seconds, and what is left. -/
def dst (P : List Plu) (U : List Uni) (N : Nat) : List (List UInt8) × Nat := U.foldl (dstep P) ([], N)
theorem vu {L : Loc} (h : validLB L = true) : uHead L.U ∧ ∀ i, i < L.U.length → unAt L.P L.U i := by
  unfold validLB unB at h
  simp only [Bool.and_eq_true] at h
  exact @of_decide_eq_true _ (_) h.2
structure UF (P : List Plu) (U : List Uni) : Prop where
  one : 1 ≤ U.length
  ten : U.length ≤ 10
  at_ : ∀ i (h : i < U.length), 1 ≤ U[i].s ∧ U[i].s ≤ 1099511627776 ∧ U[i].f.length = P.length ∧ ∀ k (hk : k < U[i].f.length), formB (U[i].f[k]).r = true
  last : (U[U.length - 1]'(by omega)).s = 1
  desc : ∀ i (h : i + 1 < U.length), U[i + 1].s < (U[i]'(by omega)).s
theorem uf_of {P : List Plu} {U : List Uni} (h1 : uHead U) (h2 : ∀ i, i < U.length → unAt P U i) : UF P U := by
  obtain ⟨a, b, c, d⟩ := h1
  have de : ∀ i (h : i + 1 < U.length), U[i + 1].s < (U[i]'(by omega)).s := fun i h => by
    obtain ⟨q, -⟩ := h2 (i + 1) h h
    have := q (by omega)
    simpa using this
  have lo : ∀ k i (h : i < U.length), i + 1 + k = U.length → 1 ≤ U[i].s := by
    intro k
    induction k with
    | zero =>
      intro i h e
      have : U[i].s = 1 := by rw [← d]; congr 2; omega
      omega
    | succ k ih =>
      intro i h e
      have := ih (i + 1) (by omega) (by omega)
      have := de i (by omega)
      omega
  have hi : ∀ i (h : i < U.length), U[i].s ≤ 1099511627776 := by
    intro i
    induction i with
    | zero => intro h; exact c
    | succ i ih => intro h; have := ih (by omega); have := de i h; omega
  refine ⟨a, b, fun i h => ⟨lo (U.length - 1 - i) i h (by omega), hi i h, ?_⟩, d, de⟩
  obtain ⟨-, q, r⟩ := h2 i h h
  exact ⟨q, fun k hk => (r k hk (by omega)).2⟩
theorem form_len {s : List UInt8} (h : formB s = true) : s.length ≤ 30 := by
  unfold formB onlyB at h
  simp at h
  omega
theorem nDig20 (N : Nat) (h : (N : Int) ≤ 4611686018427387904) : (itx N 1).length ≤ 19 ∧ 1 ≤ (itx N 1).length := by
  unfold itx
  rw [padN_length]
  have := nDigits_le (n := N) (k := 19) (by decide) (by omega)
  omega
theorem lens_le : ∀ (l : List (List UInt8)) (m : Nat), (∀ a ∈ l, a.length ≤ m) → Lib.lens l ≤ m * l.length
  | [], m, _ => by simp [Lib.lens]
  | a :: r, m, h => by
    have h1 := h a (by simp)
    have h2 := lens_le r m fun x hx => h x (by simp [hx])
    simp only [Lib.lens, List.map_cons, List.sum_cons, List.length_cons, Nat.mul_succ] at *
    omega
theorem join_le (l : List (List UInt8)) (sep : List UInt8) (m : Nat) (h : ∀ a ∈ l, a.length ≤ m) : (Lib.join l sep).length ≤ (m + sep.length) * l.length := by
  cases l with
  | nil => simp [Lib.join]
  | cons x r =>
    rw [Lib.join_length]
    have := lens_le (x :: r) m h
    rw [Nat.add_mul]
    have := Nat.mul_le_mul_left sep.length (show r.length ≤ (x :: r).length by simp)
    omega
end Go.Proofs.YtnhdmnhfllecgaaGreatDoor
/- The reference's decimal text, up to 2^62. -/
namespace Go.Proofs.YtnhdmnhfllecgaaGreatDoor
set_option linter.unusedVariables false
set_option linter.unusedSimpArgs false
open Go.RowKit

def strLn (v : Value) : Nat := match v with | .string s => s.size | _ => 0
theorem app2_str (a b : List UInt8) : (⟨a.toArray⟩ : ByteArray) ++ ⟨b.toArray⟩ = ⟨(a ++ b).toArray⟩ := by
  apply ByteArray.ext; simp
theorem conv1 (w : World) (x : UInt8) : (convert 94 9 (.slice (some ⟨w.heap.size, 0, none⟩) 1 1)).run Tryz.prog (w.alloc (.cells #[.int .u8 (x.toNat : Int)] 5)) = .ok (.string ⟨[x].toArray⟩) (w.alloc (.cells #[.int .u8 (x.toNat : Int)] 5)) := by
  refine run_convert_bytes_back (P := Tryz.prog) _ 94 9 5 ⟨w.heap.size, 0, none⟩ 1 [x] (by kernel_rfl) (by kernel_rfl) (by kernel_rfl) ?_
  intro j hj
  obtain rfl : j = 0 := by simpa using hj
  show (w.alloc _).cell? ⟨w.heap.size, 0 + 0, none⟩ = _
  rw [World.cell?_alloc_new]
  rfl
theorem dg1_int (n : Nat) : ((48 + ((n : Int) % 10)) : Int) = ((dg1 n).toNat : Int) := by
  rw [dg1_toNat]; omega
theorem conv2 (w : World) (q : Nat) : (convert 94 9 (.slice (some ⟨w.heap.size, 0, none⟩) 1 1)).run Tryz.prog (w.alloc (.cells #[.int .u8 (48 + (q : Int) % 10)] 5)) = .ok (.string ⟨#[dg1 q]⟩) (w.alloc (.cells #[.int .u8 (48 + (q : Int) % 10)] 5)) := by
  have h := conv1 w (dg1 q)
  rw [← dg1_int] at h
  exact h
theorem nDigits_iff (v j : Nat) (hj : 1 ≤ j) : Lib.nDigits v ≤ j ↔ v < 10 ^ j := by
  constructor
  · intro h
    exact Nat.lt_of_lt_of_le (Lib.lt_pow_nDigits v) (Nat.pow_le_pow_right (by decide) h)
  · exact nDigits_le hj
set_option maxRecDepth 100000 in
set_option maxHeartbeats 1000000 in
theorem rtext_c (v wd : Nat) (X : List UInt8) (w : World) (hv : (v : Int) ≤ 4611686018427387904) (hwd : wd ≤ 20) (hX : itx v wd = X) :
    Calls Tryz.prog 64 #[.int .i64 (v : Int), .int .i64 (wd : Int)] w fun e w' => e = .returned (.string ⟨X.toArray⟩) ∧ Ext w w' := by
  have HX := Lib.hid hX
  clear hX
  have hc1 := conv2
  have e1 : ¬ (wd : Int) < 0 := by omega
  have e2 : ¬ (20 : Int) < (wd : Int) := by omega
  go_enter Tryz.func64, Tryz.ntmps64
  go_wp2_with fail
  go_loopw [5, 6] (fun s m wr => ∃ j : Nat, j ≤ Lib.nDigits v ∧ s = .string ⟨(padN j v).toArray⟩ ∧ m = .int .i64 ((v / 10 ^ j : Nat) : Int) ∧ Ext w wr) (fun _ m _ => (intOf m).toNat)
  case atStart => exact ⟨0, Nat.zero_le _, rfl, by simp, Ext.refl _⟩
  case round =>
    obtain ⟨j, hj, rfl, rfl, hE⟩ := hrel
    obtain ⟨m, hm⟩ : ∃ m, m = v / 10 ^ j := ⟨_, rfl⟩
    have hp := padN_length j v
    have hnd : Lib.nDigits v ≤ 19 := nDigits_le (by decide) (by omega)
    have hpc : Hid (dg1 m :: padN j v = padN (j + 1) v) := by rw [Hid, padN_cons, hm]
    have hm10 : v / 10 ^ (j + 1) = m / 10 := by rw [Nat.pow_succ, ← Nat.div_div_eq_div_mul, ← hm]
    have hml : m ≤ 4611686018427387904 := by rw [hm]; exact Nat.le_trans (Nat.div_le_self _ _) (by omega)
    have hjn : Hid (¬ m = 0 → j + 1 ≤ Lib.nDigits v) := fun h => by
      rcases Nat.lt_or_ge j (Lib.nDigits v) with q | q
      · exact q
      · exfalso
        have : v < 10 ^ j := Nat.lt_of_lt_of_le (Lib.lt_pow_nDigits v) (Nat.pow_le_pow_right (by decide) q)
        exact h (by rw [hm]; exact Nat.div_eq_of_lt this)
    have hvj : Hid (m = 0 → v < 10 ^ j) := fun h => by
      rw [hm] at h
      rcases Nat.lt_or_ge v (10 ^ j) with q | q
      · exact q
      · have := Nat.div_pos q (Nat.pow_pos (by decide)); omega
    have Hm10 := Lib.hid hm10
    rw [← hm]
    clear hm hm10
    by_cases h0 : m = 0
    · have hvj2 := Lib.hid (hvj.out h0)
      subst h0
      clear hjn hpc Hm10 hvj
      go_wp2_with fail
      go_loopw [5] (fun s wy => ∃ q : Nat, q ≤ max (Lib.nDigits v) wd ∧ s = .string ⟨(padN q v).toArray⟩ ∧ Hid (v < 10 ^ q) ∧ Ext wr wy) (fun s _ => max (Lib.nDigits v) wd - strLn s)
      case atStart => exact ⟨j, by omega, rfl, hvj2.out, Ext.refl _⟩
      case round =>
        obtain ⟨q, hq, rfl, Hq, hE2⟩ := hrel
        have hq20 : q ≤ 20 := by omega
        have hpq := padN_length q v
        have hpc : Hid (48 :: padN q v = padN (q + 1) v) := by
          rw [Hid, padN_cons, Nat.div_eq_of_lt Hq.out]; rfl
        have HY : Hid (1 ≤ q → wd ≤ q → padN q v = X) := fun a b => by
          rw [← HX.out]
          unfold itx
          have := nDigits_le a Hq.out
          rw [show max (Lib.nDigits v) wd = q by omega]
        have HP := Lib.hid (Lib.nDigits_pos v)
        obtain ⟨L, hL⟩ : ∃ L, L = padN q v := ⟨_, rfl⟩
        have Hq2 : Hid (v < 10 ^ (q + 1)) := Nat.lt_of_lt_of_le Hq.out (Nat.pow_le_pow_right (by decide) (Nat.le_succ q))
        rw [← hL] at hpc HY hpq ⊢
        clear hL
        by_cases hq0 : q = 0
        · subst hq0
          have : L = [] := List.length_eq_zero_iff.1 hpq
          subst this
          go_wp2_with fail
          go_roundw
          case rel => exact ⟨1, by have := HP.out; omega, by rw [← hpc.out]; rfl, Hq2.out, hE2⟩
          case measure => have := HP.out; simp [strLn, ByteArray.size]; omega
        · have hne : ((⟨L.toArray⟩ : ByteArray).toList == []) = false := by
            have : (⟨L.toArray⟩ : ByteArray).toList = L := by simp
            rw [this, beq_eq_false_iff_ne]
            rintro rfl
            simp at hpq; omega
          have hne2 : L.isEmpty = false := by
            cases L with
            | nil => simp at hpq; omega
            | cons _ _ => rfl
          by_cases hqw : q < wd
          · have a1 : (L.length : Int) < (wd : Int) := by omega
            go_wp2_with fail
            go_roundw
            case rel => exact ⟨q + 1, by omega, by rw [← hpc.out]; exact congrArg Value.string (app2_str [48] L), Hq2.out, hE2⟩
            case measure => simp [strLn, ByteArray.size]; omega
          · have a1 : ¬ (L.length : Int) < (wd : Int) := by omega
            have a2 : ¬ (v : Int) < 0 := by omega
            have HF := Lib.hid (HY.out (by omega) (by omega))
            go_wp2_with fail
            go_ret
            exact ⟨by rw [← HF.out]; rfl, hE.trans hE2⟩
    · have hjn2 := Lib.hid (hjn.out h0)
      have b1 : ((m : Int) != 0) = true := by rw [bne_iff_ne]; omega
      have hmod : Int.tmod (m : Int) 10 = (m : Int) % 10 := Int.tmod_eq_emod_of_nonneg (by omega)
      have hdiv : Int.tdiv (m : Int) 10 = ((m / 10 : Nat) : Int) := by rw [Int.tdiv_eq_ediv_of_nonneg (by omega)]; rfl
      have hdiv2 : (m : Int) / 10 = ((m / 10 : Nat) : Int) := rfl
      obtain ⟨y, hy⟩ : ∃ y, y = m / 10 := ⟨_, rfl⟩
      have hy2 : y ≤ 4611686018427387904 := by omega
      have hy3 : y < m := by omega
      rw [← hy] at hdiv hdiv2 Hm10
      clear hy
      have b2 : ¬ (m : Int) % 10 < 0 := by omega
      clear hjn hvj
      go_wp2_with fail
      go_roundw
      case rel => exact ⟨j + 1, hjn2.out, by rw [← hpc.out]; exact congrArg Value.string (app2_str [dg1 m] (padN j v)), by rw [Hm10.out], hE.alloc _⟩
      case measure => simp [intOf]; omega
end Go.Proofs.YtnhdmnhfllecgaaGreatDoor
/- Locales: the reference's join. -/
namespace Go.Proofs.YtnhdmnhfllecgaaGreatDoor
set_option linter.unusedVariables false
set_option linter.unusedSimpArgs false
open Go.RowKit

theorem join_take_succ (ws : List (List UInt8)) (sep : List UInt8) (k : Nat) (h : k < ws.length) : Lib.join (ws.take (k + 1)) sep = Lib.join (ws.take k) sep ++ ((if k = 0 then [] else sep) ++ ws[k]) := by
  cases ws with
  | nil => simp at h
  | cons x r =>
    rw [List.take_succ_cons, Lib.join_cons]
    cases k with
    | zero => simp [Lib.joinTail, Lib.join_nil]
    | succ j =>
      have hj : j < r.length := by simpa using h
      rw [List.take_succ_cons, Lib.join_cons, Lib.joinTail_take_succ sep r j r[j] (List.getElem?_eq_getElem hj), if_neg (Nat.succ_ne_zero j)]
      simp
theorem join_take_le (ws : List (List UInt8)) (sep : List UInt8) (m k : Nat) (h : ∀ a ∈ ws, a.length ≤ m) : (Lib.join (ws.take k) sep).length ≤ (m + sep.length) * ws.length := by
  refine Nat.le_trans (join_le _ sep m (fun a ha => h a (List.mem_of_mem_take ha))) (Nat.mul_le_mul_left _ ?_)
  rw [List.length_take]; omega
theorem own_ext {w w' : World} {base size n : Nat} {e : TypeId} {v : Value} {xs : List Value} (h : w.ownsRow base e size v n xs) (hE : Ext w w') : w'.ownsRow base e size v n xs := by
  obtain ⟨h1, h2⟩ := h
  refine ⟨h1, ?_⟩
  rcases h2 with q | ⟨g, cap, cur, e0, hb, hg, hr⟩
  · exact .inl q
  · refine .inr ⟨g, cap, cur, e0, hb, ?_, hr⟩
    have hlt : g < w.heap.size := by
      rcases Nat.lt_or_ge g w.heap.size with q | q
      · exact q
      · rw [Array.getElem?_eq_none q] at hg; cases hg
    rw [← hg]
    exact hE.block g hlt
set_option maxRecDepth 100000 in
set_option maxHeartbeats 1000000 in
theorem rjoin_c (ws : List (List UInt8)) (R off cap : Nat) (sep X : List UInt8) (w : World) (h : RdS ws R off w) (hc : ws.length ≤ cap) (hc2 : cap ≤ maxLen) (hs : sep.length ≤ 100) (hm : ∀ a ∈ ws, a.length ≤ 1000) (hn : ws.length ≤ 1000) (hX : Lib.join ws sep = X) :
    Calls Tryz.prog 23 #[.slice (some ⟨R, off, none⟩) ws.length cap, .string ⟨sep.toArray⟩] w fun e w' => e = .returned (.string ⟨X.toArray⟩) ∧ w = w' := by
  unfold maxLen at hc2
  have HX := Lib.hid hX
  have HM := Lib.hid hm
  have HR := Lib.hid h
  have HL : Hid (∀ k, (Lib.join (ws.take k) sep).length ≤ 1100000) := fun k => by
    refine Nat.le_trans (join_take_le ws sep 1000 k hm) ?_
    exact Nat.le_trans (Nat.mul_le_mul_left _ hn) (by omega)
  clear hX hm h
  go_enter Tryz.func23, Tryz.ntmps23
  go_wp2_with fail
  go_loop [5, 6] (fun o i => ∃ j : Nat, j ≤ ws.length ∧ i = .int .i64 (j : Int) ∧ o = .string ⟨(Lib.join (ws.take j) sep).toArray⟩) (fun _ i => ws.length - (intOf i).toNat)
  case atStart => exact ⟨0, Nat.zero_le _, rfl, rfl⟩
  case round =>
    obtain ⟨j, hj, rfl, rfl⟩ := hrel
    by_cases hlt : j < ws.length
    · have HS := Lib.hid (join_take_succ ws sep j hlt)
      have hA := HL.out j
      have hal := HM.out ws[j] (List.getElem_mem _)
      have c0 := HR.out.2 j hlt
      obtain ⟨A, hAe⟩ : ∃ A, A = Lib.join (ws.take j) sep := ⟨_, rfl⟩
      obtain ⟨x, hx⟩ : ∃ x, x = ws[j] := ⟨_, rfl⟩
      rw [← hAe] at hA HS ⊢
      rw [← hx] at hal c0 HS
      clear hAe hx
      by_cases h0 : j = 0
      · have HS2 : Hid (Lib.join (ws.take (j + 1)) sep = A ++ x) := by rw [Hid, HS.out, if_pos h0]; simp
        have t1 : decide ((0 : Int) < (j : Int)) = false := by simp; omega
        have t2 : decide (0 < j) = false := by simp; omega
        clear h0 HS
        go_wp2_with fail
        go_round
        case rel => exact ⟨j + 1, by omega, by go_num, by rw [HS2.out]; simp [app2_str]⟩
        case measure => simp [intOf]; omega
      · have HS2 : Hid (Lib.join (ws.take (j + 1)) sep = A ++ (sep ++ x)) := by rw [Hid, HS.out, if_neg h0]
        have t1 : decide ((0 : Int) < (j : Int)) = true := by simp; omega
        have t2 : decide (0 < j) = true := by simp; omega
        clear h0 HS
        go_wp2_with fail
        go_round
        case rel => exact ⟨j + 1, by omega, by go_num, by rw [HS2.out]; simp [app2_str]⟩
        case measure => simp [intOf]; omega
    · obtain rfl : j = ws.length := by omega
      rw [List.take_of_length_le (Nat.le_refl _)]
      rw [HX.out]
      go_wp2_with fail
      go_ret
      exact ⟨rfl, rfl⟩
theorem sjoin_c (ws : List (List UInt8)) (R off cap : Nat) (sep X : List UInt8) (w : World) (h : RdS ws R off w) (hc : ws.length ≤ cap) (hn : ws.length ≤ 1000000) (hl : (Lib.join ws sep).length ≤ 140737488355328) (hX : Lib.join ws sep = X) :
    Calls Tryz.prog 17 #[.slice (some ⟨R, off, none⟩) ws.length cap, .string ⟨sep.toArray⟩] w fun e w' => e = .returned (.string ⟨X.toArray⟩) ∧ Ext w w' := by
  have e1 : (ws.map fun l => (⟨l.toArray⟩ : ByteArray)).map (·.data.toList) = ws := by
    rw [List.map_map]
    exact (List.map_congr_left (fun a _ => by simp)).trans (List.map_id ws)
  have e2 : (⟨sep.toArray⟩ : ByteArray).data.toList = sep := by simp
  have h1 := Tryz.strings_Join R off cap (ws.map fun l => (⟨l.toArray⟩ : ByteArray)) ⟨sep.toArray⟩ w (fun j x hx => by
    rw [List.getElem?_map] at hx
    obtain ⟨l, hl, rfl⟩ := Option.map_eq_some_iff.1 hx
    obtain ⟨hj, rfl⟩ := List.getElem?_eq_some_iff.1 hl
    exact h.2 j hj) h.1 (by rw [List.length_map]; omega) (by rw [List.length_map]; exact hc) (by rw [e1, e2]; exact hl)
  rw [e1, e2, List.length_map, hX] at h1
  exact h1
end Go.Proofs.YtnhdmnhfllecgaaGreatDoor
/- Locales: the walks of categories, the reference's rules, Text$1. -/
namespace Go.Proofs.YtnhdmnhfllecgaaGreatDoor
set_option linter.unusedVariables false
set_option linter.unusedSimpArgs false
open Go.RowKit

theorem lnsC_len (w : List UInt8) (l : List Plu) (hs : shP l) (k : Nat) (hk : k ≤ l.length) : (lnsC w (l.take k)).length ≤ k * (w.length + 14010) := by
  induction k with
  | zero => simp [lnsC]
  | succ k ih =>
    rw [lnsC_succ w l k (by omega), List.length_append]
    have h1 := ih (by omega)
    obtain ⟨h2, h3⟩ := hs l[k] (List.getElem_mem _)
    have h4 : (lnC w l[k]).length ≤ w.length + 14010 := by
      unfold lnC
      simp only [List.length_append, List.length_cons, List.length_nil]
      split
      · simp; omega
      · simp only [List.length_cons]; omega
    rw [Nat.succ_mul]
    omega
theorem lnC_r (w : List UInt8) (c r : List UInt8) (h : r ≠ []) : lnC w ⟨c, r⟩ = w ++ (32 :: (c ++ ((32 :: r) ++ [10]))) := by unfold lnC; simp only; rw [if_neg h]
theorem lnC_0 (w : List UInt8) (c : List UInt8) : lnC w ⟨c, []⟩ = w ++ (32 :: (c ++ [10])) := by unfold lnC; simp
set_option maxRecDepth 100000 in
set_option maxHeartbeats 1000000 in
theorem cats_c (l : List Plu) (ao : Option Addr) (cap : Nat) (wd X : List UInt8) (w : World) (h : PlV ao cap l w) (hs : shP l) (hn : l.length ≤ 100) (hw : wd.length ≤ 100) (hX : lnsC wd l = X) :
    Calls Tryz.prog 19 #[.string ⟨wd.toArray⟩, .slice ao l.length cap] w fun e w' => e = .returned (.string ⟨X.toArray⟩) ∧ Ext w w' := by
  have hlen := h.1
  have hcap := h.2.1
  unfold maxLen at hcap
  have HL := Lib.hid h.2.2
  have Hs := Lib.hid hs
  have HX := Lib.hid hX
  have HLn : Hid (∀ k, k ≤ l.length → (lnsC wd (l.take k)).length ≤ 2000000) := fun k hk => by
    refine Nat.le_trans (lnsC_len wd l hs k hk) ?_
    exact Nat.le_trans (Nat.mul_le_mul (Nat.le_trans hk hn) (by omega : wd.length + 14010 ≤ 14110)) (by decide)
  clear h hs hX
  go_enter Tryz.func19, Tryz.ntmps19
  go_wp2_with fail
  go_loopw [5, 10] (fun s i wr => ∃ j : Nat, j ≤ l.length ∧ i = .int .i64 (j : Int) ∧ s = .string ⟨(lnsC wd (l.take j)).toArray⟩ ∧ Ext w wr) (fun _ i _ => l.length - (intOf i).toNat)
  case atStart => exact ⟨0, Nat.zero_le _, rfl, rfl, Ext.refl _⟩
  case round =>
    obtain ⟨j, hj, rfl, rfl, hE⟩ := hrel
    by_cases hlt : j < l.length
    · obtain ⟨R, off, rfl, hR0, hc⟩ := HL.out (by rintro rfl; simp at hlt)
      obtain ⟨c0, c1⟩ := hc j hlt
      replace c0 := (hE.cells R _ hR0).trans c0
      replace c1 := (hE.cells R _ hR0).trans c1
      have hRr := hE.lt hR0
      have hsz := Hs.out l[j] (List.getElem_mem _)
      have hSl := HLn.out j (by omega)
      have HS := Lib.hid (lnsC_succ wd l j hlt)
      obtain ⟨p, hp⟩ : ∃ p, p = l[j] := ⟨_, rfl⟩
      obtain ⟨A, hA⟩ : ∃ A, A = lnsC wd (l.take j) := ⟨_, rfl⟩
      rw [← hp] at c0 c1 hsz HS
      rw [← hA] at hSl HS ⊢
      clear hp hc hA
      obtain ⟨pc, pr⟩ := p
      simp only at c0 c1 hsz HS
      obtain ⟨z1, z2⟩ := hsz
      by_cases h0 : pr = []
      · subst h0
        have HS2 : Hid (lnsC wd (l.take (j + 1)) = A ++ (wd ++ (32 :: (pc ++ [10])))) := by rw [Hid, HS.out, lnC_0]
        clear HS
        go_wp2_with fail
        go_roundw
        case rel => exact ⟨j + 1, by omega, by go_num, by rw [HS2.out]; congr 1; apply ByteArray.ext; simp, hE.trans ((Ext.refl wr).alloc _)⟩
        case measure => simp [intOf]; omega
      · have HS2 : Hid (lnsC wd (l.take (j + 1)) = A ++ (wd ++ (32 :: (pc ++ ((32 :: pr) ++ [10]))))) := by rw [Hid, HS.out, lnC_r wd pc pr h0]
        have t1 : (pr == []) = false := by simpa using h0
        have t2 : (pr != []) = true := by simpa using h0
        have t3 : pr.isEmpty = false := by simpa using h0
        have Hh0 := Lib.hid h0
        clear HS h0
        go_wp2_with fail
        go_roundw
        case rel => exact ⟨j + 1, by omega, by go_num, by rw [HS2.out]; congr 1; apply ByteArray.ext; simp, hE.trans ((Ext.refl wr).alloc _)⟩
        case measure => simp [intOf]; omega
    · obtain rfl : j = l.length := by omega
      rw [List.take_of_length_le (Nat.le_refl _), HX.out]
      go_wp2_with fail
      go_ret
      exact ⟨rfl, hE⟩
set_option maxRecDepth 100000 in
set_option maxHeartbeats 1000000 in
theorem rrules_c (l : List Plu) (ao : Option Addr) (cap : Nat) (wd X : List UInt8) (w : World) (h : PlV ao cap l w) (hs : shP l) (hn : l.length ≤ 100) (hw : wd.length ≤ 100) (hX : lnsC wd l = X) :
    Calls Tryz.prog 24 #[.string ⟨wd.toArray⟩, .slice ao l.length cap] w fun e w' => e = .returned (.string ⟨X.toArray⟩) ∧ w = w' := by
  have hlen := h.1
  have hcap := h.2.1
  unfold maxLen at hcap
  have HL := Lib.hid h.2.2
  have Hs := Lib.hid hs
  have HX := Lib.hid hX
  have HLn : Hid (∀ k, k ≤ l.length → (lnsC wd (l.take k)).length ≤ 2000000) := fun k hk => by
    refine Nat.le_trans (lnsC_len wd l hs k hk) ?_
    exact Nat.le_trans (Nat.mul_le_mul (Nat.le_trans hk hn) (by omega : wd.length + 14010 ≤ 14110)) (by decide)
  clear h hs hX
  go_enter Tryz.func24, Tryz.ntmps24
  go_wp2_with fail
  go_loop [5, 6] (fun s i => ∃ j : Nat, j ≤ l.length ∧ i = .int .i64 (j : Int) ∧ s = .string ⟨(lnsC wd (l.take j)).toArray⟩) (fun _ i => l.length - (intOf i).toNat)
  case atStart => exact ⟨0, Nat.zero_le _, rfl, rfl⟩
  case round =>
    obtain ⟨j, hj, rfl, rfl⟩ := hrel
    by_cases hlt : j < l.length
    · obtain ⟨R, off, rfl, hR0, hc⟩ := HL.out (by rintro rfl; simp at hlt)
      obtain ⟨c0, c1⟩ := hc j hlt
      have hsz := Hs.out l[j] (List.getElem_mem _)
      have hSl := HLn.out j (by omega)
      have HS := Lib.hid (lnsC_succ wd l j hlt)
      obtain ⟨p, hp⟩ : ∃ p, p = l[j] := ⟨_, rfl⟩
      obtain ⟨A, hA⟩ : ∃ A, A = lnsC wd (l.take j) := ⟨_, rfl⟩
      rw [← hp] at c0 c1 hsz HS
      rw [← hA] at hSl HS ⊢
      clear hp hc hA
      obtain ⟨pc, pr⟩ := p
      simp only at c0 c1 hsz HS
      obtain ⟨z1, z2⟩ := hsz
      by_cases h0 : pr = []
      · subst h0
        have HS2 : Hid (lnsC wd (l.take (j + 1)) = A ++ (wd ++ (32 :: (pc ++ [10])))) := by rw [Hid, HS.out, lnC_0]
        clear HS
        go_wp2_with fail
        go_round
        case rel => exact ⟨j + 1, by omega, by go_num, by rw [HS2.out]; congr 1; apply ByteArray.ext; simp⟩
        case measure => simp [intOf]; omega
      · have HS2 : Hid (lnsC wd (l.take (j + 1)) = A ++ (wd ++ (32 :: (pc ++ ((32 :: pr) ++ [10]))))) := by rw [Hid, HS.out, lnC_r wd pc pr h0]
        have t1 : (pr == []) = false := by simpa using h0
        have t2 : (pr != []) = true := by simpa using h0
        have t3 : pr.isEmpty = false := by simpa using h0
        have Hh0 := Lib.hid h0
        clear HS h0
        go_wp2_with fail
        go_round
        case rel => exact ⟨j + 1, by omega, by go_num, by rw [HS2.out]; congr 1; apply ByteArray.ext; simp⟩
        case measure => simp [intOf]; omega
    · obtain rfl : j = l.length := by omega
      rw [List.take_of_length_le (Nat.le_refl _), HX.out]
      go_wp2_with fail
      go_ret
      exact ⟨rfl, rfl⟩
/-- A line with names, by the program. -/
theorem txj_c (wd : List UInt8) (ws : List (List UInt8)) (R off cap : Nat) (X : List UInt8) (w : World) (h : RdS ws R off w) (hc : ws.length ≤ cap) (hn : ws.length ≤ 1000) (hm : ∀ a ∈ ws, a.length ≤ 1000) (hw : wd.length ≤ 1000) (hX : lnN wd ws = X) :
    Calls Tryz.prog 18 #[.string ⟨wd.toArray⟩, .slice (some ⟨R, off, none⟩) ws.length cap] w fun e w' => e = .returned (.string ⟨X.toArray⟩) ∧ Ext w w' := by
  obtain ⟨J, hJ⟩ : ∃ J, Lib.join ws [44] = J := ⟨_, rfl⟩
  have hJl : J.length ≤ 1001000 := by
    rw [← hJ]
    refine Nat.le_trans (join_le ws [44] 1000 hm) ?_
    exact Nat.le_trans (Nat.mul_le_mul_left _ hn) (by decide)
  have HJ : Hid (Calls Tryz.prog 17 #[.slice (some ⟨R, off, none⟩) ws.length cap, .string ⟨#[44]⟩] w fun e w' => e = .returned (.string ⟨J.toArray⟩) ∧ Ext w w') := sjoin_c ws R off cap [44] J w h hc (by omega) (by rw [hJ]; omega) hJ
  have HX : Hid (X = wd ++ (32 :: (J ++ [10]))) := by rw [Hid, ← hX, ← hJ]; rfl
  clear hX hJ h hm
  go_enter Tryz.func18, Tryz.ntmps18
  go_wp2_with (first
    | (go_at_call 17; (with_reducible refine HJ.out.mono ?_); rintro e w1 ⟨rfl, hE1⟩))
  go_ret
  exact ⟨ret_s (by rw [HX.out]; apply ByteArray.ext; simp), hE1⟩
theorem txj_l (wd : List UInt8) (ws : List (List UInt8)) (R off n : Nat) (X : List UInt8) (w : World) (h : RdS ws R off w) (hn : ws.length = n) (hn2 : n ≤ 100) (hm : ∀ a ∈ ws, a.length ≤ 30) (hw : wd.length ≤ 1000) (hX : lnN wd ws = X) :
    Calls Tryz.prog 18 #[.string ⟨wd.toArray⟩, .slice (some ⟨R, off, none⟩) n n] w fun e w' => e = .returned (.string ⟨X.toArray⟩) ∧ Ext w w' := by
  have := txj_c wd ws R off n X w h (by omega) (by omega) (fun a ha => by have := hm a ha; omega) hw hX
  rwa [hn] at this
end Go.Proofs.YtnhdmnhfllecgaaGreatDoor
