/- Locales: durations and relative times, plainly. -/
import Derived.Test.YtnhdmnhfllecgaaGreatDoorQ24
import Derived.Test.YtnhdmnhfllecgaaGreatDoorQ06
import Derived.Test.YtnhdmnhfllecgaaGreatDoorQ07
import Derived.Test.YtnhdmnhfllecgaaGreatDoorQ05
import Derived.Test.YtnhdmnhfllecgaaGreatDoorQ09
import Derived.Test.YtnhdmnhfllecgaaGreatDoorQ01
import Derived.Lib.Join
import Derived.Laws.IdiomStrings
import Derived.Test.YtnhdmnhfllecgaaGreatDoorShelf
import Derived.Deep.AppendLies
import Derived.Laws.OwnMore
namespace Go.Proofs.YtnhdmnhfllecgaaGreatDoor
set_option linter.unusedVariables false
set_option linter.unusedSimpArgs false
open Go.RowKit

/-- A number with its form. -/
def amt (P f : List Plu) (N : Nat) : List UInt8 := itx N 1 ++ 32 :: ((f[fstI N P]?.map (·.r)).getD [])
def lastF (U : List Uni) : List Plu := (U[U.length - 1]?.map (·.f)).getD []
def dstep (P : List Plu) (st : List (List UInt8) × Nat) (u : Uni) : List (List UInt8) × Nat :=
  (if st.2 / u.s.natAbs = 0 then st.1 else st.1 ++ [amt P u.f (st.2 / u.s.natAbs)], st.2 % u.s.natAbs)
/-- The amounts of a number of seconds, and what is left. -/
def dst (P : List Plu) (U : List Uni) (N : Nat) : List (List UInt8) × Nat := U.foldl (dstep P) ([], N)
def dnrB (n : Int) : Bool := decide (-4398046511104 ≤ n ∧ n ≤ 4398046511104)
noncomputable def duE (L : Loc) (n : Int) : Nat := if validLB L = false then 1 else if dnrB n = false then 2 else 0
noncomputable def duV (L : Loc) (n : Int) : List UInt8 := if duE L n ≠ 0 then [] else if n = 0 then amt L.P (lastF L.U) 0 else
  (if n < 0 then [45] else []) ++ Lib.join (dst L.P L.U n.natAbs).1 [44, 32]
def tmB (t : Int) : Bool := decide (-62135596800 ≤ t ∧ t ≤ 253402300800)
noncomputable def reE (L : Loc) (t now : Int) : Nat := if validLB L = false then 1 else if (tmB t && tmB now) = false then 2 else 0
/-- The first unit that is not greater. -/
def uIx (U : List Uni) (d : Nat) : Nat := U.findIdx fun u => decide (u.s ≤ (d : Int))
noncomputable def reV (L : Loc) (t now : Int) : List UInt8 := if reE L t now ≠ 0 then [] else if t = now then amt L.P (lastF L.U) 0 else
  (if now < t then 43 else 45) :: (let d := (t - now).natAbs; let i := uIx L.U d; amt L.P ((L.U[i]?.map (fun u : Uni => u.f)).getD []) (d / ((L.U[i]?.map (fun u : Uni => u.s)).getD 1).natAbs))

theorem vu {L : Loc} (h : validLB L = true) : uHead L.U ∧ ∀ i, i < L.U.length → unAt L.P L.U i := by
  unfold validLB unB at h
  simp only [Bool.and_eq_true] at h
  exact @of_decide_eq_true _ (_) h.2
structure UF (P : List Plu) (U : List Uni) : Prop where
  one : 1 ≤ U.length
  ten : U.length ≤ 10
  at_ : ∀ i (h : i < U.length), 1 ≤ U[i].s ∧ U[i].s ≤ 1099511627776 ∧ U[i].f.length = P.length ∧ ∀ k (hk : k < U[i].f.length), formB (U[i].f[k]).r = true
  last : (U[U.length - 1]'(by omega)).s = 1
  desc : ∀ i (h : i + 1 < U.length), U[i + 1].s < (U[i]'(by omega)).s
theorem uf_of {P : List Plu} {U : List Uni} (h1 : uHead U) (h2 : ∀ i, i < U.length → unAt P U i) : UF P U := by
  obtain ⟨a, b, c, d⟩ := h1
  have de : ∀ i (h : i + 1 < U.length), U[i + 1].s < (U[i]'(by omega)).s := fun i h => by
    obtain ⟨q, -⟩ := h2 (i + 1) h h
    have := q (by omega)
    simpa using this
  have lo : ∀ k i (h : i < U.length), i + 1 + k = U.length → 1 ≤ U[i].s := by
    intro k
    induction k with
    | zero =>
      intro i h e
      have : U[i].s = 1 := by rw [← d]; congr 2; omega
      omega
    | succ k ih =>
      intro i h e
      have := ih (i + 1) (by omega) (by omega)
      have := de i (by omega)
      omega
  have hi : ∀ i (h : i < U.length), U[i].s ≤ 1099511627776 := by
    intro i
    induction i with
    | zero => intro h; exact c
    | succ i ih => intro h; have := ih (by omega); have := de i h; omega
  refine ⟨a, b, fun i h => ⟨lo (U.length - 1 - i) i h (by omega), hi i h, ?_⟩, d, de⟩
  obtain ⟨-, q, r⟩ := h2 i h h
  exact ⟨q, fun k hk => (r k hk (by omega)).2⟩
theorem form_len {s : List UInt8} (h : formB s = true) : s.length ≤ 30 := by
  unfold formB onlyB at h
  simp at h
  omega
theorem lastF_eq {P : List Plu} {U : List Uni} (h : UF P U) : lastF U = (U[U.length - 1]'(by have := h.one; omega)).f := by
  unfold lastF
  rw [List.getElem?_eq_getElem (by have := h.one; omega)]; rfl
theorem dst_succ (P : List Plu) (U : List Uni) (N j : Nat) (h : j < U.length) : dst P (U.take (j + 1)) N = dstep P (dst P (U.take j) N) U[j] := by
  unfold dst
  rw [List.take_succ_eq_append_getElem h, List.foldl_append]; rfl
theorem dst_le (P : List Plu) (U : List Uni) (N j : Nat) (h : j ≤ U.length) : (dst P (U.take j) N).2 ≤ N ∧ (dst P (U.take j) N).1.length ≤ j ∧ ((dst P (U.take j) N).1 = [] → (dst P (U.take j) N).2 = N) := by
  induction j with
  | zero => exact ⟨Nat.le_refl _, Nat.le_refl _, fun _ => rfl⟩
  | succ j ih =>
    obtain ⟨a, b, c⟩ := ih (by omega)
    rw [dst_succ P U N j (by omega)]
    generalize dst P (U.take j) N = st at *
    refine ⟨Nat.le_trans (Nat.mod_le _ _) a, ?_, ?_⟩
    · unfold dstep
      dsimp only
      split
      · omega
      · simp; omega
    · unfold dstep
      dsimp only
      intro e
      split at e
      · rename_i q
        have hs := c e
        rcases Nat.eq_zero_or_pos (U[j]'(by omega)).s.natAbs with z | z
        · rw [z, Nat.mod_zero]; exact hs
        · rw [Nat.mod_eq_of_lt]
          · exact hs
          · exact (Nat.div_eq_zero_iff_lt z).1 q
      · simp at e
theorem dst_end {P Q : List Plu} {U : List Uni} (h : UF P U) (N : Nat) : (dst Q U N).2 = 0 ∧ (0 < N → (dst Q U N).1 ≠ []) := by
  have h1 := h.one
  have e : (dst Q U N).2 = 0 := by
    have := dst_succ Q U N (U.length - 1) (by omega)
    rw [List.take_of_length_le (by omega)] at this
    rw [this]
    unfold dstep
    dsimp only
    have := h.last
    rw [this]
    exact Nat.mod_one _
  refine ⟨e, fun hN hn => ?_⟩
  have := (dst_le Q U N U.length (Nat.le_refl _)).2.2
  rw [List.take_of_length_le (Nat.le_refl _)] at this
  have := this hn
  omega
theorem nDig20 (N : Nat) (h : (N : Int) ≤ 4611686018427387904) : (itx N 1).length ≤ 19 ∧ 1 ≤ (itx N 1).length := by
  unfold itx
  rw [padN_length]
  have := nDigits_le (n := N) (k := 19) (by decide) (by omega)
  omega
theorem amt_len {P f : List Plu} {N : Nat} (h : ∀ k (hk : k < f.length), formB (f[k]).r = true) (hN : (N : Int) ≤ 4611686018427387904) : (amt P f N).length ≤ 50 := by
  unfold amt
  have h1 := nDig20 N hN
  have h2 : ((f[fstI N P]?.map (·.r)).getD []).length ≤ 30 := by
    rcases Nat.lt_or_ge (fstI N P) f.length with q | q
    · rw [List.getElem?_eq_getElem q]
      exact form_len (h _ q)
    · rw [List.getElem?_eq_none q]; simp
  simp only [List.length_append, List.length_cons]
  omega
theorem dst_mem {P : List Plu} {U : List Uni} (h : UF P U) {N j : Nat} (hN : (N : Int) ≤ 4611686018427387904) (hj : j ≤ U.length) : ∀ a ∈ (dst P (U.take j) N).1, a.length ≤ 50 := by
  induction j with
  | zero => intro a ha; simp [dst] at ha
  | succ j ih =>
    rw [dst_succ P U N j (by omega)]
    have h2 := (dst_le P U N j (by omega)).1
    have h0 := ih (by omega)
    generalize dst P (U.take j) N = st at *
    intro a ha
    unfold dstep at ha
    dsimp only at ha
    split at ha
    · exact h0 a ha
    · rcases List.mem_append.1 ha with q | q
      · exact h0 a q
      · rw [List.mem_singleton.1 q]
        refine amt_len (h.at_ j (by omega)).2.2.2 ?_
        have := Nat.div_le_self st.2 (U[j]'(by omega)).s.natAbs
        omega
theorem lens_le : ∀ (l : List (List UInt8)) (m : Nat), (∀ a ∈ l, a.length ≤ m) → Lib.lens l ≤ m * l.length
  | [], m, _ => by simp [Lib.lens]
  | a :: r, m, h => by
    have h1 := h a (by simp)
    have h2 := lens_le r m fun x hx => h x (by simp [hx])
    simp only [Lib.lens, List.map_cons, List.sum_cons, List.length_cons, Nat.mul_succ] at *
    omega
theorem join_le (l : List (List UInt8)) (sep : List UInt8) (m : Nat) (h : ∀ a ∈ l, a.length ≤ m) : (Lib.join l sep).length ≤ (m + sep.length) * l.length := by
  cases l with
  | nil => simp [Lib.join]
  | cons x r =>
    rw [Lib.join_length]
    have := lens_le (x :: r) m h
    rw [Nat.add_mul]
    have := Nat.mul_le_mul_left sep.length (show r.length ≤ (x :: r).length by simp)
    omega
end Go.Proofs.YtnhdmnhfllecgaaGreatDoor
/- The reference's decimal text, up to 2^62. -/
namespace Go.Proofs.YtnhdmnhfllecgaaGreatDoor
set_option linter.unusedVariables false
set_option linter.unusedSimpArgs false
open Go.RowKit

def strLn (v : Value) : Nat := match v with | .string s => s.size | _ => 0
theorem app2_str (a b : List UInt8) : (⟨a.toArray⟩ : ByteArray) ++ ⟨b.toArray⟩ = ⟨(a ++ b).toArray⟩ := by
  apply ByteArray.ext; simp
theorem conv1 (w : World) (x : UInt8) : (convert 94 9 (.slice (some ⟨w.heap.size, 0, none⟩) 1 1)).run Tryz.prog (w.alloc (.cells #[.int .u8 (x.toNat : Int)] 5)) = .ok (.string ⟨[x].toArray⟩) (w.alloc (.cells #[.int .u8 (x.toNat : Int)] 5)) := by
  refine run_convert_bytes_back (P := Tryz.prog) _ 94 9 5 ⟨w.heap.size, 0, none⟩ 1 [x] (by kernel_rfl) (by kernel_rfl) (by kernel_rfl) ?_
  intro j hj
  obtain rfl : j = 0 := by simpa using hj
  show (w.alloc _).cell? ⟨w.heap.size, 0 + 0, none⟩ = _
  rw [World.cell?_alloc_new]
  rfl
theorem dg1_int (n : Nat) : ((48 + ((n : Int) % 10)) : Int) = ((dg1 n).toNat : Int) := by
  rw [dg1_toNat]; omega
theorem conv2 (w : World) (q : Nat) : (convert 94 9 (.slice (some ⟨w.heap.size, 0, none⟩) 1 1)).run Tryz.prog (w.alloc (.cells #[.int .u8 (48 + (q : Int) % 10)] 5)) = .ok (.string ⟨#[dg1 q]⟩) (w.alloc (.cells #[.int .u8 (48 + (q : Int) % 10)] 5)) := by
  have h := conv1 w (dg1 q)
  rw [← dg1_int] at h
  exact h
theorem nDigits_iff (v j : Nat) (hj : 1 ≤ j) : Lib.nDigits v ≤ j ↔ v < 10 ^ j := by
  constructor
  · intro h
    exact Nat.lt_of_lt_of_le (Lib.lt_pow_nDigits v) (Nat.pow_le_pow_right (by decide) h)
  · exact nDigits_le hj
set_option maxRecDepth 100000 in
set_option maxHeartbeats 1000000 in
theorem rtext_c (v wd : Nat) (X : List UInt8) (w : World) (hv : (v : Int) ≤ 4611686018427387904) (hwd : wd ≤ 20) (hX : itx v wd = X) :
    Calls Tryz.prog 64 #[.int .i64 (v : Int), .int .i64 (wd : Int)] w fun e w' => e = .returned (.string ⟨X.toArray⟩) ∧ Ext w w' := by
  have HX := Lib.hid hX
  clear hX
  have hc1 := conv2
  have e1 : ¬ (wd : Int) < 0 := by omega
  have e2 : ¬ (20 : Int) < (wd : Int) := by omega
  go_enter Tryz.func64, Tryz.ntmps64
  go_wp2_with fail
  go_loopw [5, 6] (fun s m wr => ∃ j : Nat, j ≤ Lib.nDigits v ∧ s = .string ⟨(padN j v).toArray⟩ ∧ m = .int .i64 ((v / 10 ^ j : Nat) : Int) ∧ Ext w wr) (fun _ m _ => (intOf m).toNat)
  case atStart => exact ⟨0, Nat.zero_le _, rfl, by simp, Ext.refl _⟩
  case round =>
    obtain ⟨j, hj, rfl, rfl, hE⟩ := hrel
    obtain ⟨m, hm⟩ : ∃ m, m = v / 10 ^ j := ⟨_, rfl⟩
    have hp := padN_length j v
    have hnd : Lib.nDigits v ≤ 19 := nDigits_le (by decide) (by omega)
    have hpc : Hid (dg1 m :: padN j v = padN (j + 1) v) := by rw [Hid, padN_cons, hm]
    have hm10 : v / 10 ^ (j + 1) = m / 10 := by rw [Nat.pow_succ, ← Nat.div_div_eq_div_mul, ← hm]
    have hml : m ≤ 4611686018427387904 := by rw [hm]; exact Nat.le_trans (Nat.div_le_self _ _) (by omega)
    have hjn : Hid (¬ m = 0 → j + 1 ≤ Lib.nDigits v) := fun h => by
      rcases Nat.lt_or_ge j (Lib.nDigits v) with q | q
      · exact q
      · exfalso
        have : v < 10 ^ j := Nat.lt_of_lt_of_le (Lib.lt_pow_nDigits v) (Nat.pow_le_pow_right (by decide) q)
        exact h (by rw [hm]; exact Nat.div_eq_of_lt this)
    have hvj : Hid (m = 0 → v < 10 ^ j) := fun h => by
      rw [hm] at h
      rcases Nat.lt_or_ge v (10 ^ j) with q | q
      · exact q
      · have := Nat.div_pos q (Nat.pow_pos (by decide)); omega
    have Hm10 := Lib.hid hm10
    rw [← hm]
    clear hm hm10
    by_cases h0 : m = 0
    · have hvj2 := Lib.hid (hvj.out h0)
      subst h0
      clear hjn hpc Hm10 hvj
      go_wp2_with fail
      go_loopw [5] (fun s wy => ∃ q : Nat, q ≤ max (Lib.nDigits v) wd ∧ s = .string ⟨(padN q v).toArray⟩ ∧ Hid (v < 10 ^ q) ∧ Ext wr wy) (fun s _ => max (Lib.nDigits v) wd - strLn s)
      case atStart => exact ⟨j, by omega, rfl, hvj2.out, Ext.refl _⟩
      case round =>
        obtain ⟨q, hq, rfl, Hq, hE2⟩ := hrel
        have hq20 : q ≤ 20 := by omega
        have hpq := padN_length q v
        have hpc : Hid (48 :: padN q v = padN (q + 1) v) := by
          rw [Hid, padN_cons, Nat.div_eq_of_lt Hq.out]; rfl
        have HY : Hid (1 ≤ q → wd ≤ q → padN q v = X) := fun a b => by
          rw [← HX.out]
          unfold itx
          have := nDigits_le a Hq.out
          rw [show max (Lib.nDigits v) wd = q by omega]
        have HP := Lib.hid (Lib.nDigits_pos v)
        obtain ⟨L, hL⟩ : ∃ L, L = padN q v := ⟨_, rfl⟩
        have Hq2 : Hid (v < 10 ^ (q + 1)) := Nat.lt_of_lt_of_le Hq.out (Nat.pow_le_pow_right (by decide) (Nat.le_succ q))
        rw [← hL] at hpc HY hpq ⊢
        clear hL
        by_cases hq0 : q = 0
        · subst hq0
          have : L = [] := List.length_eq_zero_iff.1 hpq
          subst this
          go_wp2_with fail
          go_roundw
          case rel => exact ⟨1, by have := HP.out; omega, by rw [← hpc.out]; rfl, Hq2.out, hE2⟩
          case measure => have := HP.out; simp [strLn, ByteArray.size]; omega
        · have hne : ((⟨L.toArray⟩ : ByteArray).toList == []) = false := by
            have : (⟨L.toArray⟩ : ByteArray).toList = L := by simp
            rw [this, beq_eq_false_iff_ne]
            rintro rfl
            simp at hpq; omega
          have hne2 : L.isEmpty = false := by
            cases L with
            | nil => simp at hpq; omega
            | cons _ _ => rfl
          by_cases hqw : q < wd
          · have a1 : (L.length : Int) < (wd : Int) := by omega
            go_wp2_with fail
            go_roundw
            case rel => exact ⟨q + 1, by omega, by rw [← hpc.out]; exact congrArg Value.string (app2_str [48] L), Hq2.out, hE2⟩
            case measure => simp [strLn, ByteArray.size]; omega
          · have a1 : ¬ (L.length : Int) < (wd : Int) := by omega
            have a2 : ¬ (v : Int) < 0 := by omega
            have HF := Lib.hid (HY.out (by omega) (by omega))
            go_wp2_with fail
            go_ret
            exact ⟨by rw [← HF.out]; rfl, hE.trans hE2⟩
    · have hjn2 := Lib.hid (hjn.out h0)
      have b1 : ((m : Int) != 0) = true := by rw [bne_iff_ne]; omega
      have hmod : Int.tmod (m : Int) 10 = (m : Int) % 10 := Int.tmod_eq_emod_of_nonneg (by omega)
      have hdiv : Int.tdiv (m : Int) 10 = ((m / 10 : Nat) : Int) := by rw [Int.tdiv_eq_ediv_of_nonneg (by omega)]; rfl
      have hdiv2 : (m : Int) / 10 = ((m / 10 : Nat) : Int) := rfl
      obtain ⟨y, hy⟩ : ∃ y, y = m / 10 := ⟨_, rfl⟩
      have hy2 : y ≤ 4611686018427387904 := by omega
      have hy3 : y < m := by omega
      rw [← hy] at hdiv hdiv2 Hm10
      clear hy
      have b2 : ¬ (m : Int) % 10 < 0 := by omega
      clear hjn hvj
      go_wp2_with fail
      go_roundw
      case rel => exact ⟨j + 1, hjn2.out, by rw [← hpc.out]; exact congrArg Value.string (app2_str [dg1 m] (padN j v)), by rw [Hm10.out], hE.alloc _⟩
      case measure => simp [intOf]; omega
end Go.Proofs.YtnhdmnhfllecgaaGreatDoor
/- Locales: the reference's join. -/
namespace Go.Proofs.YtnhdmnhfllecgaaGreatDoor
set_option linter.unusedVariables false
set_option linter.unusedSimpArgs false
open Go.RowKit

theorem join_take_succ (ws : List (List UInt8)) (sep : List UInt8) (k : Nat) (h : k < ws.length) : Lib.join (ws.take (k + 1)) sep = Lib.join (ws.take k) sep ++ ((if k = 0 then [] else sep) ++ ws[k]) := by
  cases ws with
  | nil => simp at h
  | cons x r =>
    rw [List.take_succ_cons, Lib.join_cons]
    cases k with
    | zero => simp [Lib.joinTail, Lib.join_nil]
    | succ j =>
      have hj : j < r.length := by simpa using h
      rw [List.take_succ_cons, Lib.join_cons, Lib.joinTail_take_succ sep r j r[j] (List.getElem?_eq_getElem hj), if_neg (Nat.succ_ne_zero j)]
      simp
theorem join_take_le (ws : List (List UInt8)) (sep : List UInt8) (m k : Nat) (h : ∀ a ∈ ws, a.length ≤ m) : (Lib.join (ws.take k) sep).length ≤ (m + sep.length) * ws.length := by
  refine Nat.le_trans (join_le _ sep m (fun a ha => h a (List.mem_of_mem_take ha))) (Nat.mul_le_mul_left _ ?_)
  rw [List.length_take]; omega
theorem own_ext {w w' : World} {base size n : Nat} {e : TypeId} {v : Value} {xs : List Value} (h : w.ownsRow base e size v n xs) (hE : Ext w w') : w'.ownsRow base e size v n xs := by
  obtain ⟨h1, h2⟩ := h
  refine ⟨h1, ?_⟩
  rcases h2 with q | ⟨g, cap, cur, e0, hb, hg, hr⟩
  · exact .inl q
  · refine .inr ⟨g, cap, cur, e0, hb, ?_, hr⟩
    have hlt : g < w.heap.size := by
      rcases Nat.lt_or_ge g w.heap.size with q | q
      · exact q
      · rw [Array.getElem?_eq_none q] at hg; cases hg
    rw [← hg]
    exact hE.block g hlt
set_option maxRecDepth 100000 in
set_option maxHeartbeats 1000000 in
theorem rjoin_c (ws : List (List UInt8)) (R off cap : Nat) (sep X : List UInt8) (w : World) (h : RdS ws R off w) (hc : ws.length ≤ cap) (hc2 : cap ≤ maxLen) (hs : sep.length ≤ 100) (hm : ∀ a ∈ ws, a.length ≤ 1000) (hn : ws.length ≤ 1000) (hX : Lib.join ws sep = X) :
    Calls Tryz.prog 23 #[.slice (some ⟨R, off, none⟩) ws.length cap, .string ⟨sep.toArray⟩] w fun e w' => e = .returned (.string ⟨X.toArray⟩) ∧ w = w' := by
  unfold maxLen at hc2
  have HX := Lib.hid hX
  have HM := Lib.hid hm
  have HR := Lib.hid h
  have HL : Hid (∀ k, (Lib.join (ws.take k) sep).length ≤ 1100000) := fun k => by
    refine Nat.le_trans (join_take_le ws sep 1000 k hm) ?_
    exact Nat.le_trans (Nat.mul_le_mul_left _ hn) (by omega)
  clear hX hm h
  go_enter Tryz.func23, Tryz.ntmps23
  go_wp2_with fail
  go_loop [5, 6] (fun o i => ∃ j : Nat, j ≤ ws.length ∧ i = .int .i64 (j : Int) ∧ o = .string ⟨(Lib.join (ws.take j) sep).toArray⟩) (fun _ i => ws.length - (intOf i).toNat)
  case atStart => exact ⟨0, Nat.zero_le _, rfl, rfl⟩
  case round =>
    obtain ⟨j, hj, rfl, rfl⟩ := hrel
    by_cases hlt : j < ws.length
    · have HS := Lib.hid (join_take_succ ws sep j hlt)
      have hA := HL.out j
      have hal := HM.out ws[j] (List.getElem_mem _)
      have c0 := HR.out.2 j hlt
      obtain ⟨A, hAe⟩ : ∃ A, A = Lib.join (ws.take j) sep := ⟨_, rfl⟩
      obtain ⟨x, hx⟩ : ∃ x, x = ws[j] := ⟨_, rfl⟩
      rw [← hAe] at hA HS ⊢
      rw [← hx] at hal c0 HS
      clear hAe hx
      by_cases h0 : j = 0
      · have HS2 : Hid (Lib.join (ws.take (j + 1)) sep = A ++ x) := by rw [Hid, HS.out, if_pos h0]; simp
        have t1 : decide ((0 : Int) < (j : Int)) = false := by simp; omega
        have t2 : decide (0 < j) = false := by simp; omega
        clear h0 HS
        go_wp2_with fail
        go_round
        case rel => exact ⟨j + 1, by omega, by go_num, by rw [HS2.out]; simp [app2_str]⟩
        case measure => simp [intOf]; omega
      · have HS2 : Hid (Lib.join (ws.take (j + 1)) sep = A ++ (sep ++ x)) := by rw [Hid, HS.out, if_neg h0]
        have t1 : decide ((0 : Int) < (j : Int)) = true := by simp; omega
        have t2 : decide (0 < j) = true := by simp; omega
        clear h0 HS
        go_wp2_with fail
        go_round
        case rel => exact ⟨j + 1, by omega, by go_num, by rw [HS2.out]; simp [app2_str]⟩
        case measure => simp [intOf]; omega
    · obtain rfl : j = ws.length := by omega
      rw [List.take_of_length_le (Nat.le_refl _)]
      rw [HX.out]
      go_wp2_with fail
      go_ret
      exact ⟨rfl, rfl⟩
theorem sjoin_c (ws : List (List UInt8)) (R off cap : Nat) (sep X : List UInt8) (w : World) (h : RdS ws R off w) (hc : ws.length ≤ cap) (hn : ws.length ≤ 1000000) (hl : (Lib.join ws sep).length ≤ 140737488355328) (hX : Lib.join ws sep = X) :
    Calls Tryz.prog 17 #[.slice (some ⟨R, off, none⟩) ws.length cap, .string ⟨sep.toArray⟩] w fun e w' => e = .returned (.string ⟨X.toArray⟩) ∧ Ext w w' := by
  have e1 : (ws.map fun l => (⟨l.toArray⟩ : ByteArray)).map (·.data.toList) = ws := by
    rw [List.map_map]
    exact (List.map_congr_left (fun a _ => by simp)).trans (List.map_id ws)
  have e2 : (⟨sep.toArray⟩ : ByteArray).data.toList = sep := by simp
  have h1 := Tryz.strings_Join R off cap (ws.map fun l => (⟨l.toArray⟩ : ByteArray)) ⟨sep.toArray⟩ w (fun j x hx => by
    rw [List.getElem?_map] at hx
    obtain ⟨l, hl, rfl⟩ := Option.map_eq_some_iff.1 hx
    obtain ⟨hj, rfl⟩ := List.getElem?_eq_some_iff.1 hl
    exact h.2 j hj) h.1 (by rw [List.length_map]; omega) (by rw [List.length_map]; exact hc) (by rw [e1, e2]; exact hl)
  rw [e1, e2, List.length_map, hX] at h1
  exact h1
end Go.Proofs.YtnhdmnhfllecgaaGreatDoor
/- Locales: a locale in the making: its object, its slices, each owned. -/
namespace Go.Proofs.YtnhdmnhfllecgaaGreatDoor
set_option linter.unusedVariables false
set_option linter.unusedSimpArgs false
open Go.RowKit

def plc (p : Plu) : List Value := [.string ⟨p.c.toArray⟩, .string ⟨p.r.toArray⟩]
def unc (u : Uni) : List Value := [.int .i64 u.s, .slice u.ao u.f.length u.cap]
def plcs (l : List Plu) : List Value := l.flatMap plc
def uncs (l : List Uni) : List Value := l.flatMap unc
def bk (a : Option Addr) : Option Nat := a.map (·.block)
/-- The block of the k-th slice. -/
def blk (L : Loc) : Nat → Option Nat
  | 0 => bk L.pa
  | 1 => bk L.oa
  | 2 => bk L.ua
  | k + 3 => (L.U[k]?).bind fun u => bk u.ao
theorem blk3 (L : Loc) (k : Nat) : blk L (k + 3) = (L.U[k]?).bind fun u => bk u.ao := rfl
/-- The locale L lies in the object B, its slices are its own. -/
structure LSw (L : Loc) (b B : Nat) (w : World) : Prop where
  ok : L.N.ok
  bB : b ≤ B
  obj : w.heap[B]? = some (.cells L.vals.toArray 30 (0, 0))
  oP : w.ownsRow b 50 2 (.slice L.pa L.P.length L.pc) L.P.length (plcs L.P)
  oO : w.ownsRow b 50 2 (.slice L.oa L.O.length L.oc) L.O.length (plcs L.O)
  oU : w.ownsRow b 53 2 (.slice L.ua L.U.length L.uc) L.U.length (uncs L.U)
  oF : ∀ u ∈ L.U, w.ownsRow b 50 2 (.slice u.ao u.f.length u.cap) u.f.length (plcs u.f)
  nB : ∀ k, blk L k ≠ some B
  dif : ∀ i j x, i ≠ j → blk L i = some x → blk L j ≠ some x
theorem own_bk (ao : Option Addr) (n c : Nat) : (Value.slice ao n c).ownBlock = bk ao := by cases ao <;> rfl
theorem own_frm {S : Nat → Prop} {w w' : World} {base size n : Nat} {e : TypeId} {ao : Option Addr} {m c : Nat} {xs : List Value} (h : w.ownsRow base e size (.slice ao m c) n xs) (hF : Frm S w w') (hS : ∀ x, bk ao = some x → ¬ S x) : w'.ownsRow base e size (.slice ao m c) n xs := by
  obtain ⟨h1, h2⟩ := h
  refine ⟨h1, ?_⟩
  rcases h2 with q | ⟨g, cap, cur, e0, hb, hg, hr⟩
  · exact .inl q
  · refine .inr ⟨g, cap, cur, e0, hb, ?_, hr⟩
    have hlt : g < w.heap.size := by
      rcases Nat.lt_or_ge g w.heap.size with q | q
      · exact q
      · rw [Array.getElem?_eq_none q] at hg; cases hg
    rw [← hg]
    refine hF.block g hlt (hS g ?_)
    injection e0 with e1
    rw [e1]; rfl
theorem LSw.lt {L : Loc} {b B : Nat} {w : World} (h : LSw L b B w) : B < w.heap.size := by
  rcases Nat.lt_or_ge B w.heap.size with q | q
  · exact q
  · have := h.obj; rw [Array.getElem?_eq_none q] at this; cases this
theorem LSw.blk_in {L : Loc} {b B : Nat} {w : World} (h : LSw L b B w) (k x : Nat) (hx : blk L k = some x) : b ≤ x ∧ x < w.heap.size := by
  match k, hx with
  | 0, hx => exact h.oP.lt x (by rw [own_bk]; exact hx)
  | 1, hx => exact h.oO.lt x (by rw [own_bk]; exact hx)
  | 2, hx => exact h.oU.lt x (by rw [own_bk]; exact hx)
  | k + 3, hx =>
    rw [blk3] at hx
    cases hu : L.U[k]? with
    | none => rw [hu] at hx; cases hx
    | some u =>
      rw [hu] at hx
      exact (h.oF u (List.mem_of_getElem? hu)).lt x (by rw [own_bk]; exact hx)
theorem LSw.frm {L : Loc} {b B : Nat} {S : Nat → Prop} {w w' : World} (h : LSw L b B w) (hF : Frm S w w') (hB : ¬ S B) (hS : ∀ k x, blk L k = some x → ¬ S x) : LSw L b B w' where
  ok := h.ok
  bB := h.bB
  obj := (hF.block B h.lt hB).trans h.obj
  oP := own_frm h.oP hF (fun x hx => hS 0 x hx)
  oO := own_frm h.oO hF (fun x hx => hS 1 x hx)
  oU := own_frm h.oU hF (fun x hx => hS 2 x hx)
  oF := fun u hu => own_frm (h.oF u hu) hF (fun x hx => by
    obtain ⟨k, hk, e⟩ := List.mem_iff_getElem.1 hu
    exact hS (k + 3) x (by rw [blk3]; rw [List.getElem?_eq_getElem hk, e]; exact hx))
  nB := h.nB
  dif := h.dif
theorem LSw.ext {L : Loc} {b B : Nat} {w w' : World} (h : LSw L b B w) (hE : Ext w w') : LSw L b B w' :=
  h.frm (S := fun _ => False) (Frm.of_ext hE) id (fun _ _ _ => id)
/-- What another object's change leaves. -/
theorem LSw.far {L : Loc} {b B : Nat} {w w' : World} (h : LSw L b B w) {X : Nat} (hF : Frm (fun k => k = X) w w') (hX : X ≠ B) (hX2 : X < b) : LSw L b B w' :=
  h.frm hF (fun e => hX e.symm) (fun k x hx e => by have := (h.blk_in k x hx).1; omega)
theorem LSw.lcb {L : Loc} {b B : Nat} {w : World} (h : LSw L b B w) : LcB L B w := by
  refine ⟨h.lt, fun j v hv => ?_⟩
  rw [Nat.zero_add, cell_of_row w B j _ _ (0, 0) h.obj]
  simpa using hv
theorem plc_at (l : List Plu) : ∀ i (h : i < l.length), (plcs l)[i * 2]? = some (.string ⟨l[i].c.toArray⟩) ∧ (plcs l)[i * 2 + 1]? = some (.string ⟨l[i].r.toArray⟩) := by
  induction l with
  | nil => intro i h; cases h
  | cons p r ih =>
    intro i h
    have e : plcs (p :: r) = .string ⟨p.c.toArray⟩ :: .string ⟨p.r.toArray⟩ :: plcs r := rfl
    rw [e]
    cases i with
    | zero => exact ⟨rfl, rfl⟩
    | succ i =>
      obtain ⟨a, c⟩ := ih i (by simpa using h)
      rw [show (i + 1) * 2 = i * 2 + 1 + 1 by omega]
      exact ⟨a, c⟩
theorem unc_at (l : List Uni) : ∀ i (h : i < l.length), (uncs l)[i * 2]? = some (.int .i64 l[i].s) ∧ (uncs l)[i * 2 + 1]? = some (.slice l[i].ao l[i].f.length l[i].cap) := by
  induction l with
  | nil => intro i h; cases h
  | cons p r ih =>
    intro i h
    have e : uncs (p :: r) = .int .i64 p.s :: .slice p.ao p.f.length p.cap :: uncs r := rfl
    rw [e]
    cases i with
    | zero => exact ⟨rfl, rfl⟩
    | succ i =>
      obtain ⟨a, c⟩ := ih i (by simpa using h)
      rw [show (i + 1) * 2 = i * 2 + 1 + 1 by omega]
      exact ⟨a, c⟩
theorem own_plv {b : Nat} {ao : Option Addr} {cap : Nat} {l : List Plu} {w : World} (h : w.ownsRow b 50 2 (.slice ao l.length cap) l.length (plcs l)) : PlV ao cap l w := by
  obtain ⟨h1, h2⟩ := h
  rcases h2 with ⟨e, e0⟩ | ⟨g, c, cur, e, hb, hg, hn, hm, hs, ht⟩
  · injection e with e1 e2 e3
    refine ⟨by omega, by subst e3; exact Nat.zero_le _, fun hne => absurd (List.length_eq_zero_iff.1 e0) hne⟩
  · injection e with e1 e2 e3
    subst e3
    refine ⟨hn, hm, fun _ => ⟨g, 0, e1, (Array.getElem?_eq_some_iff.1 hg).1, fun i hi => ?_⟩⟩
    obtain ⟨a, c⟩ := plc_at l i hi
    rw [← ht, List.getElem?_take] at a c
    rw [if_pos (by omega)] at a c
    rw [Nat.zero_add, cell_of_row w g _ cur _ (0, 0) hg, cell_of_row w g _ cur _ (0, 0) hg]
    exact ⟨by simpa using a, by simpa using c⟩
theorem own_unv {b : Nat} {ao : Option Addr} {cap : Nat} {l : List Uni} {w : World} (h : w.ownsRow b 53 2 (.slice ao l.length cap) l.length (uncs l)) (hF : ∀ u ∈ l, PlV u.ao u.cap u.f w) : UnV ao cap l w := by
  obtain ⟨h1, h2⟩ := h
  rcases h2 with ⟨e, e0⟩ | ⟨g, c, cur, e, hb, hg, hn, hm, hs, ht⟩
  · injection e with e1 e2 e3
    refine ⟨by omega, by subst e3; exact Nat.zero_le _, fun hne => absurd (List.length_eq_zero_iff.1 e0) hne, hF⟩
  · injection e with e1 e2 e3
    subst e3
    refine ⟨hn, hm, fun _ => ⟨g, 0, e1, (Array.getElem?_eq_some_iff.1 hg).1, fun i hi => ?_⟩, hF⟩
    obtain ⟨a, c⟩ := unc_at l i hi
    rw [← ht, List.getElem?_take] at a c
    rw [if_pos (by omega)] at a c
    rw [Nat.zero_add, cell_of_row w g _ cur _ (0, 0) hg, cell_of_row w g _ cur _ (0, 0) hg]
    exact ⟨by simpa using a, by simpa using c⟩
theorem LSw.lcv {L : Loc} {b B : Nat} {w : World} (h : LSw L b B w) : LcV L w :=
  ⟨h.ok, own_plv h.oP, own_plv h.oO, own_unv h.oU fun u hu => own_plv (h.oF u hu)⟩
/-- A block apart from the locale's. -/
def Far (L : Loc) (B x : Nat) : Prop := x ≠ B ∧ ∀ i, blk L i ≠ some x
/-- A step: only the locale's blocks are written, its new ones are new. -/
structure Stp (L L' : Loc) (B : Nat) (w w' : World) : Prop where
  frm : Frm (fun k => k = B ∨ ∃ i, blk L i = some k) w w'
  new : ∀ i x, blk L' i = some x → (∃ j, blk L j = some x) ∨ w.heap.size ≤ x
theorem Stp.of_ext (L : Loc) (B : Nat) {w w' : World} (hE : Ext w w') : Stp L L B w w' := ⟨Frm.of_ext hE, fun i x h => .inl ⟨i, h⟩⟩
theorem Stp.far {L L' : Loc} {B x : Nat} {w w' : World} (h : Stp L L' B w w') (hx : Far L B x) (hz : x < w.heap.size) : Far L' B x ∧ w'.heap[x]? = w.heap[x]? := by
  refine ⟨⟨hx.1, fun i e => ?_⟩, h.frm.block x hz ?_⟩
  · rcases h.new i x e with ⟨j, q⟩ | q
    · exact hx.2 j q
    · omega
  · rintro (e | ⟨i, e⟩)
    · exact hx.1 e
    · exact hx.2 i e
theorem Stp.trans {L L1 L2 : Loc} {B : Nat} {w w1 w2 : World} (h : Stp L L1 B w w1) (k : Stp L1 L2 B w1 w2) : Stp L L2 B w w2 := by
  refine ⟨⟨k.frm.os.trans h.frm.os, k.frm.tape.trans h.frm.tape, k.frm.output.trans h.frm.output, Nat.le_trans h.frm.size k.frm.size, fun x hx hs => ?_⟩, fun i x e => ?_⟩
  · refine (k.frm.block x (Nat.lt_of_lt_of_le hx h.frm.size) ?_).trans (h.frm.block x hx hs)
    rintro (e | ⟨i, e⟩)
    · exact hs (.inl e)
    · rcases h.new i x e with ⟨j, q⟩ | q
      · exact hs (.inr ⟨j, q⟩)
      · omega
  · rcases k.new i x e with ⟨j, q⟩ | q
    · exact h.new j x q
    · right; have := h.frm.size; omega
theorem Stp.ext {L L' : Loc} {b B : Nat} {w0 w w' : World} (h : Stp L L' B w w') (hL : LSw L b B w) (hE : Ext w0 w) (hb : w0.heap.size ≤ b) : Ext w0 w' :=
  Frm.far hE h.frm (by
    rintro k hk (e | ⟨i, e⟩)
    · have := hL.bB; omega
    · have := (hL.blk_in i k e).1; omega)
end Go.Proofs.YtnhdmnhfllecgaaGreatDoor
