/- One operation at a time, more of them: comparisons, picks. -/
import Derived.Test.YtnhdmnhfllecgaaGreatDoorQ28
import Derived.Test.YtnhdmnhfllecgaaGreatDoorQ41
import Derived.Test.YtnhdmnhfllecgaaGreatDoorQ04
import Derived.Test.YtnhdmnhfllecgaaGreatDoorQ31
import Derived.Test.YtnhdmnhfllecgaaGreatDoorQ29
import Derived.Test.YtnhdmnhfllecgaaGreatDoorQ09
import Derived.Test.YtnhdmnhfllecgaaGreatDoorQ10
import Derived.Test.YtnhdmnhfllecgaaGreatDoorQ05
import Derived.Test.YtnhdmnhfllecgaaGreatDoorQ34
import Derived.Test.YtnhdmnhfllecgaaGreatDoorQ11
import Derived.Test.YtnhdmnhfllecgaaGreatDoorQ39
import Derived.Test.YtnhdmnhfllecgaaGreatDoorQ30
import Derived.Test.YtnhdmnhfllecgaaGreatDoorQ37
namespace Go.Proofs.YtnhdmnhfllecgaaGreatDoor
set_option linter.unusedVariables false
set_option linter.unusedSimpArgs false
open Go Go.RowKit

theorem yr_pick {P : Program} {o : Oper} {a : Act} {w : World} {c x y : Operand} {b : Bool} {u : Value} (hop : o.op = .pick c x y) (hc : a.eval c = .bool b) (hx : a.eval (if b then x else y) = u) : (execOp a.eval o).run P w = .ok (.value u) w := by
  unfold execOp
  simp only [hop, hc]
  cases b
  · have hx : a.eval y = u := hx
    rw [hx]; rfl
  · have hx : a.eval x = u := hx
    rw [hx]; rfl
end Go.Proofs.YtnhdmnhfllecgaaGreatDoor
/- The walk of awake of chapter 55. -/
namespace Go.Proofs.YtnhdmnhfllecgaaGreatDoor
set_option linter.unusedVariables false
set_option linter.unusedSimpArgs false
open Go.RowKit Go.Maps

theorem mkey : Keyed Tryz.prog 3 := int_keyed Tryz.underlying3
theorem wf1 : (Lit.int .i64 1).wf = true := by decide
theorem wf21 : (Lit.int .i64 21).wf = true := by decide
theorem wf101 : (Lit.int .i64 101).wf = true := by decide
theorem wf11 : (Lit.int .i64 11).wf = true := by decide
/-- The examples of the chapter, as a map. -/
def exD : DataW Unit := ((((DataW.map []).put (.int .i64 1) (.lit (.bool true))).put (.int .i64 21) (.lit (.bool true))).put (.int .i64 101) (.lit (.bool true))).put (.int .i64 11) (.lit (.bool false))
theorem exD_eq : exD = .map [(.int .i64 1, .lit (.bool true)), (.int .i64 11, .lit (.bool false)), (.int .i64 21, .lit (.bool true)), (.int .i64 101, .lit (.bool true))] := by rfl
theorem exD_at (x : Int) (c : Bool) (h : ∀ zd, exD.atKey (.int .i64 x) zd = .lit (.bool c)) : (x = 1 ∧ c = true) ∨ (x = 21 ∧ c = true) ∨ (x = 101 ∧ c = true) ∨ (x = 11 ∧ c = false) := by
  have h1 := h (.lit (.bool true))
  have h2 := h (.lit (.bool false))
  rw [exD_eq] at h1 h2
  by_cases a : x = 1
  · subst a
    have : DataW.lit (H := Unit) (.bool true) = .lit (.bool c) := h1
    injection this with this
    injection this with this
    exact .inl ⟨rfl, this.symm⟩
  by_cases b : x = 21
  · subst b
    have : DataW.lit (H := Unit) (.bool true) = .lit (.bool c) := h1
    injection this with this
    injection this with this
    exact .inr (.inl ⟨rfl, this.symm⟩)
  by_cases d : x = 101
  · subst d
    have : DataW.lit (H := Unit) (.bool true) = .lit (.bool c) := h1
    injection this with this
    injection this with this
    exact .inr (.inr (.inl ⟨rfl, this.symm⟩))
  by_cases e : x = 11
  · subst e
    have : DataW.lit (H := Unit) (.bool false) = .lit (.bool c) := h1
    injection this with this
    injection this with this
    exact .inr (.inr (.inr ⟨rfl, this.symm⟩))
  exfalso
  simp [DataW.atKey, Lit.sameKey, Ne.symm a, Ne.symm b, Ne.symm d, Ne.symm e, a, b, d, e] at h1 h2
  rw [h1] at h2
  cases h2
set_option maxRecDepth 100000 in
theorem plain_bool_inv {v : Value} {y : DataW Unit × List MemPlace} (h : plainElem Tryz.prog 4 v = some y) : ∃ c, v = .bool c := by
  unfold plainElem at h
  rw [Tryz.underlying4] at h
  cases v <;> simp at h
  exact ⟨_, rfl⟩
/-- The rule of the examples. -/
def exR : List UInt8 := [110, 32, 109, 111, 100, 32, 49, 48, 32, 105, 115, 32, 49, 32, 97, 110, 100, 32, 110, 32, 109, 111, 100, 32, 49, 48, 48, 32, 110, 111, 116, 32, 49, 49]
def exW2 : List (List UInt8) := [[110], [109, 111, 100], [49, 48, 48], [110, 111, 116], [49, 49]]
def exW : List (List UInt8) := [110] :: [109, 111, 100] :: [49, 48] :: [105, 115] :: [49] :: wAnd :: exW2
theorem exW_eq : wds exR = exW := by decide
theorem exW_te : teR exW = wAnd :: exW2 ∧ teB exW = true ∧ teR exW2 = [] ∧ teB exW2 = true := by decide
theorem ex_rul (n : Nat) : rul n exW = (teH n exW2 && teH n exW, true) := by
  obtain ⟨e1, e2, e3, e4⟩ := exW_te
  unfold rul grp
  rw [e1, e2, grL_and, e3, e4, grL_nil]
  simp only
  rw [ruL_nil]
  rfl
theorem ex_ok : okR exR = true := by
  unfold okR
  rw [exW_eq, ex_rul]
  decide
theorem ex_holds (n : Int) (h : inrB n = true) : hoE exR n = 0 ∧ hoV exR n = (teH n.natAbs exW2 && teH n.natAbs exW) := by
  have e : hoE exR n = 0 := by unfold hoE; rw [ex_ok, h]; rfl
  refine ⟨e, ?_⟩
  unfold hoV
  rw [e, exW_eq, ex_rul]
  rfl
theorem ex_at (x : Int) (c : Bool) (h : (x = 1 ∧ c = true) ∨ (x = 21 ∧ c = true) ∨ (x = 101 ∧ c = true) ∨ (x = 11 ∧ c = false)) : hoE exR x = 0 ∧ hoV exR x = c := by
  rcases h with ⟨rfl, rfl⟩ | ⟨rfl, rfl⟩ | ⟨rfl, rfl⟩ | ⟨rfl, rfl⟩
  · obtain ⟨a, b⟩ := ex_holds 1 (by decide); exact ⟨a, b.trans (by decide)⟩
  · obtain ⟨a, b⟩ := ex_holds 21 (by decide); exact ⟨a, b.trans (by decide)⟩
  · obtain ⟨a, b⟩ := ex_holds 101 (by decide); exact ⟨a, b.trans (by decide)⟩
  · obtain ⟨a, b⟩ := ex_holds 11 (by decide); exact ⟨a, b.trans (by decide)⟩
theorem exholds_c (x : Int) (c : Bool) (w : World) (hm : Lm w) (h : hoE exR x = 0 ∧ hoV exR x = c) :
    Calls Tryz.prog 14 #[.string ⟨#[110, 32, 109, 111, 100, 32, 49, 48, 32, 105, 115, 32, 49, 32, 97, 110, 100, 32, 110, 32, 109, 111, 100, 32, 49, 48, 48, 32, 110, 111, 116, 32, 49, 49]⟩, .int .i64 x] w fun e w' => e = .returned (.tuple #[.bool c, .int .i64 0]) ∧ Ext w w' := by
  have q := holds_c exR x w hm (by decide)
  rw [h.1, h.2] at q
  exact q
set_option maxRecDepth 100000 in
theorem awake55_c (w : World) (hm : Lm w) : Calls Tryz.prog 5 #[] w fun e w' => e = .returned (.bool true) ∧ Ext w w' := by
  have Hm := Lib.hid hm
  clear hm
  have hmm := @run_makeMap Tryz.prog
  go_enter Tryz.func5, Tryz.ntmps5
  have hown0 := World.ownsMap_made (H := Unit) w Tryz.prog 3 (plainElem Tryz.prog 4)
  go_wp2_with (first
    | (refine wpList_insert_own _ rfl (.tmp 5) (.const (.int .i64 1)) (.const (.bool true)) 46 rfl 3 4 mkey Tryz.underlying46 _ w.heap.size 0 _ rfl hown0 (by decide) _ _ _ rfl rfl (keyOf_int_mk Tryz.underlying3 wf1) _ [] (plainElem_bool Tryz.underlying4 _) ?_; intro w1 hown1 hg1)
    | (refine wpList_insert_own _ rfl (.tmp 5) (.const (.int .i64 21)) (.const (.bool true)) 46 rfl 3 4 mkey Tryz.underlying46 _ w.heap.size 1 _ rfl hown1 (by decide) _ _ _ rfl rfl (keyOf_int_mk Tryz.underlying3 wf21) _ [] (plainElem_bool Tryz.underlying4 _) ?_; intro w2 hown2 hg2)
    | (refine wpList_insert_own _ rfl (.tmp 5) (.const (.int .i64 101)) (.const (.bool true)) 46 rfl 3 4 mkey Tryz.underlying46 _ w.heap.size 2 _ rfl hown2 (by decide) _ _ _ rfl rfl (keyOf_int_mk Tryz.underlying3 wf101) _ [] (plainElem_bool Tryz.underlying4 _) ?_; intro w3 hown3 hg3)
    | (refine wpList_insert_own _ rfl (.tmp 5) (.const (.int .i64 11)) (.const (.bool false)) 46 rfl 3 4 mkey Tryz.underlying46 _ w.heap.size 3 _ rfl hown3 (by decide) _ _ _ rfl rfl (keyOf_int_mk Tryz.underlying3 wf11) _ [] (plainElem_bool Tryz.underlying4 _) ?_; intro w4 hown4 hg4)
    | (at_range; refine wpList_range_own _ rfl _ 46 rfl 3 4 mkey Tryz.underlying46 _ w.heap.size 4 _ rfl hown4 ?_; intro w5 hrg0 hg5 hs5)
    | go_in)
  have hE5 : Ext w w5 := ext_grown_none (ext_grown_at (ext_grown_at (ext_grown_at (ext_grown_at ((Ext.refl w).alloc _) hg1 (Nat.le_refl _)) hg2 (Nat.le_refl _)) hg3 (Nat.le_refl _)) hg4 (Nat.le_refl _)) hg5
  have hz4 : w.heap.size < w4.heap.size := hown4.lt
  have Hm5 := Lib.hid (Hm.out.ext hE5)
  have HR : Hid (w5.ranges Tryz.prog 3 (plainElem Tryz.prog 4) w.heap.size w4.heap.size 4 exD (Maps.has exD) (Maps.size exD)) := hrg0
  clear hown0 hown1 hown2 hown3 hown4 hg1 hg2 hg3 hg4 hg5 hs5 hrg0 hmm
  generalize w4.heap.size = r at HR hz4 ⊢
  go_frame
  go_loopw [1, 2, 3, 4] (fun _ _ _ _ wr => ∃ left cnt, Hid (wr.ranges Tryz.prog 3 (plainElem Tryz.prog 4) w.heap.size r 4 exD left cnt) ∧ Ext w wr ∧ Hid (Lm wr)) (fun _ _ _ _ wr => wr.rangeLeft w.heap.size r)
  case atStart => exact ⟨_, _, HR, hE5, Hm5⟩
  case round =>
    obtain ⟨left, cnt, hr, hE, Hmr⟩ := hrel
    have hrg := hr.out
    go_wp2_with (first
      | (at_next; refine wpList_next_ranges _ rfl _ rfl 3 mkey (plainElem Tryz.prog 4) (fun x => Value.int .i64 x) (fun n : Nat => Value.bool (decide (n = 1))) (fun key kl hk => by obtain ⟨x, h, _⟩ := keyOf_int_inv Tryz.underlying3 hk; exact ⟨x, h⟩) (fun v y hv => by obtain ⟨c, hc⟩ := plain_bool_inv hv; exact ⟨if c then 1 else 0, by rw [hc]; cases c <;> rfl⟩) w.heap.size r 4 exD left cnt rfl hrg ?_ ?_
         rotate_left
         intro x cn kl y w6 cnt1 hk hlk hv hat hrg1 hlt hg1 hs1 hen
         have HX : Hid (hoE exR x = 0 ∧ hoV exR x = decide (cn = 1)) := by
           obtain ⟨x', hx', rfl, _⟩ := keyOf_int_inv Tryz.underlying3 hk
           obtain rfl : x = x' := by injection hx'
           have hy : y.1 = .lit (.bool (decide (cn = 1))) := by
             have := hv.symm.trans (plainElem_bool (H := Unit) Tryz.underlying4 (decide (cn = 1)))
             rw [Option.some.inj this]
           exact ex_at x _ (exD_at x _ (fun zd => by rw [hat zd, hy]))
         have hE6 : Ext w w6 := ext_grown_at hE hg1 (Nat.le_of_lt hz4)
         have Hm6 := Lib.hid (Hm.out.ext hE6)
         have Hr1 := Lib.hid hrg1
         have Hlt : Hid (cnt1 < cnt) := hlt
         clear hk hlk hv hat hrg1 hlt hg1 hs1
         replace hen : Sem.run Tryz.prog (Instr.entry (Value.pointer (some { block := r, off := 0 }))) w6 = Result.ok (Value.tuple #[Value.int IntKind.i64 x, Value.bool (decide (cn = 1))]) w6 := hen
         have ht : (fun n : Nat => Value.bool (decide (n = 1))) cn = Value.bool (decide (cn = 1)) := rfl
         try rw [ht]
         clear ht
         generalize decide (cn = 1) = c at HX hen ⊢
         cases c
         rotate_right
         intro hc0 hl0)
      | (go_at_call 14; refine (exholds_c x _ _ Hm6.out HX.out).mono ?_; rintro e w7 ⟨rfl, hE7⟩)
      | go_in)
    all_goals first
      | (go_ret; exact ⟨rfl, hE⟩)
      | (have hr8 : w7.ranges Tryz.prog 3 (plainElem Tryz.prog 4) w.heap.size r 4 exD _ cnt1 := Hr1.out.kept (grown_ext hE7 none) (by simp) (by simp)
         refine ⟨⟨_, _, hr8, hE6.trans hE7, Lib.hid (Hm6.out.ext hE7)⟩, ?_⟩
         rw [hr8.left_eq, hrg.left_eq]; exact Hlt.out)
end Go.Proofs.YtnhdmnhfllecgaaGreatDoor
/- One operation at a time: comparisons for difference; the law LocaleTexts' comparison of texts and of Valid. -/
namespace Go.Proofs.YtnhdmnhfllecgaaGreatDoor
set_option linter.unusedVariables false
set_option linter.unusedSimpArgs false
open Go.RowKit

theorem yr_nes {o : Oper} {a : Act} {w : World} {x y : Operand} {t2 : TypeId} {A : ByteArray} (hop : o.op = .binOp .neq 9 x y t2) (hx : a.eval x = .string A) (hy : a.eval y = .string A) : (execOp a.eval o).run Tryz.prog w = .ok (.value (.bool false)) w := by
  unfold execOp
  simp only [hop, hx, hy]
  simp [Result.andThen, go_sem, eqGuard]
theorem yr_nei {o : Oper} {a : Act} {w : World} {x y : Operand} {t2 : TypeId} {A : Int} (hop : o.op = .binOp .neq 3 x y t2) (hx : a.eval x = .int .i64 A) (hy : a.eval y = .int .i64 A) : (execOp a.eval o).run Tryz.prog w = .ok (.value (.bool false)) w := by
  unfold execOp
  simp only [hop, hx, hy]
  simp [Result.andThen, go_sem, eqGuard]
theorem yr_neb {o : Oper} {a : Act} {w : World} {x y : Operand} {t2 : TypeId} {A : Bool} (hop : o.op = .binOp .neq 4 x y t2) (hx : a.eval x = .bool A) (hy : a.eval y = .bool A) : (execOp a.eval o).run Tryz.prog w = .ok (.value (.bool false)) w := by
  unfold execOp
  simp only [hop, hx, hy]
  simp [Result.andThen, go_sem, eqGuard]
theorem zero_lcv (w : World) : LcV LocD.zero.loc w := by
  refine ⟨⟨rfl, rfl, rfl, rfl, rfl⟩, own_plv (b := 0) (World.ownsRow_nil _ _ _ _), own_plv (b := 0) (World.ownsRow_nil _ _ _ _), own_unv (b := 0) (World.ownsRow_nil _ _ _ _) (fun u hu => by cases hu)⟩
theorem samL_refl (L : Loc) : SamL L L := ⟨rfl, rfl, rfl, rfl, rfl, rfl⟩
end Go.Proofs.YtnhdmnhfllecgaaGreatDoor
/- Locales: the walks of the reference's cut and heads. -/
namespace Go.Proofs.YtnhdmnhfllecgaaGreatDoor
set_option linter.unusedVariables false
set_option linter.unusedSimpArgs false
open Go.RowKit

theorem cut1_hit {s : List UInt8} {k : Nat} (hk : k < s.length) (hx : s[k] = 32) (h : ∀ x ∈ s.take k, x ≠ 32) : cut1 s = (s.take k, s.drop (k + 1), true) := by
  have e : s = s.take k ++ 32 :: s.drop (k + 1) := by
    rw [← hx, ← List.drop_eq_getElem_cons hk, List.take_append_drop]
  conv => lhs; rw [e]
  exact cut1_at _ _ h
theorem ret_ssb {a b a' b' : ByteArray} {c c' : Bool} (h1 : a = a') (h2 : b = b') (h3 : c = c') : Ending.returned (.tuple #[.string a, .string b, .bool c]) = .returned (.tuple #[.string a', .string b', .bool c']) := by rw [h1, h2, h3]
set_option maxRecDepth 100000 in
set_option maxHeartbeats 1000000 in
theorem rcut_c (s A B : List UInt8) (b : Bool) (w : World) (hs : s.length ≤ 100000) (hc : cut1 s = (A, B, b)) :
    Calls Tryz.prog 52 #[.string ⟨s.toArray⟩] w fun e w' => e = .returned (.tuple #[.string ⟨A.toArray⟩, .string ⟨B.toArray⟩, .bool b]) ∧ Ext w w' := by
  have HC := Lib.hid hc
  clear hc
  go_enter Tryz.func52, Tryz.ntmps52
  go_wp2_with fail
  go_loop [5] (fun i => ∃ k : Nat, k ≤ s.length ∧ i = .int .i64 (k : Int) ∧ Hid (∀ x ∈ s.take k, x ≠ 32)) (fun i => s.length - (intOf i).toNat)
  case atStart => exact ⟨0, Nat.zero_le _, rfl, fun x hx => by simp at hx⟩
  case round =>
    obtain ⟨k, hk, rfl, Hall⟩ := hrel
    by_cases hlt : k < s.length
    · obtain ⟨x, hx⟩ : ∃ x, x = s[k] := ⟨_, rfl⟩
      have bx := bget s k hlt x hx
      by_cases h32 : x = 32
      · have t1 : ((x.toNat : Int) == 32) = true := by rw [h32]; rfl
        have HE : Hid ((A, B, b) = (s.take k, s.drop (k + 1), true)) := by rw [Hid, ← HC.out]; exact cut1_hit hlt (by rw [← hx]; exact h32) Hall.out
        have b1 := btake s k
        have b2 := bdrop s (k + 1)
        have hji : IntKind.i64.wrap ((k : Int) + 1) = (k : Int) + 1 := IntWalk.i64_in _ (by omega)
        have hjn : ((k : Int) + 1).toNat = k + 1 := by omega
        have hj0 : (0 : Int) ≤ (k : Int) + 1 := by omega
        have hj1 : (k : Int) + 1 ≤ (s.length : Int) := by omega
        clear h32 hx
        go_upto_region 5 with fail
        go_quiet (fail)
        go_wp2_with fail
        have e := HE.out
        injection e with e1 e2
        injection e2 with e2 e3
        refine bodyPost_ret (v := .tuple #[.string ⟨(s.take k).toArray⟩, .string ⟨(s.drop (k + 1)).toArray⟩, .bool true]) (by simp [results, Tryz.results52, go_sem]) rfl ⟨by rw [e1, e2, e3], (Ext.refl w).drewN _⟩
      · have t1 : ((x.toNat : Int) == 32) = false := by
          rw [beq_eq_false_iff_ne]; intro e; exact h32 (UInt8.toNat_inj.1 (by show x.toNat = 32; omega))
        have HS : Hid (∀ y ∈ s.take (k + 1), y ≠ 32) := fun y hy => by
          rw [List.take_succ_eq_append_getElem hlt] at hy
          rcases List.mem_append.1 hy with q | q
          · exact Hall.out y q
          · rw [List.mem_singleton.1 q, ← hx]; exact h32
        clear h32 hx
        go_wp2_with fail
        go_round
        case rel => exact ⟨k + 1, by omega, by go_num, HS⟩
        case measure => simp [intOf]; omega
    · obtain rfl : k = s.length := by omega
      have HE : Hid ((A, B, b) = (s, [], false)) := by
        rw [Hid, ← HC.out]
        refine cut1_no s ?_
        have := Hall.out
        rwa [List.take_of_length_le (Nat.le_refl _)] at this
      have e := HE.out
      injection e with e1 e2
      injection e2 with e2 e3
      subst e1 e2 e3
      go_wp2_with fail
      refine bodyPost_ret (v := .tuple #[.string ⟨A.toArray⟩, .string ⟨#[]⟩, .bool false]) (by simp [results, Tryz.results52, go_sem]) rfl ⟨rfl, Ext.refl _⟩
end Go.Proofs.YtnhdmnhfllecgaaGreatDoor
/- Locales: the reference's Parse: what holds between two lines. -/
namespace Go.Proofs.YtnhdmnhfllecgaaGreatDoor
set_option linter.unusedVariables false
set_option linter.unusedSimpArgs false
open Go.RowKit

def ordW : List (List UInt8) := [wLocale, wMonths, wShort, wDays, wShortdays, wHalves, wPlural, wOrdinal, wUnit, wPattern]
theorem ord_at : ∀ (k : Nat) (h : k < 10), ordW[k]'h = wrd k
  | 0, _ => rfl | 1, _ => rfl | 2, _ => rfl | 3, _ => rfl | 4, _ => rfl | 5, _ => rfl | 6, _ => rfl | 7, _ => rfl | 8, _ => rfl | 9, _ => rfl
theorem ord_new (w : World) : ∀ k, k < 10 → (w.alloc (.cells (sv ordW).toArray 9)).cell? ⟨w.heap.size, k, none⟩ = some (.string ⟨(wrd k).toArray⟩) := by
  intro k hk
  rw [World.cell?_alloc_new, ← ord_at k hk]
  have : k < ordW.length := hk
  simp [sv, this]
  rfl
theorem rsplit_10 (s : List UInt8) (w : World) (hs : s.length ≤ 100000) : Calls Tryz.prog 51 #[.string ⟨s.toArray⟩, .int .u8 10] w (SplR (spl 10 s) w) := rsplit_c s 10 w hs
theorem rds_blk {l : List (List UInt8)} {R o : Nat} {w w' : World} (h : RdS l R o w) (hb : w'.heap[R]? = w.heap[R]?) : RdS l R o w' := by
  refine ⟨?_, fun i hi => (blk_cell hb _).trans (h.2 i hi)⟩
  rcases Nat.lt_or_ge R w'.heap.size with q | q
  · exact q
  · have h0 := h.1
    rw [Array.getElem?_eq_none q, Array.getElem?_eq_getElem h0] at hb
    cases hb
theorem run_bad {tl : Bool} {st cnt at_ : Nat} {D : LocD} {l : List UInt8} {ls : List (List UInt8)} (h : st < 10) (hb : (cut1 l).2.2 = false ∨ (cut1 l).1 ≠ wrd (stgL st cnt l)) : runL tl st cnt at_ D (l :: ls) = .er 3 (at_ + 1) := by
  rw [runL, if_neg (by omega), if_pos hb]
theorem run_none {tl : Bool} {st cnt at_ : Nat} {D : LocD} {l : List UInt8} {ls : List (List UInt8)} (h : st < 10) (ha : addL (stgL st cnt l) D (cut1 l).2.1 = none) : runL tl st cnt at_ D (l :: ls) = .er 3 (at_ + 1) := by
  rw [runL, if_neg (by omega)]
  split
  · rfl
  · rw [ha]
theorem run_some {tl : Bool} {st cnt at_ : Nat} {D D' : LocD} {l : List UInt8} {ls : List (List UInt8)} (h : st < 10) (hb : ¬ ((cut1 l).2.2 = false ∨ (cut1 l).1 ≠ wrd (stgL st cnt l))) (ha : addL (stgL st cnt l) D (cut1 l).2.1 = some D') :
    runL tl st cnt at_ D (l :: ls) = if stgL st cnt l < 6 ∨ stgL st cnt l = 9 then runL tl (stgL st cnt l + 1) 0 (at_ + 1) D' ls else runL tl (stgL st cnt l) (cntL st cnt l + 1) (at_ + 1) D' ls := by
  rw [runL, if_neg (by omega), if_neg hb, ha]
theorem run_end {tl : Bool} {st cnt at_ : Nat} {D : LocD} (h : st < 10) : runL tl st cnt at_ D [] = .er 4 0 := by rw [runL, if_neg (by omega)]
theorem run_more {tl : Bool} {st cnt at_ : Nat} {D : LocD} {ls : List (List UInt8)} (h : 10 ≤ st) (hq : tl = true ∨ ls ≠ []) : runL tl st cnt at_ D ls = .er 3 (at_ + 1) := by
  cases ls with
  | nil =>
    rcases hq with q | q
    · rw [runL, if_pos h, q]; rfl
    · exact absurd rfl q
  | cons l ls => rw [runL, if_pos h]
theorem run_fin {st cnt at_ : Nat} {D : LocD} (h : 10 ≤ st) : runL false st cnt at_ D [] = finL D := by rw [runL, if_pos h]; rfl
theorem stg_no {st cnt : Nat} {l A T : List UInt8} {b : Bool} (hc : cut1 l = (A, T, b)) (h : ¬ (6 ≤ st ∧ st ≤ 8 ∧ 0 < cnt ∧ b = true ∧ A = wrd (st + 1))) : stgL st cnt l = st ∧ cntL st cnt l = cnt := by
  unfold stgL cntL
  rw [hc]
  exact ⟨if_neg h, if_neg h⟩
theorem stg_yes {st cnt : Nat} {l A T : List UInt8} {b : Bool} (hc : cut1 l = (A, T, b)) (h : 6 ≤ st ∧ st ≤ 8 ∧ 0 < cnt ∧ b = true ∧ A = wrd (st + 1)) : stgL st cnt l = st + 1 ∧ cntL st cnt l = 0 := by
  unfold stgL cntL
  rw [hc]
  exact ⟨if_pos h, if_pos h⟩
theorem stg_le (st cnt : Nat) (l : List UInt8) (h : st < 10) : stgL st cnt l ≤ 9 ∧ cntL st cnt l ≤ cnt := by
  unfold stgL cntL
  split <;> omega
/-- Between two lines: the locale so far, and what is left to read. -/
def RPI (s : List UInt8) (tl : Bool) (ls : List (List UInt8)) (B R st cnt at_ : Nat) (w : World) : Prop :=
  ∃ (L : Loc) (D : LocD), LSw L B B w ∧ Far L B R ∧ Dat L D ∧ DSz D at_ ∧ runL tl st cnt at_ D ls = parL s
/-- Behind a line's reading. -/
def RPJ (B R st : Nat) (t : List UInt8) (D : LocD) (L : Loc) (w w' : World) : Prop :=
  ∃ (L' : Loc) (D' : LocD), LSw L' B B w' ∧ Stp L L' B w w' ∧ Dat L' D' ∧ addL st D t = some D'
theorem zero_far (B x : Nat) (h : x ≠ B) : Far LocD.zero.loc B x := by
  refine ⟨h, fun i e => ?_⟩
  match i, e with
  | 0, e => cases e
  | 1, e => cases e
  | 2, e => cases e
  | k + 3, e => cases e
/-- An error's answer. -/
theorem er3_out {s : List UInt8} {al : Nat} (h : parL s = .er 3 (al + 1)) (w' : World) : parOut s (.returned (.tuple #[.agg zeroV, .agg #[.int .i64 ((al + 1 : Nat) : Int), .int .i64 1], .int .i64 3])) w' := by
  unfold parOut; rw [h]; simp
theorem er4_out {s : List UInt8} (h : parL s = .er 4 0) (w' : World) : parOut s (.returned (.tuple #[.agg zeroV, .agg #[.int .i64 0, .int .i64 0], .int .i64 4])) w' := by
  unfold parOut; rw [h]; simp
theorem er1_out {s : List UInt8} (h : parL s = .er 1 0) (w' : World) : parOut s (.returned (.tuple #[.agg zeroV, .agg #[.int .i64 0, .int .i64 0], .int .i64 1])) w' := by
  unfold parOut; rw [h]; simp
theorem bld0_pos (w : World) : (Instr.build 39 #[]).run Tryz.prog w = .ok (.agg #[.int .i64 0, .int .i64 0]) w := by kernel_rfl
theorem wpList_bldz {P : Program} {ops : Array Oper} {rest : List Oper} {o : Oper} {a : Act} {w : World} {Q : Exit → Act → World → Prop} {v : Value} (t : TypeId) (e : Array (Nat × Operand)) (hgd : o.guard = none) (hop : o.op = .build t e) (he : e = #[]) (hrun : (Instr.build t #[]).run P w = .ok v w) (h : wpList P ops Q rest (a.put o.dst v) w) : wpList P ops Q (o :: rest) a w := by
  subst he
  exact wpList_bld0 t hgd hop hrun h
end Go.Proofs.YtnhdmnhfllecgaaGreatDoor
/- Locales: the reference's Parse: names, copied one by one; the tables of the five. -/
namespace Go.Proofs.YtnhdmnhfllecgaaGreatDoor
set_option linter.unusedVariables false
set_option linter.unusedSimpArgs false
open Go.RowKit

theorem tk_set {α : Type} (S G : List α) (j : Nat) (h1 : j < S.length) (h2 : j < G.length) : S.take (j + 1) ++ G.drop (j + 1) = (S.take j ++ G.drop j).set j S[j] := by
  have hl : (S.take j).length = j := by rw [List.length_take]; omega
  rw [List.set_append_right _ _ (by omega), hl, Nat.sub_self, List.drop_eq_getElem_cons h2, List.set_cons_zero, List.take_succ_eq_append_getElem h1, List.append_assoc]
  rfl
theorem mid_set {α : Type} (A X X' C : List α) (j : Nat) (v : α) (hj : j < X.length) (h : X' = X.set j v) : A ++ (X' ++ C) = (A ++ (X ++ C)).set (A.length + j) v := by
  subst h
  rw [List.set_append_right _ _ (by omega), show A.length + j - A.length = j by omega, List.set_append_left _ _ hj]
/-- The names so far. -/
def nmsAt (N : Nms) (st : Nat) (S : List (List UInt8)) (j : Nat) : Nms := setN N st (S.take j ++ (grpN N st).drop j)
theorem nmsAt_0 (N : Nms) (st : Nat) (h1 : 1 ≤ st) (h5 : st ≤ 5) (S : List (List UInt8)) : nmsAt N st S 0 = N := by
  obtain rfl | rfl | rfl | rfl | rfl : st = 1 ∨ st = 2 ∨ st = 3 ∨ st = 4 ∨ st = 5 := by omega
  all_goals rfl
theorem nmsAt_n {N : Nms} (hN : N.ok) (st : Nat) (S : List (List UInt8)) (hS : S.length = nmLen st) : nmsAt N st S (nmLen st) = setN N st S := by
  unfold nmsAt
  rw [List.take_of_length_le (by omega), List.drop_of_length_le (by rw [grpN_len hN]; exact Nat.le_refl _), List.append_nil]
theorem nmsAt_ok {N : Nms} (hN : N.ok) (st : Nat) (h1 : 1 ≤ st) (h5 : st ≤ 5) (S : List (List UInt8)) (hS : S.length = nmLen st) (j : Nat) (hj : j ≤ nmLen st) : (nmsAt N st S j).ok :=
  setN_ok hN st h1 h5 _ (by rw [List.length_append, List.length_take, List.length_drop, grpN_len hN]; omega)
theorem nmsAt_set {N : Nms} (hN : N.ok) (st : Nat) (h1 : 1 ≤ st) (h5 : st ≤ 5) (S : List (List UInt8)) (hS : S.length = nmLen st) (j : Nat) (hj : j < nmLen st) (hj2 : j < S.length) :
    (nmsAt N st S (j + 1)).all = (nmsAt N st S j).all.set (nmOff st - 1 + j) S[j] := by
  have hg := grpN_len hN st
  have ht := tk_set S (grpN N st) j hj2 (by omega)
  have hX : j < (S.take j ++ (grpN N st).drop j).length := by rw [List.length_append, List.length_take, List.length_drop]; omega
  obtain ⟨q1, q2, q3, q4, q5⟩ := hN
  unfold nmsAt
  generalize S.take (j + 1) ++ (grpN N st).drop (j + 1) = X' at ht ⊢
  generalize S.take j ++ (grpN N st).drop j = X at ht hX ⊢
  obtain rfl | rfl | rfl | rfl | rfl : st = 1 ∨ st = 2 ∨ st = 3 ∨ st = 4 ∨ st = 5 := by omega
  · have := mid_set [] X X' (N.sh ++ (N.da ++ (N.sd ++ N.ha))) j S[j] hX ht
    simp only [List.nil_append, List.length_nil] at this
    simpa [setN, Nms.all, nmOff] using this
  · have := mid_set N.mo X X' (N.da ++ (N.sd ++ N.ha)) j S[j] hX ht
    rw [q1] at this
    simpa [setN, Nms.all, nmOff] using this
  · have := mid_set (N.mo ++ N.sh) X X' (N.sd ++ N.ha) j S[j] hX ht
    rw [List.length_append, q1, q2] at this
    simpa [setN, Nms.all, nmOff] using this
  · have := mid_set (N.mo ++ (N.sh ++ N.da)) X X' N.ha j S[j] hX ht
    rw [List.length_append, List.length_append, q1, q2, q3] at this
    simpa [setN, Nms.all, nmOff] using this
  · have := mid_set (N.mo ++ (N.sh ++ (N.da ++ N.sd))) X X' [] j S[j] hX ht
    rw [List.length_append, List.length_append, List.length_append, q1, q2, q3, q4] at this
    simpa [setN, Nms.all, nmOff] using this
theorem off_len (st : Nat) (h1 : 1 ≤ st) (h5 : st ≤ 5) : 1 ≤ nmOff st ∧ nmOff st + nmLen st ≤ 41 ∧ 2 ≤ nmLen st ∧ nmLen st ≤ 12 := by
  obtain rfl | rfl | rfl | rfl | rfl : st = 1 ∨ st = 2 ∨ st = 3 ∨ st = 4 ∨ st = 5 := by omega
  all_goals decide
/-- One name is written. -/
theorem LSw.put_name {L : Loc} {b B : Nat} {w : World} (st : Nat) (h1 : 1 ≤ st) (h5 : st ≤ 5) (S : List (List UInt8)) (hS : S.length = nmLen st) (j : Nat) (hj : j < nmLen st) (hj2 : j < S.length) (hN : L.N.ok) (h : LSw { L with N := nmsAt L.N st S j } b B w) :
    LSw { L with N := nmsAt L.N st S (j + 1) } b B (w.setCell ⟨B, nmOff st + j, none⟩ (.string ⟨(S[j]).toArray⟩)) ∧ Stp { L with N := nmsAt L.N st S j } { L with N := nmsAt L.N st S (j + 1) } B w (w.setCell ⟨B, nmOff st + j, none⟩ (.string ⟨(S[j]).toArray⟩)) := by
  obtain ⟨o1, o2, -, -⟩ := off_len st h1 h5
  have := h.set_name (nmsAt L.N st S (j + 1)) (nmsAt_ok hN st h1 h5 S hS (j + 1) (by omega)) (nmOff st - 1 + j) S[j] (nmsAt_set hN st h1 h5 S hS j hj hj2) (by omega)
  rwa [show nmOff st - 1 + j + 1 = nmOff st + j by omega] at this
theorem LSw.cell_any {L : Loc} {b B : Nat} {w : World} (h : LSw L b B w) (k : Nat) (hk : k < 45) : ∃ x, w.cell? ⟨B, k, none⟩ = some x := by
  have hl : k < L.vals.length := by rw [Loc.len h.ok]; exact hk
  refine ⟨L.vals[k], ?_⟩
  rw [cell_of_row w B k _ _ (0, 0) h.obj]
  simp [hl]
def fiveT (B : Nat) : Array Value := #[.slice (some ⟨B, 1, none⟩) 12 12, .slice (some ⟨B, 13, none⟩) 12 12, .slice (some ⟨B, 25, none⟩) 7 7, .slice (some ⟨B, 32, none⟩) 7 7, .slice (some ⟨B, 39, none⟩) 2 2]
set_option maxRecDepth 100000 in
theorem fiveT_run (B : Nat) (w : World) : (Instr.buildSlice 60 5 #[(0, .slice (some ⟨B, 1, none⟩) 12 12), (1, .slice (some ⟨B, 13, none⟩) 12 12), (2, .slice (some ⟨B, 25, none⟩) 7 7), (3, .slice (some ⟨B, 32, none⟩) 7 7), (4, .slice (some ⟨B, 39, none⟩) 2 2)]).run Tryz.prog w = .ok (.slice (some ⟨w.heap.size, 0, none⟩) 5 5) (w.alloc (.cells (fiveT B) 54)) := by
  kernel_rfl
/-- The table of the five lists of names. -/
def FivT (B : Nat) (x : Value) (w : World) : Prop := ∃ D, x = .slice (some ⟨D, 0, none⟩) 5 5 ∧ D < w.heap.size ∧ ∀ j, j < 5 → w.cell? ⟨D, 0 + j, none⟩ = some (.slice (some ⟨B, nmOff (j + 1), none⟩) (nmLen (j + 1)) (nmLen (j + 1)))
theorem FivT.ext {B : Nat} {x : Value} {w w' : World} (h : FivT B x w) (hE : Ext w w') : FivT B x w' := by
  obtain ⟨D, h1, h2, h3⟩ := h
  exact ⟨D, h1, hE.lt h2, fun j hj => (hE.cells _ _ h2).trans (h3 j hj)⟩
theorem FivT.new (B : Nat) (w : World) : FivT B (.slice (some ⟨w.heap.size, 0, none⟩) 5 5) (w.alloc (.cells (fiveT B) 54)) := by
  refine ⟨_, rfl, by simp, fun j hj => ?_⟩
  rw [World.cell?_alloc_new]
  match j, hj with
  | 0, _ => rfl
  | 1, _ => rfl
  | 2, _ => rfl
  | 3, _ => rfl
  | 4, _ => rfl
def FivTP (B q : Nat) (x : Value) (w : World) : Prop := ∃ D, x = .pointer (some ⟨D, 0 + q, none⟩) ∧ D < w.heap.size ∧ ∀ j, j < 5 → w.cell? ⟨D, 0 + j, none⟩ = some (.slice (some ⟨B, nmOff (j + 1), none⟩) (nmLen (j + 1)) (nmLen (j + 1)))
theorem FivTP.ext {B q : Nat} {x : Value} {w w' : World} (h : FivTP B q x w) (hE : Ext w w') : FivTP B q x w' := by
  obtain ⟨D, h1, h2, h3⟩ := h
  exact ⟨D, h1, hE.lt h2, fun j hj => (hE.cells _ _ h2).trans (h3 j hj)⟩
theorem rds_last {l : List (List UInt8)} {R m : Nat} {w : World} (h : RdS l R 0 w) (hm : l.length = m + 1) : RdS l.dropLast R 0 w ∧ w.cell? ⟨R, m, none⟩ = some (.string ⟨(l.getLastD []).toArray⟩) := by
  refine ⟨⟨h.1, fun i hi => ?_⟩, ?_⟩
  · rw [List.length_dropLast] at hi
    rw [List.getElem_dropLast]
    exact h.2 i (by omega)
  · have := h.2 m (by omega)
    rw [Nat.zero_add] at this
    rw [this, List.getLastD_eq_getLast?, List.getLast?_eq_getElem?, show l.length - 1 = m by omega, List.getElem?_eq_getElem (by omega)]
    rfl
end Go.Proofs.YtnhdmnhfllecgaaGreatDoor
