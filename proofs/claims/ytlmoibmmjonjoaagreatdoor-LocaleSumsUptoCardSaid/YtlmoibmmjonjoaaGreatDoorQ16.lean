/- Patterns: the walk of the reference's literal. -/
import Derived.Test.YtlmoibmmjonjoaaGreatDoorQ11
import Derived.Test.YtlmoibmmjonjoaaGreatDoorQ00
import Derived.Test.YtlmoibmmjonjoaaGreatDoorQ04
import Derived.Test.YtlmoibmmjonjoaaGreatDoorQ14
namespace Go.Proofs.YtlmoibmmjonjoaaGreatDoor
set_option linter.unusedVariables false
set_option linter.unusedSimpArgs false
open Go.RowKit

/-- A row of parts, all its own, from block G on. -/
abbrev OwnP (G : Nat) (ao : Option Addr) (cap : Nat) (out : List Prt) (w : World) : Prop := w.ownsRow G 100 3 (.slice ao out.length cap) out.length (pcs out)
theorem OwnP.cells {G : Nat} {ao : Option Addr} {cap : Nat} {r : List Prt} {p : Prt} {w : World} (h : OwnP G ao cap (r ++ [p]) w) : ∃ g, ao = some ⟨g, 0, none⟩ ∧ G ≤ g ∧ g < w.heap.size ∧ r.length + 1 ≤ cap ∧ cap ≤ maxLen ∧
    w.cell? ⟨g, r.length * 3, none⟩ = some (.int .i64 p.k) ∧ w.cell? ⟨g, r.length * 3 + 2, none⟩ = some (.string ⟨p.t.toArray⟩) ∧ ∀ o, w.frozen? ⟨g, o, none⟩ = false := by
  have h1 := h.2
  rcases h1 with ⟨_, h0⟩ | ⟨g, cap', cur, he, hb, hg, hc1, hc2, _⟩
  · simp at h0
  · injection he with e1 e2 e3
    subst e1
    subst e3
    rw [List.length_append] at hc1
    have hc := World.ownsRow.cellAt h
    have hf := World.ownsRow.frozenAt h
    obtain ⟨a, b, c⟩ := pcs_at (r ++ [p]) r.length (by simp)
    rw [Nat.mul_comm] at a b c
    refine ⟨g, rfl, hb, (Array.getElem?_eq_some_iff.1 hg).1, hc1, hc2, ?_, ?_, hf⟩
    · rw [hc _ (by rw [List.length_append, List.length_singleton]; omega), a]; simp
    · rw [hc _ (by rw [List.length_append, List.length_singleton]; omega), c]; simp
def RliR (G : Nat) (out : List Prt) (w : World) (e : Ending) (w' : World) : Prop := ∃ ao' cap', e = .returned (.slice ao' out.length cap') ∧ OwnP G ao' cap' out w' ∧ Frm (fun k => G ≤ k) w w'
set_option maxRecDepth 100000 in
set_option maxHeartbeats 1000000 in
theorem rlit_new (G : Nat) (ao : Option Addr) (cap : Nat) (out : List Prt) (b : UInt8) (w : World) (h : OwnP G ao cap out w) (hG : G ≤ w.heap.size) (hn : out.length ≤ 1000) (hl : lastLit out = false) :
    Calls Tryz.prog 101 #[.slice ao out.length cap, .string ⟨#[b]⟩] w (RliR G (out ++ [⟨1, 0, [b]⟩]) w) := by
  obtain ⟨i0, hi, hz0, hz1, hz2⟩ := info_parts infoPart
  have Hi := Lib.hid hi
  have Hz0 := Lib.hid hz0
  have Hz1 := Lib.hid hz1
  have Hz2 := Lib.hid hz2
  clear hi hz0 hz1 hz2
  have ho : out = [] ∨ ∃ r x, out = r ++ [x] ∧ x.k ≠ 1 := by
    rcases snoc_cases out with rfl | ⟨r, x, rfl⟩
    · exact .inl rfl
    · refine .inr ⟨r, x, rfl, ?_⟩
      unfold lastLit at hl
      rw [List.getLast?_concat] at hl
      simpa using hl
  have hrow := h
  obtain ⟨m, hm⟩ : ∃ m, out.length = m := ⟨_, rfl⟩
  have Hlen := Lib.hid hm
  have hfin : ∀ (ao2 : Option Addr) (cap2 : Nat) (w3 : World), w3.ownsRow G 100 3 (.slice ao2 (m + 1) cap2) (m + 1) (pcs out ++ [.int .i64 1, .int .i64 0, .string ⟨#[b]⟩]) → (w.alloc (.cells #[.int .i64 1, .int .i64 0, .string ⟨#[b]⟩] 100)).grownBy w3 (Value.slice ao out.length cap).ownBlock →
      RliR G (out ++ [⟨1, 0, [b]⟩]) w (.returned (.slice ao2 (m + 1) cap2)) w3 := by
    intro ao2 cap2 w3 h3 hg
    refine ⟨ao2, cap2, by rw [List.length_append, hm]; rfl, ?_, ?_⟩
    · unfold OwnP
      rw [pcs_app, pcs_one, List.length_append, hm]
      exact h3
    · refine (Frm.of_ext ((Ext.refl w).alloc _)).trans ((Frm.refl _ _).grown hg (fun k hk => .inl ?_))
      exact (h.lt k hk).1
  have HF := Lib.hid hfin
  clear hfin
  rcases ho with ho | ⟨r, x, ho, hx⟩
  · have t0 : ((m : Int) == 0) = true := by rw [beq_iff_eq, ← hm, ho]; rfl
    clear hl ho h
    unfold OwnP at hrow
    rw [hm] at hrow hn HF ⊢
    clear hm
    go_enter Tryz.func101, Tryz.ntmps101
    go_wp2_with (first
      | (at_builtin; go_loud (refine wpList_append_own _ rfl _ _ 66 rfl G 100 i0 (.agg #[.int .i64 0, .int .i64 0, .string ByteArray.empty]) 3 32 Tryz.underlying66 Hi.out Hz0.out Hz1.out Hz2.out rfl (by decide) _ _ _ rfl (hrow.alloc _) ⟨w.heap.size, 0, none⟩ 1 1 [.int .i64 1, .int .i64 0, .string ⟨#[b]⟩] rfl rfl (cell_three_new _ _ _ _ _) (fun x hx => by simp at hx; rcases hx with rfl | rfl | rfl <;> rfl) (by unfold maxLen; omega) (by omega) (by rw [World.size_alloc]; omega) ?_; intro v' w3 hown' hgrow3 hnil3; obtain ⟨ao2, cap2, rfl⟩ := own_slice hown')))
    go_ret
    exact HF.out ao2 cap2 w3 hown' hgrow3
  · have hc := h
    rw [ho] at hc
    obtain ⟨g, rfl, hBg, hgl, hcap, hcm, k0, -, hfr⟩ := hc.cells
    obtain ⟨m1, hm1⟩ : ∃ m1, r.length = m1 := ⟨_, rfl⟩
    have hmm : m = m1 + 1 := by rw [← hm, ho, ← hm1]; simp
    rw [hm1] at k0
    have t1 : (x.k != 1) = true := by simpa using hx
    have t0 : ((m : Int) == 0) = false := by rw [beq_eq_false_iff_ne]; omega
    have hji : (m : Int) - 1 = (m1 : Int) := by omega
    have hji2 : (0 : Int) ≤ (m1 : Int) := by omega
    have hji3 : (m1 : Int) < (m : Int) := by omega
    unfold OwnP at hrow
    rw [hm] at hrow hn HF ⊢
    clear hl ho hc hx hm hm1 hmm h
    unfold maxLen at hcm
    go_enter Tryz.func101, Tryz.ntmps101
    go_wp2_with (first
      | (at_builtin; go_loud (refine wpList_append_own _ rfl _ _ 66 rfl G 100 i0 (.agg #[.int .i64 0, .int .i64 0, .string ByteArray.empty]) 3 32 Tryz.underlying66 Hi.out Hz0.out Hz1.out Hz2.out rfl (by decide) _ _ _ rfl (hrow.alloc _) ⟨w.heap.size, 0, none⟩ 1 1 [.int .i64 1, .int .i64 0, .string ⟨#[b]⟩] rfl rfl (cell_three_new _ _ _ _ _) (fun x hx => by simp at hx; rcases hx with rfl | rfl | rfl <;> rfl) (by unfold maxLen; omega) (by omega) (by rw [World.size_alloc]; omega) ?_; intro v' w3 hown' hgrow3 hnil3; obtain ⟨ao2, cap2, rfl⟩ := own_slice hown')))
    go_ret
    exact HF.out ao2 cap2 w3 hown' hgrow3
set_option maxRecDepth 100000 in
set_option maxHeartbeats 1000000 in
theorem rlit_old (G : Nat) (ao : Option Addr) (cap : Nat) (r : List Prt) (wd : Int) (t : List UInt8) (b : UInt8) (w : World) (h : OwnP G ao cap (r ++ [⟨1, wd, t⟩]) w) (hn : r.length ≤ 1000) (ht : t.length ≤ 1000) :
    Calls Tryz.prog 101 #[.slice ao (r ++ [(⟨1, wd, t⟩ : Prt)]).length cap, .string ⟨#[b]⟩] w (RliR G (r ++ [⟨1, wd, t ++ [b]⟩]) w) := by
  obtain ⟨g, rfl, hBg, hgl, hcap, hcm, k0, k2, hfr⟩ := h.cells
  have hst := (h.stored (r.length * 3 + 2) (.string ⟨(t ++ [b]).toArray⟩)).1
  have he := pcs_set r ⟨1, wd, t⟩ (t ++ [b])
  rw [Nat.mul_comm 3] at he
  rw [he] at hst
  have e0 : (r ++ [(⟨1, wd, t⟩ : Prt)]).length = r.length + 1 := by simp
  have hfin : ∀ w3, w3 = w.setCell ⟨g, r.length * 3 + 2, none⟩ (.string ⟨(t ++ [b]).toArray⟩) → RliR G (r ++ [⟨1, wd, t ++ [b]⟩]) w (.returned (.slice (some ⟨g, 0, none⟩) (r.length + 1) cap)) w3 := by
    rintro w3 rfl
    refine ⟨some ⟨g, 0, none⟩, cap, by simp, ?_, (Frm.refl _ w).setCell (.inl hBg) _⟩
    unfold OwnP
    rw [e0] at hst
    rw [List.length_append]
    exact hst
  have HF := Lib.hid hfin
  rw [e0]
  obtain ⟨m, hm⟩ : ∃ m, r.length = m := ⟨_, rfl⟩
  rw [hm] at k0 k2 hcap hn HF ⊢
  have t0 : (((m : Int) + 1) == 0) = false := by rw [beq_eq_false_iff_ne]; omega
  have hsn := snoc_str t b
  obtain ⟨t', ht'⟩ : ∃ t', t' = t ++ [b] := ⟨_, rfl⟩
  rw [← ht'] at hsn HF ⊢
  have Ht := Lib.hid ht'
  unfold maxLen at hcm
  clear h hst he e0 hfin hm ht'
  go_enter Tryz.func101, Tryz.ntmps101
  go_wp2_with fail
  go_ret
  exact HF.out _ rfl
theorem rliteral_c (G : Nat) (ao : Option Addr) (cap : Nat) (out : List Prt) (b : UInt8) (w : World) (h : OwnP G ao cap out w) (hG : G ≤ w.heap.size) (hn : out.length ≤ 1000) (ht : ∀ p ∈ out, p.t.length ≤ 1000) :
    Calls Tryz.prog 101 #[.slice ao out.length cap, .string ⟨#[b]⟩] w (RliR G (addLit out b) w) := by
  rcases snoc_cases out with rfl | ⟨r, ⟨k, wd, t⟩, rfl⟩
  · rw [addLit_nil]
    exact rlit_new G ao cap [] b w h hG hn rfl
  · rw [addLit_snoc]
    by_cases hk : k = 1
    · subst hk
      rw [if_pos rfl]
      exact rlit_old G ao cap r wd t b w h (by simp at hn; omega) (ht ⟨1, wd, t⟩ (by simp))
    · rw [if_neg hk]
      exact rlit_new G ao cap _ b w h hG hn (by unfold lastLit; rw [List.getLast?_concat]; simpa using hk)
end Go.Proofs.YtlmoibmmjonjoaaGreatDoor
/- Patterns: the walks of the reference's letters and field. -/
namespace Go.Proofs.YtlmoibmmjonjoaaGreatDoor
set_option linter.unusedVariables false
set_option linter.unusedSimpArgs false
open Go.RowKit

theorem risLt_c (c : UInt8) (b : Bool) (w : World) (h : isLt c = b) : Calls Tryz.prog 102 #[.int .u8 (c.toNat : Int)] w fun e w' => e = .returned (.bool b) ∧ w = w' := by
  subst h
  have hc : c.toNat < 256 := c.toNat_lt
  go_enter Tryz.func102, Tryz.ntmps102
  go_wp2
  all_goals
    go_ret
    refine ⟨?_, rfl⟩
    refine congrArg (fun b => Ending.returned (Value.bool b)) ?_
    unfold isLt
    rw [Bool.eq_iff_iff]
    simp
    omega
theorem rFull_c (k : Int) (F : Int) (w : World) (h : fullZ k = F) : Calls Tryz.prog 134 #[.int .i64 k] w fun e w' => e = .returned (.int .i64 F) ∧ w = w' := by
  subst h
  go_enter Tryz.func134, Tryz.ntmps134
  go_wp2
  all_goals
    go_ret
    refine ⟨?_, rfl⟩
    refine congrArg (fun b => Ending.returned (Value.int .i64 b)) ?_
    unfold fullZ
    simp_all
theorem rletter_c (k : Nat) (hk : k < 16) (w : World) : Calls Tryz.prog 133 #[.int .i64 (k : Int)] w fun e w' => e = .returned (.int .u8 ((letK k).toNat : Int)) ∧ w = w' := by
  have hl := bget letR k (by simpa [letR] using hk) (letK k) (by unfold letK; simp [List.getD]; rw [List.getElem?_eq_getElem (by simpa [letR] using hk)]; rfl)
  replace hl : (⟨#[63, 63, 121, 77, 77, 77, 100, 69, 69, 72, 104, 109, 115, 97, 90, 122]⟩ : ByteArray)[k]'(by show k < 16; exact hk) = letK k := hl
  have hz : (⟨#[63, 63, 121, 77, 77, 77, 100, 69, 69, 72, 104, 109, 115, 97, 90, 122]⟩ : ByteArray).size = 16 := rfl
  go_enter Tryz.func133, Tryz.ntmps133
  go_wp2
  go_ret
  exact ⟨rfl, rfl⟩
/-- What the reference's field gives. -/
def RfR (p : Prt) (w : World) (e : Ending) (w' : World) : Prop := e = .returned (.tuple #[.agg #[.int .i64 p.k, .int .i64 p.w, .string ⟨p.t.toArray⟩], .bool (decide (p.k ≠ 0))]) ∧ Ext w w'
set_option maxRecDepth 100000 in
set_option maxHeartbeats 1000000 in
theorem rfield_c (c : UInt8) (n : Nat) (w : World) (hn : n ≤ 1000) : Calls Tryz.prog 103 #[.int .u8 (c.toNat : Int), .int .i64 (n : Int)] w (RfR (rfK c n 2) w) := by
  have hE : Ext w (w.alloc (.cells #[.int .i64 0, .int .i64 0, .string ⟨#[]⟩] 100)) := (Ext.refl w).alloc _
  go_enter Tryz.func103, Tryz.ntmps103
  go_wp2_with fail
  go_loopw [6, 7, 8] (fun i _ _ wr => ∃ k : Nat, 2 ≤ k ∧ k ≤ 16 ∧ i = .int .i64 (k : Int) ∧ Hid (rfK c n 2 = rfK c n k) ∧ wr = (w.alloc (.cells #[.int .i64 0, .int .i64 0, .string ⟨#[]⟩] 100))) (fun i _ _ _ => 16 - (intOf i).toNat)
  case atStart => exact ⟨2, by omega, by omega, rfl, rfl, rfl⟩
  case round =>
    obtain ⟨k, hk2, hk16, rfl, HI, rfl⟩ := hrel
    by_cases hlt : k < 16
    · have HS := HI.out
      rw [rfK_step c n k hlt] at HS
      have hkI : (k : Int) ≤ 15 := by omega
      have HF : Hid (fullZ (k : Int) = (fullN k : Int)) := fullZ_nat k
      have HL := Lib.hid (rletter_c k hlt)
      by_cases hc : letK k = c
      · have tl : (((letK k).toNat : Int) != (c.toNat : Int)) = false := by rw [hc]; simp
        rw [if_neg (by simpa using hc)] at HS
        clear hc
        obtain ⟨F, hF⟩ : ∃ F, F = fullN k := ⟨_, rfl⟩
        rw [← hF] at HS HF
        have HFF := Lib.hid hF
        by_cases hF0 : F = 0
        · rw [if_neg (by simpa using hF0)] at HS
          subst hF0
          by_cases k4 : k = 4 ∨ k = 7
          · have hw : wantN k = 3 := by unfold wantN; rw [if_pos k4]
            have q1 : ((k : Int) == 4) = true ∨ (((k : Int) == 4) = false ∧ ((k : Int) == 7) = true) := by
              rcases k4 with rfl | rfl
              · exact .inl rfl
              · exact .inr ⟨rfl, rfl⟩
            have q5 : ((k : Int) == 5) = false := by rw [beq_eq_false_iff_ne]; omega
            have q8 : ((k : Int) == 8) = false := by rw [beq_eq_false_iff_ne]; omega
            rw [hw] at HS
            clear k4 hw hF
            rcases q1 with q1 | ⟨q1, q7⟩
            · by_cases hnw : n = 3
              · rw [if_pos hnw] at HS
                have HV := Lib.hid HS
                have tn : ((n : Int) == 3) = true := by rw [beq_iff_eq]; omega
                clear HS hnw
                go_wp2_with (first
                  | (go_at_call 133; (with_reducible refine (HL.out _).mono ?_); rintro e w1 ⟨rfl, rfl⟩)
                  | (go_at_call 134; (with_reducible refine (rFull_c _ _ _ HF.out).mono ?_); rintro e w1 ⟨rfl, rfl⟩))
                refine bodyPost_ret (v := .tuple #[.agg #[.int .i64 (k : Int), .int .i64 0, .string ⟨#[]⟩], .bool true]) ?_ rfl ⟨?_, ?_⟩
                · simp [results, Tryz.results103, go_sem]
                · rw [HV.out]
                  have : decide ((k : Int) ≠ 0) = true := by simp; omega
                  simp only [this]
                · (repeat (with_reducible (first | exact hE | refine Ext.setCell ?_ (Nat.le_refl _) _ | refine Ext.alloc ?_ _ | exact Ext.refl _)))
              · rw [if_neg hnw] at HS
                have HV := Lib.hid HS
                have tn : ((n : Int) == 3) = false := by rw [beq_eq_false_iff_ne]; omega
                clear HS hnw
                go_wp2_with (first
                  | (go_at_call 133; (with_reducible refine (HL.out _).mono ?_); rintro e w1 ⟨rfl, rfl⟩)
                  | (go_at_call 134; (with_reducible refine (rFull_c _ _ _ HF.out).mono ?_); rintro e w1 ⟨rfl, rfl⟩))
                go_roundw
                case rel => exact ⟨k + 1, by omega, by omega, by go_num, HV.out, by trivial⟩
                case measure => simp [intOf]; omega
            · by_cases hnw : n = 3
              · rw [if_pos hnw] at HS
                have HV := Lib.hid HS
                have tn : ((n : Int) == 3) = true := by rw [beq_iff_eq]; omega
                clear HS hnw
                go_wp2_with (first
                  | (go_at_call 133; (with_reducible refine (HL.out _).mono ?_); rintro e w1 ⟨rfl, rfl⟩)
                  | (go_at_call 134; (with_reducible refine (rFull_c _ _ _ HF.out).mono ?_); rintro e w1 ⟨rfl, rfl⟩))
                refine bodyPost_ret (v := .tuple #[.agg #[.int .i64 (k : Int), .int .i64 0, .string ⟨#[]⟩], .bool true]) ?_ rfl ⟨?_, ?_⟩
                · simp [results, Tryz.results103, go_sem]
                · rw [HV.out]
                  have : decide ((k : Int) ≠ 0) = true := by simp; omega
                  simp only [this]
                · (repeat (with_reducible (first | exact hE | refine Ext.setCell ?_ (Nat.le_refl _) _ | refine Ext.alloc ?_ _ | exact Ext.refl _)))
              · rw [if_neg hnw] at HS
                have HV := Lib.hid HS
                have tn : ((n : Int) == 3) = false := by rw [beq_eq_false_iff_ne]; omega
                clear HS hnw
                go_wp2_with (first
                  | (go_at_call 133; (with_reducible refine (HL.out _).mono ?_); rintro e w1 ⟨rfl, rfl⟩)
                  | (go_at_call 134; (with_reducible refine (rFull_c _ _ _ HF.out).mono ?_); rintro e w1 ⟨rfl, rfl⟩))
                go_roundw
                case rel => exact ⟨k + 1, by omega, by omega, by go_num, HV.out, by trivial⟩
                case measure => simp [intOf]; omega
          · have q4 : ((k : Int) == 4) = false := by rw [beq_eq_false_iff_ne]; omega
            have q7 : ((k : Int) == 7) = false := by rw [beq_eq_false_iff_ne]; omega
            by_cases k5 : k = 5 ∨ k = 8
            · have hw : wantN k = 4 := by unfold wantN; rw [if_neg k4, if_pos k5]
              have q1 : ((k : Int) == 5) = true ∨ (((k : Int) == 5) = false ∧ ((k : Int) == 8) = true) := by
                rcases k5 with rfl | rfl
                · exact .inl rfl
                · exact .inr ⟨rfl, rfl⟩
              rw [hw] at HS
              clear k4 k5 hw hF
              rcases q1 with q1 | ⟨q1, q8⟩
              · by_cases hnw : n = 4
                · rw [if_pos hnw] at HS
                  have HV := Lib.hid HS
                  have tn : ((n : Int) == 4) = true := by rw [beq_iff_eq]; omega
                  clear HS hnw
                  go_wp2_with (first
                    | (go_at_call 133; (with_reducible refine (HL.out _).mono ?_); rintro e w1 ⟨rfl, rfl⟩)
                    | (go_at_call 134; (with_reducible refine (rFull_c _ _ _ HF.out).mono ?_); rintro e w1 ⟨rfl, rfl⟩))
                  refine bodyPost_ret (v := .tuple #[.agg #[.int .i64 (k : Int), .int .i64 0, .string ⟨#[]⟩], .bool true]) ?_ rfl ⟨?_, ?_⟩
                  · simp [results, Tryz.results103, go_sem]
                  · rw [HV.out]
                    have : decide ((k : Int) ≠ 0) = true := by simp; omega
                    simp only [this]
                  · (repeat (with_reducible (first | exact hE | refine Ext.setCell ?_ (Nat.le_refl _) _ | refine Ext.alloc ?_ _ | exact Ext.refl _)))
                · rw [if_neg hnw] at HS
                  have HV := Lib.hid HS
                  have tn : ((n : Int) == 4) = false := by rw [beq_eq_false_iff_ne]; omega
                  clear HS hnw
                  go_wp2_with (first
                    | (go_at_call 133; (with_reducible refine (HL.out _).mono ?_); rintro e w1 ⟨rfl, rfl⟩)
                    | (go_at_call 134; (with_reducible refine (rFull_c _ _ _ HF.out).mono ?_); rintro e w1 ⟨rfl, rfl⟩))
                  go_roundw
                  case rel => exact ⟨k + 1, by omega, by omega, by go_num, HV.out, by trivial⟩
                  case measure => simp [intOf]; omega
              · by_cases hnw : n = 4
                · rw [if_pos hnw] at HS
                  have HV := Lib.hid HS
                  have tn : ((n : Int) == 4) = true := by rw [beq_iff_eq]; omega
                  clear HS hnw
                  go_wp2_with (first
                    | (go_at_call 133; (with_reducible refine (HL.out _).mono ?_); rintro e w1 ⟨rfl, rfl⟩)
                    | (go_at_call 134; (with_reducible refine (rFull_c _ _ _ HF.out).mono ?_); rintro e w1 ⟨rfl, rfl⟩))
                  refine bodyPost_ret (v := .tuple #[.agg #[.int .i64 (k : Int), .int .i64 0, .string ⟨#[]⟩], .bool true]) ?_ rfl ⟨?_, ?_⟩
                  · simp [results, Tryz.results103, go_sem]
                  · rw [HV.out]
                    have : decide ((k : Int) ≠ 0) = true := by simp; omega
                    simp only [this]
                  · (repeat (with_reducible (first | exact hE | refine Ext.setCell ?_ (Nat.le_refl _) _ | refine Ext.alloc ?_ _ | exact Ext.refl _)))
                · rw [if_neg hnw] at HS
                  have HV := Lib.hid HS
                  have tn : ((n : Int) == 4) = false := by rw [beq_eq_false_iff_ne]; omega
                  clear HS hnw
                  go_wp2_with (first
                    | (go_at_call 133; (with_reducible refine (HL.out _).mono ?_); rintro e w1 ⟨rfl, rfl⟩)
                    | (go_at_call 134; (with_reducible refine (rFull_c _ _ _ HF.out).mono ?_); rintro e w1 ⟨rfl, rfl⟩))
                  go_roundw
                  case rel => exact ⟨k + 1, by omega, by omega, by go_num, HV.out, by trivial⟩
                  case measure => simp [intOf]; omega
            · have q5 : ((k : Int) == 5) = false := by rw [beq_eq_false_iff_ne]; omega
              have q8 : ((k : Int) == 8) = false := by rw [beq_eq_false_iff_ne]; omega
              have hw : wantN k = 1 := by unfold wantN; rw [if_neg k4, if_neg k5]
              rw [hw] at HS
              clear k4 k5 hw hF
              by_cases hnw : n = 1
              · rw [if_pos hnw] at HS
                have HV := Lib.hid HS
                have tn : ((n : Int) == 1) = true := by rw [beq_iff_eq]; omega
                clear HS hnw
                go_wp2_with (first
                  | (go_at_call 133; (with_reducible refine (HL.out _).mono ?_); rintro e w1 ⟨rfl, rfl⟩)
                  | (go_at_call 134; (with_reducible refine (rFull_c _ _ _ HF.out).mono ?_); rintro e w1 ⟨rfl, rfl⟩))
                refine bodyPost_ret (v := .tuple #[.agg #[.int .i64 (k : Int), .int .i64 0, .string ⟨#[]⟩], .bool true]) ?_ rfl ⟨?_, ?_⟩
                · simp [results, Tryz.results103, go_sem]
                · rw [HV.out]
                  have : decide ((k : Int) ≠ 0) = true := by simp; omega
                  simp only [this]
                · (repeat (with_reducible (first | exact hE | refine Ext.setCell ?_ (Nat.le_refl _) _ | refine Ext.alloc ?_ _ | exact Ext.refl _)))
              · rw [if_neg hnw] at HS
                have HV := Lib.hid HS
                have tn : ((n : Int) == 1) = false := by rw [beq_eq_false_iff_ne]; omega
                clear HS hnw
                go_wp2_with (first
                  | (go_at_call 133; (with_reducible refine (HL.out _).mono ?_); rintro e w1 ⟨rfl, rfl⟩)
                  | (go_at_call 134; (with_reducible refine (rFull_c _ _ _ HF.out).mono ?_); rintro e w1 ⟨rfl, rfl⟩))
                go_roundw
                case rel => exact ⟨k + 1, by omega, by omega, by go_num, HV.out, by trivial⟩
                case measure => simp [intOf]; omega
        · rw [if_pos (by simpa using hF0)] at HS
          have hF0' : (0 : Int) < (F : Int) := by omega
          by_cases hnF : n ≤ F
          · rw [if_pos hnF] at HS
            have HV := Lib.hid HS
            clear HS hF0 hF
            go_wp2_with (first
              | (go_at_call 133; (with_reducible refine (HL.out _).mono ?_); rintro e w1 ⟨rfl, rfl⟩)
              | (go_at_call 134; (with_reducible refine (rFull_c _ _ _ HF.out).mono ?_); rintro e w1 ⟨rfl, rfl⟩))
            refine bodyPost_ret (v := .tuple #[.agg #[.int .i64 (k : Int), .int .i64 (n : Int), .string ⟨#[]⟩], .bool true]) ?_ rfl ⟨?_, ?_⟩
            · simp [results, Tryz.results103, go_sem]
            · rw [HV.out]
              have : decide ((k : Int) ≠ 0) = true := by simp; omega
              simp only [this]
            · (repeat (with_reducible (first | exact hE | refine Ext.setCell ?_ (Nat.le_refl _) _ | refine Ext.alloc ?_ _ | exact Ext.refl _)))
          · rw [if_neg hnF] at HS
            have HV := Lib.hid HS
            have hnF' : ¬ (n : Int) ≤ (F : Int) := by omega
            clear HS hF0 hF hnF
            go_wp2_with (first
              | (go_at_call 133; (with_reducible refine (HL.out _).mono ?_); rintro e w1 ⟨rfl, rfl⟩)
              | (go_at_call 134; (with_reducible refine (rFull_c _ _ _ HF.out).mono ?_); rintro e w1 ⟨rfl, rfl⟩))
            go_roundw
            case rel => exact ⟨k + 1, by omega, by omega, by go_num, HV.out, by trivial⟩
            case measure => simp [intOf]; omega
      · have tl : (((letK k).toNat : Int) != (c.toNat : Int)) = true := by
          rw [bne_iff_ne]
          intro e
          exact hc (by rw [← UInt8.toNat_inj]; omega)
        rw [if_pos hc] at HS
        have HV := Lib.hid HS
        clear HS hc
        go_wp2_with (first
          | (go_at_call 133; (with_reducible refine (HL.out _).mono ?_); rintro e w1 ⟨rfl, rfl⟩))
        go_roundw
        case rel => exact ⟨k + 1, by omega, by omega, by go_num, HV.out, by trivial⟩
        case measure => simp [intOf]; omega
    · obtain rfl : k = 16 := by omega
      have HV : Hid (rfK c n 2 = ⟨0, 0, []⟩) := by rw [Hid, HI.out, rfK_end]
      clear hlt
      go_wp2_with fail
      refine bodyPost_ret (v := .tuple #[.agg #[.int .i64 0, .int .i64 0, .string ⟨#[]⟩], .bool false]) ?_ rfl ⟨?_, ?_⟩
      · simp [results, Tryz.results103, go_sem]
      · rw [HV.out]; rfl
      · (repeat (with_reducible (first | exact hE | refine Ext.setCell ?_ (Nat.le_refl _) _ | refine Ext.alloc ?_ _ | exact Ext.refl _)))
end Go.Proofs.YtlmoibmmjonjoaaGreatDoor
