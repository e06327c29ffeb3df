/- The reference's ValidNames. -/
import Derived.Test.YtnhdmnhfllecgaaGreatDoorQ19
import Derived.Test.YtnhdmnhfllecgaaGreatDoorQ15
import Derived.Test.YtnhdmnhfllecgaaGreatDoorQ01
namespace Go.Proofs.YtnhdmnhfllecgaaGreatDoor
set_option linter.unusedVariables false
set_option linter.unusedSimpArgs false
open Go.RowKit

theorem rnames_k {N : Nms} (hN : N.ok) (hl : ∀ s ∈ N.all, s.length ≤ 2000000) (k : Int) (hk : k = 4 ∨ k = 5 ∨ k = 7 ∨ k = 8 ∨ k = 13) (B n O : Nat) (b : Bool) (w : World) (h : RdS N.all B 0 w) (hO : offK k = O) (hn : (lstK N k).length = n) (hb : nmsB 30 (lstK N k) = b) :
    Calls Tryz.prog 88 #[.slice (some ⟨B, O, none⟩) n n] w fun e w' => e = .returned (.bool b) ∧ w = w' := by
  subst hO
  have h12 := lstK_len hN k
  have q := rnames_c (lstK N k) B (offK k) b w (names_at hN h hk) (by omega) (fun s hs => hl s (lstK_sub N k s hs)) hb
  rw [hn] at q
  exact q
set_option maxRecDepth 100000 in
set_option maxHeartbeats 1000000 in
theorem rvalidnames_c (N : Nms) (b : Bool) (hN : N.ok) (w : World) (hl : ∀ s ∈ N.all, s.length ≤ 2000000) (hv : nmOk N = b) : Calls Tryz.prog 37 #[.agg (sv N.all).toArray] w fun e w' => e = .returned (.bool b) ∧ Ext w w' := by
  have hE0 : Ext w (w.alloc (.cells (sv N.all).toArray 26)) := (Ext.refl w).alloc _
  have hR0 : RdS N.all w.heap.size 0 (w.alloc (.cells (sv N.all).toArray 26)) := by
    refine ⟨by simp, fun i hi => ?_⟩
    rw [Nat.zero_add, World.cell?_alloc_new]
    simp [sv, hi]
  obtain ⟨n1, n2, n3, n4, n5⟩ := hN
  have s1 := sl33
  have s2 := sl34
  have s3 := sl35
  obtain ⟨b1, hb1⟩ : ∃ b, nmsB 30 N.mo = b := ⟨_, rfl⟩
  obtain ⟨b2, hb2⟩ : ∃ b, nmsB 30 N.sh = b := ⟨_, rfl⟩
  obtain ⟨b3, hb3⟩ : ∃ b, nmsB 30 N.da = b := ⟨_, rfl⟩
  obtain ⟨b4, hb4⟩ : ∃ b, nmsB 30 N.sd = b := ⟨_, rfl⟩
  obtain ⟨b5, hb5⟩ : ∃ b, nmsB 30 N.ha = b := ⟨_, rfl⟩
  have HV : Hid ((b1 && b2 && b3 && b4 && b5) = b) := by rw [← hb1, ← hb2, ← hb3, ← hb4, ← hb5]; exact hv
  have hN : N.ok := ⟨n1, n2, n3, n4, n5⟩
  have HM := Lib.hid (rnames_k hN hl 5 (by decide) w.heap.size 12 0 b1 _ hR0 (by decide) n1 hb1)
  have HS := Lib.hid (rnames_k hN hl 4 (by decide) w.heap.size 12 12 b2 _ hR0 (by decide) n2 hb2)
  have HD := Lib.hid (rnames_k hN hl 8 (by decide) w.heap.size 7 24 b3 _ hR0 (by decide) n3 hb3)
  have HT := Lib.hid (rnames_k hN hl 7 (by decide) w.heap.size 7 31 b4 _ hR0 (by decide) n4 hb4)
  have HH := Lib.hid (rnames_k hN hl 13 (by decide) w.heap.size 2 38 b5 _ hR0 (by decide) n5 hb5)
  clear hl hv hb1 hb2 hb3 hb4 hb5 hN n1 n2 n3 n4 n5 hR0
  cases b1 with
  | false =>
    have HV2 : Hid (b = false) := by rw [Hid, ← HV.out]; rfl
    go_enter Tryz.func37, Tryz.ntmps37
    go_wp2_with (first
      | (go_at_call 88; (with_reducible refine HM.out.mono ?_); rintro e w1 ⟨rfl, rfl⟩)
      | (go_at_call 88; (with_reducible refine HS.out.mono ?_); rintro e w1 ⟨rfl, rfl⟩)
      | (go_at_call 88; (with_reducible refine HD.out.mono ?_); rintro e w1 ⟨rfl, rfl⟩)
      | (go_at_call 88; (with_reducible refine HT.out.mono ?_); rintro e w1 ⟨rfl, rfl⟩)
      | (go_at_call 88; (with_reducible refine HH.out.mono ?_); rintro e w1 ⟨rfl, rfl⟩))
    go_ret
    exact ⟨by rw [HV2.out]; rfl, hE0⟩
  | true =>
    cases b2 with
    | false =>
      have HV2 : Hid (b = false) := by rw [Hid, ← HV.out]; rfl
      go_enter Tryz.func37, Tryz.ntmps37
      go_wp2_with (first
        | (go_at_call 88; (with_reducible refine HM.out.mono ?_); rintro e w1 ⟨rfl, rfl⟩)
        | (go_at_call 88; (with_reducible refine HS.out.mono ?_); rintro e w1 ⟨rfl, rfl⟩)
        | (go_at_call 88; (with_reducible refine HD.out.mono ?_); rintro e w1 ⟨rfl, rfl⟩)
        | (go_at_call 88; (with_reducible refine HT.out.mono ?_); rintro e w1 ⟨rfl, rfl⟩)
        | (go_at_call 88; (with_reducible refine HH.out.mono ?_); rintro e w1 ⟨rfl, rfl⟩))
      go_ret
      exact ⟨by rw [HV2.out]; rfl, hE0⟩
    | true =>
      cases b3 with
      | false =>
        have HV2 : Hid (b = false) := by rw [Hid, ← HV.out]; rfl
        go_enter Tryz.func37, Tryz.ntmps37
        go_wp2_with (first
          | (go_at_call 88; (with_reducible refine HM.out.mono ?_); rintro e w1 ⟨rfl, rfl⟩)
          | (go_at_call 88; (with_reducible refine HS.out.mono ?_); rintro e w1 ⟨rfl, rfl⟩)
          | (go_at_call 88; (with_reducible refine HD.out.mono ?_); rintro e w1 ⟨rfl, rfl⟩)
          | (go_at_call 88; (with_reducible refine HT.out.mono ?_); rintro e w1 ⟨rfl, rfl⟩)
          | (go_at_call 88; (with_reducible refine HH.out.mono ?_); rintro e w1 ⟨rfl, rfl⟩))
        go_ret
        exact ⟨by rw [HV2.out]; rfl, hE0⟩
      | true =>
        cases b4 with
        | false =>
          have HV2 : Hid (b = false) := by rw [Hid, ← HV.out]; rfl
          go_enter Tryz.func37, Tryz.ntmps37
          go_wp2_with (first
            | (go_at_call 88; (with_reducible refine HM.out.mono ?_); rintro e w1 ⟨rfl, rfl⟩)
            | (go_at_call 88; (with_reducible refine HS.out.mono ?_); rintro e w1 ⟨rfl, rfl⟩)
            | (go_at_call 88; (with_reducible refine HD.out.mono ?_); rintro e w1 ⟨rfl, rfl⟩)
            | (go_at_call 88; (with_reducible refine HT.out.mono ?_); rintro e w1 ⟨rfl, rfl⟩)
            | (go_at_call 88; (with_reducible refine HH.out.mono ?_); rintro e w1 ⟨rfl, rfl⟩))
          go_ret
          exact ⟨by rw [HV2.out]; rfl, hE0⟩
        | true =>
          cases b5 with
          | false =>
            have HV2 : Hid (b = false) := by rw [Hid, ← HV.out]; rfl
            go_enter Tryz.func37, Tryz.ntmps37
            go_wp2_with (first
              | (go_at_call 88; (with_reducible refine HM.out.mono ?_); rintro e w1 ⟨rfl, rfl⟩)
              | (go_at_call 88; (with_reducible refine HS.out.mono ?_); rintro e w1 ⟨rfl, rfl⟩)
              | (go_at_call 88; (with_reducible refine HD.out.mono ?_); rintro e w1 ⟨rfl, rfl⟩)
              | (go_at_call 88; (with_reducible refine HT.out.mono ?_); rintro e w1 ⟨rfl, rfl⟩)
              | (go_at_call 88; (with_reducible refine HH.out.mono ?_); rintro e w1 ⟨rfl, rfl⟩))
            go_ret
            exact ⟨by rw [HV2.out]; rfl, hE0⟩
          | true =>
            have HV2 : Hid (b = true) := by rw [Hid, ← HV.out]; rfl
            go_enter Tryz.func37, Tryz.ntmps37
            go_wp2_with (first
              | (go_at_call 88; (with_reducible refine HM.out.mono ?_); rintro e w1 ⟨rfl, rfl⟩)
              | (go_at_call 88; (with_reducible refine HS.out.mono ?_); rintro e w1 ⟨rfl, rfl⟩)
              | (go_at_call 88; (with_reducible refine HD.out.mono ?_); rintro e w1 ⟨rfl, rfl⟩)
              | (go_at_call 88; (with_reducible refine HT.out.mono ?_); rintro e w1 ⟨rfl, rfl⟩)
              | (go_at_call 88; (with_reducible refine HH.out.mono ?_); rintro e w1 ⟨rfl, rfl⟩))
            go_ret
            exact ⟨by rw [HV2.out]; rfl, hE0⟩
end Go.Proofs.YtnhdmnhfllecgaaGreatDoor
/- Patterns: the walk of the reference's literal. -/
namespace Go.Proofs.YtnhdmnhfllecgaaGreatDoor
set_option linter.unusedVariables false
set_option linter.unusedSimpArgs false
open Go.RowKit

/-- A row of parts, all its own, from block G on. -/
abbrev OwnP (G : Nat) (ao : Option Addr) (cap : Nat) (out : List Prt) (w : World) : Prop := w.ownsRow G 110 3 (.slice ao out.length cap) out.length (pcs out)
theorem OwnP.cells {G : Nat} {ao : Option Addr} {cap : Nat} {r : List Prt} {p : Prt} {w : World} (h : OwnP G ao cap (r ++ [p]) w) : ∃ g, ao = some ⟨g, 0, none⟩ ∧ G ≤ g ∧ g < w.heap.size ∧ r.length + 1 ≤ cap ∧ cap ≤ maxLen ∧
    w.cell? ⟨g, r.length * 3, none⟩ = some (.int .i64 p.k) ∧ w.cell? ⟨g, r.length * 3 + 2, none⟩ = some (.string ⟨p.t.toArray⟩) ∧ ∀ o, w.frozen? ⟨g, o, none⟩ = false := by
  have h1 := h.2
  rcases h1 with ⟨_, h0⟩ | ⟨g, cap', cur, he, hb, hg, hc1, hc2, _⟩
  · simp at h0
  · injection he with e1 e2 e3
    subst e1
    subst e3
    rw [List.length_append] at hc1
    have hc := World.ownsRow.cellAt h
    have hf := World.ownsRow.frozenAt h
    obtain ⟨a, b, c⟩ := pcs_at (r ++ [p]) r.length (by simp)
    rw [Nat.mul_comm] at a b c
    refine ⟨g, rfl, hb, (Array.getElem?_eq_some_iff.1 hg).1, hc1, hc2, ?_, ?_, hf⟩
    · rw [hc _ (by rw [List.length_append, List.length_singleton]; omega), a]; simp
    · rw [hc _ (by rw [List.length_append, List.length_singleton]; omega), c]; simp
def RliR (G : Nat) (out : List Prt) (w : World) (e : Ending) (w' : World) : Prop := ∃ ao' cap', e = .returned (.slice ao' out.length cap') ∧ OwnP G ao' cap' out w' ∧ Frm (fun k => G ≤ k) w w'
set_option maxRecDepth 100000 in
set_option maxHeartbeats 1000000 in
theorem rlit_new (G : Nat) (ao : Option Addr) (cap : Nat) (out : List Prt) (b : UInt8) (w : World) (h : OwnP G ao cap out w) (hG : G ≤ w.heap.size) (hn : out.length ≤ 1000) (hl : lastLit out = false) :
    Calls Tryz.prog 83 #[.slice ao out.length cap, .string ⟨#[b]⟩] w (RliR G (out ++ [⟨1, 0, [b]⟩]) w) := by
  obtain ⟨i0, hi, hz0, hz1, hz2⟩ := info_parts infoPart
  have Hi := Lib.hid hi
  have Hz0 := Lib.hid hz0
  have Hz1 := Lib.hid hz1
  have Hz2 := Lib.hid hz2
  clear hi hz0 hz1 hz2
  have ho : out = [] ∨ ∃ r x, out = r ++ [x] ∧ x.k ≠ 1 := by
    rcases snoc_cases out with rfl | ⟨r, x, rfl⟩
    · exact .inl rfl
    · refine .inr ⟨r, x, rfl, ?_⟩
      unfold lastLit at hl
      rw [List.getLast?_concat] at hl
      simpa using hl
  have hrow := h
  obtain ⟨m, hm⟩ : ∃ m, out.length = m := ⟨_, rfl⟩
  have Hlen := Lib.hid hm
  have hfin : ∀ (ao2 : Option Addr) (cap2 : Nat) (w3 : World), w3.ownsRow G 110 3 (.slice ao2 (m + 1) cap2) (m + 1) (pcs out ++ [.int .i64 1, .int .i64 0, .string ⟨#[b]⟩]) → (w.alloc (.cells #[.int .i64 1, .int .i64 0, .string ⟨#[b]⟩] 110)).grownBy w3 (Value.slice ao out.length cap).ownBlock →
      RliR G (out ++ [⟨1, 0, [b]⟩]) w (.returned (.slice ao2 (m + 1) cap2)) w3 := by
    intro ao2 cap2 w3 h3 hg
    refine ⟨ao2, cap2, by rw [List.length_append, hm]; rfl, ?_, ?_⟩
    · unfold OwnP
      rw [pcs_app, pcs_one, List.length_append, hm]
      exact h3
    · refine (Frm.of_ext ((Ext.refl w).alloc _)).trans ((Frm.refl _ _).grown hg (fun k hk => .inl ?_))
      exact (h.lt k hk).1
  have HF := Lib.hid hfin
  clear hfin
  rcases ho with ho | ⟨r, x, ho, hx⟩
  · have t0 : ((m : Int) == 0) = true := by rw [beq_iff_eq, ← hm, ho]; rfl
    clear hl ho h
    unfold OwnP at hrow
    rw [hm] at hrow hn HF ⊢
    clear hm
    go_enter Tryz.func83, Tryz.ntmps83
    go_wp2_with (first
      | (at_builtin; go_loud (refine wpList_append_own _ rfl _ _ 63 rfl G 110 i0 (.agg #[.int .i64 0, .int .i64 0, .string ByteArray.empty]) 3 32 Tryz.underlying63 Hi.out Hz0.out Hz1.out Hz2.out rfl (by decide) _ _ _ rfl (hrow.alloc _) ⟨w.heap.size, 0, none⟩ 1 1 [.int .i64 1, .int .i64 0, .string ⟨#[b]⟩] rfl rfl (cell_three_new _ _ _ _ _) (fun x hx => by simp at hx; rcases hx with rfl | rfl | rfl <;> rfl) (by unfold maxLen; omega) (by omega) (by rw [World.size_alloc]; omega) ?_; intro v' w3 hown' hgrow3 hnil3; obtain ⟨ao2, cap2, rfl⟩ := own_slice hown')))
    go_ret
    exact HF.out ao2 cap2 w3 hown' hgrow3
  · have hc := h
    rw [ho] at hc
    obtain ⟨g, rfl, hBg, hgl, hcap, hcm, k0, -, hfr⟩ := hc.cells
    obtain ⟨m1, hm1⟩ : ∃ m1, r.length = m1 := ⟨_, rfl⟩
    have hmm : m = m1 + 1 := by rw [← hm, ho, ← hm1]; simp
    rw [hm1] at k0
    have t1 : (x.k != 1) = true := by simpa using hx
    have t0 : ((m : Int) == 0) = false := by rw [beq_eq_false_iff_ne]; omega
    have hji : (m : Int) - 1 = (m1 : Int) := by omega
    have hji2 : (0 : Int) ≤ (m1 : Int) := by omega
    have hji3 : (m1 : Int) < (m : Int) := by omega
    unfold OwnP at hrow
    rw [hm] at hrow hn HF ⊢
    clear hl ho hc hx hm hm1 hmm h
    unfold maxLen at hcm
    go_enter Tryz.func83, Tryz.ntmps83
    go_wp2_with (first
      | (at_builtin; go_loud (refine wpList_append_own _ rfl _ _ 63 rfl G 110 i0 (.agg #[.int .i64 0, .int .i64 0, .string ByteArray.empty]) 3 32 Tryz.underlying63 Hi.out Hz0.out Hz1.out Hz2.out rfl (by decide) _ _ _ rfl (hrow.alloc _) ⟨w.heap.size, 0, none⟩ 1 1 [.int .i64 1, .int .i64 0, .string ⟨#[b]⟩] rfl rfl (cell_three_new _ _ _ _ _) (fun x hx => by simp at hx; rcases hx with rfl | rfl | rfl <;> rfl) (by unfold maxLen; omega) (by omega) (by rw [World.size_alloc]; omega) ?_; intro v' w3 hown' hgrow3 hnil3; obtain ⟨ao2, cap2, rfl⟩ := own_slice hown')))
    go_ret
    exact HF.out ao2 cap2 w3 hown' hgrow3
set_option maxRecDepth 100000 in
set_option maxHeartbeats 1000000 in
theorem rlit_old (G : Nat) (ao : Option Addr) (cap : Nat) (r : List Prt) (wd : Int) (t : List UInt8) (b : UInt8) (w : World) (h : OwnP G ao cap (r ++ [⟨1, wd, t⟩]) w) (hn : r.length ≤ 1000) (ht : t.length ≤ 1000) :
    Calls Tryz.prog 83 #[.slice ao (r ++ [(⟨1, wd, t⟩ : Prt)]).length cap, .string ⟨#[b]⟩] w (RliR G (r ++ [⟨1, wd, t ++ [b]⟩]) w) := by
  obtain ⟨g, rfl, hBg, hgl, hcap, hcm, k0, k2, hfr⟩ := h.cells
  have hst := (h.stored (r.length * 3 + 2) (.string ⟨(t ++ [b]).toArray⟩)).1
  have he := pcs_set r ⟨1, wd, t⟩ (t ++ [b])
  rw [Nat.mul_comm 3] at he
  rw [he] at hst
  have e0 : (r ++ [(⟨1, wd, t⟩ : Prt)]).length = r.length + 1 := by simp
  have hfin : ∀ w3, w3 = w.setCell ⟨g, r.length * 3 + 2, none⟩ (.string ⟨(t ++ [b]).toArray⟩) → RliR G (r ++ [⟨1, wd, t ++ [b]⟩]) w (.returned (.slice (some ⟨g, 0, none⟩) (r.length + 1) cap)) w3 := by
    rintro w3 rfl
    refine ⟨some ⟨g, 0, none⟩, cap, by simp, ?_, (Frm.refl _ w).setCell (.inl hBg) _⟩
    unfold OwnP
    rw [e0] at hst
    rw [List.length_append]
    exact hst
  have HF := Lib.hid hfin
  rw [e0]
  obtain ⟨m, hm⟩ : ∃ m, r.length = m := ⟨_, rfl⟩
  rw [hm] at k0 k2 hcap hn HF ⊢
  have t0 : (((m : Int) + 1) == 0) = false := by rw [beq_eq_false_iff_ne]; omega
  have hsn := snoc_str t b
  obtain ⟨t', ht'⟩ : ∃ t', t' = t ++ [b] := ⟨_, rfl⟩
  rw [← ht'] at hsn HF ⊢
  have Ht := Lib.hid ht'
  unfold maxLen at hcm
  clear h hst he e0 hfin hm ht'
  go_enter Tryz.func83, Tryz.ntmps83
  go_wp2_with fail
  go_ret
  exact HF.out _ rfl
theorem rliteral_c (G : Nat) (ao : Option Addr) (cap : Nat) (out : List Prt) (b : UInt8) (w : World) (h : OwnP G ao cap out w) (hG : G ≤ w.heap.size) (hn : out.length ≤ 1000) (ht : ∀ p ∈ out, p.t.length ≤ 1000) :
    Calls Tryz.prog 83 #[.slice ao out.length cap, .string ⟨#[b]⟩] w (RliR G (addLit out b) w) := by
  rcases snoc_cases out with rfl | ⟨r, ⟨k, wd, t⟩, rfl⟩
  · rw [addLit_nil]
    exact rlit_new G ao cap [] b w h hG hn rfl
  · rw [addLit_snoc]
    by_cases hk : k = 1
    · subst hk
      rw [if_pos rfl]
      exact rlit_old G ao cap r wd t b w h (by simp at hn; omega) (ht ⟨1, wd, t⟩ (by simp))
    · rw [if_neg hk]
      exact rlit_new G ao cap _ b w h hG hn (by unfold lastLit; rw [List.getLast?_concat]; simpa using hk)
end Go.Proofs.YtnhdmnhfllecgaaGreatDoor
