/- Patterns: the walk of the reference's Compile. -/
import Derived.Test.YtnhdmnhfllecgaaGreatDoorQ20
import Derived.Test.YtnhdmnhfllecgaaGreatDoorQ21
import Derived.Test.YtnhdmnhfllecgaaGreatDoorQ17
import Derived.Deep.Cut
namespace Go.Proofs.YtnhdmnhfllecgaaGreatDoor
set_option linter.unusedVariables false
set_option linter.unusedSimpArgs false
open Go.RowKit

theorem OwnP.ext {G : Nat} {ao : Option Addr} {cap : Nat} {out : List Prt} {w w' : World} (h : OwnP G ao cap out w) (hE : Ext w w') : OwnP G ao cap out w' :=
  World.ownsRow.kept h (grown_none hE) (by cases h : ao <;> simp [Value.ownBlock])
theorem RfR.fld {c : UInt8} {n : Nat} {w : World} (fk fw : Int) (ft : List UInt8) (b : Bool) (z : Int) (hz : z = (n : Int)) (hn : n ≤ 1000) (hf : ⟨fk, fw, ft⟩ = fld c n) (hb : decide (fk ≠ 0) = b) : Calls Tryz.prog 85 #[.int .u8 (c.toNat : Int), .int .i64 z] w fun e w' => e = .returned (.tuple #[.agg #[.int .i64 fk, .int .i64 fw, .string ⟨ft.toArray⟩], .bool b]) ∧ Ext w w' := by
  subst hz
  have q := rfield_c c n w hn
  rw [rfK_fld, ← hf] at q
  unfold RfR at q
  simp only [hb] at q
  exact q
theorem prn_iff (c : UInt8) : prn c = true ↔ 32 ≤ c.toNat ∧ c.toNat ≤ 126 := by unfold prn; simp
theorem prn_lo {c : UInt8} (h : prn c = false) : c.toNat < 32 ∨ (32 ≤ c.toNat ∧ 126 < c.toNat) := by
  have : ¬ (32 ≤ c.toNat ∧ c.toNat ≤ 126) := fun q => by rw [(prn_iff c).2 q] at h; cases h
  omega
theorem bone (s : List UInt8) (k : Nat) (h : k < s.length) : (⟨s.toArray⟩ : ByteArray).extract k (k + 1) = ⟨#[s[k]]⟩ := by
  rw [bmid, List.drop_eq_getElem_cons h, show k + 1 - k = 1 by omega]
  rfl
theorem pt_far {ao : Option Addr} {cap : Nat} {l : List Prt} {w : World} {G P : Nat} (h : PtV ao cap l w) (hr : OwnP G ao cap l w) (x y : Nat) (u v : Value) (hP : P < G) : PtV ao cap l ((w.setCell ⟨P, x, none⟩ u).setCell ⟨P, y, none⟩ v) := by
  refine ⟨h.1, h.2.1, fun hl => ?_⟩
  obtain ⟨R, off, rfl, h1, h2⟩ := h.2.2 hl
  have hRB : R ≠ P := by
    have h3 := hr.2
    rcases h3 with ⟨_, h0⟩ | ⟨g, cap', cur, he, hb, _⟩
    · exact absurd (List.length_eq_zero_iff.1 h0) hl
    · injection he with e1
      injection e1 with e1
      injection e1 with e1
      omega
  refine ⟨R, off, rfl, by simpa using h1, fun i hi => ?_⟩
  have e : ∀ o, ((w.setCell ⟨P, x, none⟩ u).setCell ⟨P, y, none⟩ v).cell? ⟨R, o, none⟩ = w.cell? ⟨R, o, none⟩ := fun o => by
    rw [World.cell?_setCell_other _ _ _ _ (by intro e; injection e with e; omega), World.cell?_setCell_other _ _ _ _ (by intro e; injection e with e; omega)]
  rw [e, e, e]
  exact h2 i hi
theorem run_one {c : UInt8} {r : List UInt8} {m : Nat} (h : runN c (c :: r) = m) : ∃ m0, m = m0 + 1 ∧ runN c r = m0 := by
  refine ⟨runN c r, ?_, rfl⟩
  rw [← h]
  unfold runN
  rw [List.takeWhile_cons_of_pos (by simp), List.length_cons]
set_option maxRecDepth 100000 in
set_option maxHeartbeats 1000000 in
theorem rcompile_c (s : List UInt8) (w : World) (hs : s.length ≤ 9223372036854775806) : Calls Tryz.prog 35 #[.string ⟨s.toArray⟩] w (ComR (cmpT s) w) := by
  obtain ⟨i0, hi, hz0, hz1, hz2⟩ := info_parts infoPart
  have Hi := Lib.hid hi
  have Hz0 := Lib.hid hz0
  have Hz1 := Lib.hid hz1
  have Hz2 := Lib.hid hz2
  clear hi hz0 hz1 hz2
  by_cases h200 : s.length ≤ 200
  · have HR : Hid (cmpT s = cmpL s 0 false []) := by rw [Hid, cmpT, if_neg (by omega)]
    have d1 : ¬ (200 : Int) < (s.length : Int) := by omega
    have hEw : Ext w (w.alloc (.cells #[.int .i64 0, .int .i64 0] 39)) := (Ext.refl w).alloc _
    have p0 : (w.alloc (.cells #[.int .i64 0, .int .i64 0] 39)).cell? ⟨w.heap.size, 0, none⟩ = some (.int .i64 0) := by rw [World.cell?_alloc_new]; rfl
    have p1 : (w.alloc (.cells #[.int .i64 0, .int .i64 0] 39)).cell? ⟨w.heap.size, 1, none⟩ = some (.int .i64 0) := by rw [World.cell?_alloc_new]; rfl
    have pf : ∀ o, (w.alloc (.cells #[.int .i64 0, .int .i64 0] 39)).frozen? ⟨w.heap.size, o, none⟩ = false := by intro o; simp
    have hPW : w.heap.size < (w.alloc (.cells #[.int .i64 0, .int .i64 0] 39)).heap.size := by simp
    have hGW : w.heap.size + 1 ≤ (w.alloc (.cells #[.int .i64 0, .int .i64 0] 39)).heap.size := by simp
    have hPG : w.heap.size < w.heap.size + 1 := Nat.lt_succ_self _
    go_enter Tryz.func35, Tryz.ntmps35
    go_upto_region 3 with fail
    generalize w.alloc (.cells #[.int .i64 0, .int .i64 0] 39) = W0 at hEw p0 p1 pf hPW hGW ⊢
    generalize w.heap.size + 1 = G at hGW hPG
    generalize hP : w.heap.size = P at p0 p1 pf hPW hPG ⊢
    have HP := Lib.hid hP
    have hown0 : OwnP G none 0 [] W0 := World.ownsRow_nil _ _ _ _
    clear hP
    go_wp2_with fail
    go_loopw [5, 6, 7] (fun sl q i wr => ∃ (qb : Bool) (k : Nat) (out : List Prt) (ao : Option Addr) (cap : Nat), sl = .slice ao out.length cap ∧ q = .bool qb ∧ i = .int .i64 (k : Int) ∧ k ≤ s.length ∧ Hid (cmpL s 0 false [] = cmpL (s.drop k) k qb out) ∧ Hid (OwnP G ao cap out wr) ∧ out.length ≤ k ∧ Hid (∀ p ∈ out, p.t.length ≤ k) ∧ Hid (Frm (fun j => G ≤ j) W0 wr)) (fun _ _ i _ => s.length - (intOf i).toNat)
    case atStart => exact ⟨false, 0, [], none, 0, rfl, rfl, rfl, Nat.zero_le _, rfl, hown0, Nat.le_refl _, fun p hp => (by simp at hp), Frm.refl _ _⟩
    case round =>
      obtain ⟨qb, k, out, ao, cap, rfl, rfl, rfl, hk, HC, HW, hol, HT, HF⟩ := hrel
      have hPr : P < wr.heap.size := HF.out.lt hPW
      have hGr : G ≤ wr.heap.size := Nat.le_trans hGW HF.out.size
      have p0r : wr.cell? ⟨P, 0, none⟩ = some (.int .i64 0) := (HF.out.cel hPW (by omega) 0).trans p0
      have p1r : wr.cell? ⟨P, 1, none⟩ = some (.int .i64 0) := (HF.out.cel hPW (by omega) 1).trans p1
      have pfr : ∀ o, wr.frozen? ⟨P, o, none⟩ = false := fun o => (HF.out.frz hPW (by omega) o).trans (pf o)
      have hEr : Ext w wr := Frm.far hEw HF.out (fun j hj hS => by rw [HP.out] at hj; omega)
      clear hown0 p0 p1 pf
      by_cases hlt : k < s.length
      · have hb := bget s k hlt _ rfl
        have hone := bone s k hlt
        have Hbad := Lib.hid (cmp_bad s k hlt qb out)
        have Htwo := Lib.hid (cmp_two s k hlt qb out)
        have Hquo := Lib.hid (cmp_quote s k hlt qb out)
        have Hlit := Lib.hid (cmp_lit s k hlt qb out)
        have Hfld := Lib.hid (cmp_fld s k hlt qb out)
        have Hrd : Hid (s.drop k = s[k] :: s.drop (k + 1)) := drop_at s k hlt
        obtain ⟨c, hc⟩ : ∃ c, c = s[k] := ⟨_, rfl⟩
        rw [← hc] at hb hone Hbad Htwo Hquo Hlit Hfld Hrd
        clear hc
        have HT2 : Hid (∀ p ∈ out, p.t.length ≤ 1000) := fun p hp => Nat.le_trans (HT.out p hp) (by omega)
        rcases Bool.eq_false_or_eq_true (prn c) with hp | hp
        · obtain ⟨hp1, hp2⟩ := (prn_iff c).1 hp
          by_cases hq : c = 39
          · have t39 : ((c.toNat : Int) == 39) = true := by rw [hq]; rfl
            by_cases h2 : k + 1 < s.length
            · have hb2 := bget s (k + 1) h2 _ rfl
              have e2 : s[k + 1]? = some s[k + 1] := List.getElem?_eq_getElem h2
              obtain ⟨c2, hc2⟩ : ∃ c2, c2 = s[k + 1] := ⟨_, rfl⟩
              rw [← hc2] at hb2 e2
              clear hc2
              by_cases hq2 : c2 = 39
              · have HB := Lib.hid (Htwo.out hp hq (by rw [e2, hq2]))
                have t2 : ((c2.toNat : Int) == 39) = true := by rw [hq2]; rfl
                clear hp hq hq2 e2 hone
                go_wp2_with (first
                  | (go_at_call 83; (with_reducible refine (rliteral_c G ao cap out 39 _ HW.out hGr (by omega) HT2.out).mono ?_); rintro e w1 ⟨ao1, cap1, rfl, h1, hF1⟩; have H1 := Lib.hid h1; have HF1 := Lib.hid hF1; clear h1 hF1))
                go_roundw
                case rel => exact ⟨qb, k + 2, addLit out 39, ao1, cap1, rfl, rfl, by go_num, by omega, by rw [Hid, HC.out, HB.out], H1.out, by have := addLit_len out 39; omega, fun p hp => Nat.le_trans (addLit_texts out 39 k HT.out p hp) (by omega), HF.out.trans HF1.out⟩
                case measure => simp [intOf]; omega
              · have HB := Lib.hid (Hquo.out hp hq (by rw [e2]; intro e; exact hq2 (Option.some.inj e)))
                have t2 : ((c2.toNat : Int) == 39) = false := ne39 c2 hq2
                clear hp hq hq2 e2 hone
                go_wp2_with fail
                go_roundw
                case rel => exact ⟨!qb, k + 1, out, ao, cap, rfl, rfl, by go_num, by omega, by rw [Hid, HC.out, HB.out], HW.out, by omega, fun p hp => Nat.le_trans (HT.out p hp) (by omega), HF.out⟩
                case measure => simp [intOf]; omega
            · have HB := Lib.hid (Hquo.out hp hq (by rw [List.getElem?_eq_none (by omega)]; intro e; cases e))
              have h3 : ¬ (k : Int) + 1 < (s.length : Int) := by omega
              clear hp hq hone
              go_wp2_with fail
              go_roundw
              case rel => exact ⟨!qb, k + 1, out, ao, cap, rfl, rfl, by go_num, by omega, by rw [Hid, HC.out, HB.out], HW.out, by omega, fun p hp => Nat.le_trans (HT.out p hp) (by omega), HF.out⟩
              case measure => simp [intOf]; omega
          · have t39 : ((c.toNat : Int) == 39) = false := ne39 c hq
            by_cases hql : qb = true ∨ isLt c = false
            · have HB := Lib.hid (Hlit.out hp hq hql)
              clear hp hq
              rcases hql with rfl | hl
              · go_wp2_with (first
                  | (go_at_call 83; (with_reducible refine (rliteral_c G ao cap out c _ HW.out hGr (by omega) HT2.out).mono ?_); rintro e w1 ⟨ao1, cap1, rfl, h1, hF1⟩; have H1 := Lib.hid h1; have HF1 := Lib.hid hF1; clear h1 hF1))
                go_roundw
                case rel => exact ⟨true, k + 1, addLit out c, ao1, cap1, rfl, rfl, by go_num, by omega, by rw [Hid, HC.out, HB.out], H1.out, by have := addLit_len out c; omega, fun p hp => Nat.le_trans (addLit_texts out c k HT.out p hp) (by omega), HF.out.trans HF1.out⟩
                case measure => simp [intOf]; omega
              · have Hl := Lib.hid hl
                clear hl
                cases qb
                all_goals
                  go_wp2_with (first
                    | (go_at_call 84; (with_reducible refine (risLt_c c false _ Hl.out).mono ?_); rintro e w2 ⟨rfl, rfl⟩)
                    | (go_at_call 83; (with_reducible refine (rliteral_c G ao cap out c _ HW.out hGr (by omega) HT2.out).mono ?_); rintro e w1 ⟨ao1, cap1, rfl, h1, hF1⟩; have H1 := Lib.hid h1; have HF1 := Lib.hid hF1; clear h1 hF1))
                  go_roundw
                  case rel => exact ⟨_, k + 1, addLit out c, ao1, cap1, rfl, rfl, by go_num, by omega, by rw [Hid, HC.out, HB.out], H1.out, by have := addLit_len out c; omega, fun p hp => Nat.le_trans (addLit_texts out c k HT.out p hp) (by omega), HF.out.trans HF1.out⟩
                  case measure => simp [intOf]; omega
            · have hl : isLt c = true := by cases e : isLt c with | true => rfl | false => exact absurd (.inr e) hql
              have hqb : qb = false := by cases e : qb with | false => rfl | true => exact absurd (.inl e) hql
              subst hqb
              have Hfl := Lib.hid (fun m hm => Hfld.out hp hq rfl hl m hm)
              have Hl := Lib.hid hl
              clear hp hq hql hl Hbad Htwo Hquo Hlit Hfld hone
              go_wp2_with (first
                | (go_at_call 84; (with_reducible refine (risLt_c c true _ Hl.out).mono ?_); rintro e w2 ⟨rfl, rfl⟩))
              have HFr := HF
              clear HF
              go_loopw [9] (fun n wx => ∃ m : Nat, n = .int .i64 (m : Int) ∧ k + m ≤ s.length ∧ Hid (∀ j, j < m → (s.drop k)[j]? = some c) ∧ wx = wr) (fun n _ => s.length - (intOf n).toNat)
              case atStart => exact ⟨0, rfl, by omega, fun j hj => absurd hj (Nat.not_lt_zero j), rfl⟩
              case round =>
                obtain ⟨m, rfl, hm, Hm, rfl⟩ := hrel
                by_cases hlm : k + m < s.length
                · have hb3 := bget s (k + m) hlm _ rfl
                  have e3 : (s.drop k)[m]? = some s[k + m] := by
                    rw [List.getElem?_drop]
                    exact List.getElem?_eq_getElem hlm
                  obtain ⟨c3, hc3⟩ : ∃ c3, c3 = s[k + m] := ⟨_, rfl⟩
                  rw [← hc3] at hb3 e3
                  clear hc3
                  by_cases hq3 : c3 = c
                  · have t3 : ((c3.toNat : Int) == (c.toNat : Int)) = true := by rw [hq3]; simp
                    have Hn : Hid (∀ j, j < m + 1 → (s.drop k)[j]? = some c) := by
                      intro j hj
                      by_cases e : j = m
                      · rw [e, e3, hq3]
                      · exact Hm.out j (by omega)
                    clear hq3 e3
                    go_wp2_with fail
                    go_roundw
                    case rel => exact ⟨m + 1, by go_num, by omega, Hn, by trivial⟩
                    case measure => simp [intOf]; omega
                  · have t3 : ((c3.toNat : Int) == (c.toNat : Int)) = false := by
                      rw [beq_eq_false_iff_ne]
                      intro e
                      exact hq3 (by rw [← UInt8.toNat_inj]; omega)
                    have Hru := Lib.hid (runN_eq c (s.drop k) m Hm.out (by rw [e3]; intro e; exact hq3 (Option.some.inj e)))
                    clear hq3 e3
                    have hrun := Hru.out
                    rw [Hrd.out] at hrun
                    obtain ⟨m0, rfl, hm0⟩ := run_one hrun
                    have HB0' := Hfl.out m0 hm0
                    obtain ⟨f, hf⟩ : ∃ f, f = fld c (m0 + 1) := ⟨_, rfl⟩
                    have hft : f.t = [] := by rw [hf]; exact fld_text c (m0 + 1)
                    have Hf := Lib.hid hf
                    have HB0 : Hid (cmpL (s.drop k) k false out = if f.k = 0 then ([], k + 1, 3) else cmpL (s.drop (k + (m0 + 1))) (k + (m0 + 1)) false (out ++ [f])) := by
                      rw [Hid, HB0', Nat.add_comm 1 m0, ← hf]
                    have HFT := Lib.hid hft
                    clear hf HB0' hrun hm0 hft Hru
                    obtain ⟨fk, fw, ft⟩ := f
                    simp only at HB0
                    have HFT2 : Hid (ft = []) := HFT.out
                    by_cases hk0 : fk = 0
                    · have HB : Hid (cmpL (s.drop k) k false out = ([], k + 1, 3)) := by rw [Hid, HB0.out, if_pos hk0]
                      have hb0 : decide (fk ≠ 0) = false := by simp [hk0]
                      have Hb0 := Lib.hid hb0
                      clear hb0 hk0 HB0
                      go_wp2_with (first
                        | (go_at_call 85; (with_reducible refine (RfR.fld (n := m0 + 1) fk fw ft false _ (by omega) (by omega) Hf.out Hb0.out).mono ?_); rintro e w2 ⟨rfl, hE2⟩; have p0w := (hE2.cells _ _ hPr).trans p0r; have p1w := (hE2.cells _ _ hPr).trans p1r; have pfw := fun o => (hE2.frozens _ o hPr).trans (pfr o); have hPw := hE2.lt hPr; have hEr2 := hEr.trans hE2))
                      have hEr := hEr2
                      have p0r := p0w
                      have p1r := p1w
                      have hPr := hPw
                      refine bodyPost_ret (v := .tuple #[.slice none 0 0, .agg #[.int .i64 1, .int .i64 ((k : Int) + 1)], .int .i64 3]) ?_ rfl ⟨none, 0, ?_, ?_, ?_⟩
                      · simp [results, Tryz.results35, go_sem, p0r, p1r, hPr]
                      · rw [HR.out, HC.out, HB.out]; simp
                      · rw [HR.out, HC.out, HB.out]; exact PtV.nil _
                      · (repeat (with_reducible (first | exact hEr | refine Ext.setCell ?_ (Nat.le_of_eq HP.out) _ | refine Ext.alloc ?_ _ | refine Ext.drewN ?_ _ | refine Ext.drew ?_)))
                    · have HB : Hid (cmpL (s.drop k) k false out = cmpL (s.drop (k + (m0 + 1))) (k + (m0 + 1)) false (out ++ [⟨fk, fw, ft⟩])) := by rw [Hid, HB0.out, if_neg hk0]
                      have hb0 : decide (fk ≠ 0) = true := by simp [hk0]
                      have Hb0 := Lib.hid hb0
                      clear hb0 hk0 HB0
                      go_upto_region 25 with (first
                        | (go_at_call 85; (with_reducible refine (RfR.fld (n := m0 + 1) fk fw ft true _ (by omega) (by omega) Hf.out Hb0.out).mono ?_); rintro e w2 ⟨rfl, hE2⟩))
                      have HZ := Lib.hid (HW.out.ext (hE2.trans ((Ext.refl w2).alloc (.cells #[.int .i64 fk, .int .i64 fw, .string ⟨ft.toArray⟩] 110))))
                      have hFV : Frm (fun j => G ≤ j) W0 (w2.alloc (.cells #[.int .i64 fk, .int .i64 fw, .string ⟨ft.toArray⟩] 110)) := HFr.out.trans (Frm.of_ext (hE2.trans ((Ext.refl w2).alloc _)))
                      have y0 : (w2.alloc (.cells #[.int .i64 fk, .int .i64 fw, .string ⟨ft.toArray⟩] 110)).cell? ⟨w2.heap.size, 0, none⟩ = some (.int .i64 fk) := by rw [World.cell?_alloc_new]; rfl
                      have y1 : (w2.alloc (.cells #[.int .i64 fk, .int .i64 fw, .string ⟨ft.toArray⟩] 110)).cell? ⟨w2.heap.size, 1, none⟩ = some (.int .i64 fw) := by rw [World.cell?_alloc_new]; rfl
                      have y2 : (w2.alloc (.cells #[.int .i64 fk, .int .i64 fw, .string ⟨ft.toArray⟩] 110)).cell? ⟨w2.heap.size, 2, none⟩ = some (.string ⟨ft.toArray⟩) := by rw [World.cell?_alloc_new]; rfl
                      have hGV : G ≤ (w2.alloc (.cells #[.int .i64 fk, .int .i64 fw, .string ⟨ft.toArray⟩] 110)).heap.size := Nat.le_trans hGW hFV.size
                      generalize w2.alloc (.cells #[.int .i64 fk, .int .i64 fw, .string ⟨ft.toArray⟩] 110) = V at HZ hFV y0 y1 y2 hGV ⊢
                      generalize w2.heap.size = D at y0 y1 y2 ⊢
                      go_wp2_with (first
                        | (at_builtin; go_loud (refine wpList_append_own _ rfl _ _ 63 rfl G 110 i0 (.agg #[.int .i64 0, .int .i64 0, .string ByteArray.empty]) 3 32 Tryz.underlying63 Hi.out Hz0.out Hz1.out Hz2.out rfl (by decide) _ _ _ rfl (World.ownsRow.alloc HZ.out _) ⟨V.heap.size, 0, none⟩ 1 1 [.int .i64 fk, .int .i64 fw, .string ⟨ft.toArray⟩] rfl rfl (cell_three_new _ _ _ _ _) (fun x hx => by simp at hx; rcases hx with rfl | rfl | rfl <;> rfl) (by unfold maxLen; omega) (by omega) (by rw [World.size_alloc]; omega) ?_; intro v' w3 hown' hgrow3 hnil3; obtain ⟨ao2, cap2, rfl⟩ := own_slice hown')))
                      have H9 : Hid (OwnP G ao2 cap2 (out ++ [⟨fk, fw, ft⟩]) w3) := by
                        unfold Hid OwnP
                        rw [pcs_app, pcs_one, List.length_append]
                        exact hown'
                      have HF9 : Hid (Frm (fun j => G ≤ j) W0 w3) := (hFV.alloc _).grown hgrow3 (fun k hk => .inl (World.ownsRow.lt HZ.out k hk).1)
                      go_roundw
                      case rel => exact ⟨false, k + (m0 + 1), out ++ [(⟨fk, fw, ft⟩ : Prt)], ao2, cap2, by simp, rfl, by go_num, by omega, by rw [Hid, HC.out, HB.out], H9.out, by rw [List.length_append, List.length_singleton]; omega, fun p hp => by (rcases List.mem_append.1 hp with q | q; exact Nat.le_trans (HT.out p q) (by omega); rw [List.mem_singleton.1 q, HFT2.out]; simp), HF9.out⟩
                      case measure => simp [intOf]; omega
                · have Hru := Lib.hid (runN_eq c (s.drop k) m Hm.out (by rw [List.getElem?_drop, List.getElem?_eq_none (by omega)]; intro e; cases e))
                  have h3 : ¬ (k : Int) + (m : Int) < (s.length : Int) := by omega
                  clear hlm
                  have hrun := Hru.out
                  rw [Hrd.out] at hrun
                  obtain ⟨m0, rfl, hm0⟩ := run_one hrun
                  have HB0' := Hfl.out m0 hm0
                  obtain ⟨f, hf⟩ : ∃ f, f = fld c (m0 + 1) := ⟨_, rfl⟩
                  have hft : f.t = [] := by rw [hf]; exact fld_text c (m0 + 1)
                  have Hf := Lib.hid hf
                  have HB0 : Hid (cmpL (s.drop k) k false out = if f.k = 0 then ([], k + 1, 3) else cmpL (s.drop (k + (m0 + 1))) (k + (m0 + 1)) false (out ++ [f])) := by
                    rw [Hid, HB0', Nat.add_comm 1 m0, ← hf]
                  have HFT := Lib.hid hft
                  clear hf HB0' hrun hm0 hft Hru
                  obtain ⟨fk, fw, ft⟩ := f
                  simp only at HB0
                  have HFT2 : Hid (ft = []) := HFT.out
                  by_cases hk0 : fk = 0
                  · have HB : Hid (cmpL (s.drop k) k false out = ([], k + 1, 3)) := by rw [Hid, HB0.out, if_pos hk0]
                    have hb0 : decide (fk ≠ 0) = false := by simp [hk0]
                    have Hb0 := Lib.hid hb0
                    clear hb0 hk0 HB0
                    go_wp2_with (first
                      | (go_at_call 85; (with_reducible refine (RfR.fld (n := m0 + 1) fk fw ft false _ (by omega) (by omega) Hf.out Hb0.out).mono ?_); rintro e w2 ⟨rfl, hE2⟩; have p0w := (hE2.cells _ _ hPr).trans p0r; have p1w := (hE2.cells _ _ hPr).trans p1r; have pfw := fun o => (hE2.frozens _ o hPr).trans (pfr o); have hPw := hE2.lt hPr; have hEr2 := hEr.trans hE2))
                    have hEr := hEr2
                    have p0r := p0w
                    have p1r := p1w
                    have hPr := hPw
                    refine bodyPost_ret (v := .tuple #[.slice none 0 0, .agg #[.int .i64 1, .int .i64 ((k : Int) + 1)], .int .i64 3]) ?_ rfl ⟨none, 0, ?_, ?_, ?_⟩
                    · simp [results, Tryz.results35, go_sem, p0r, p1r, hPr]
                    · rw [HR.out, HC.out, HB.out]; simp
                    · rw [HR.out, HC.out, HB.out]; exact PtV.nil _
                    · (repeat (with_reducible (first | exact hEr | refine Ext.setCell ?_ (Nat.le_of_eq HP.out) _ | refine Ext.alloc ?_ _ | refine Ext.drewN ?_ _ | refine Ext.drew ?_)))
                  · have HB : Hid (cmpL (s.drop k) k false out = cmpL (s.drop (k + (m0 + 1))) (k + (m0 + 1)) false (out ++ [⟨fk, fw, ft⟩])) := by rw [Hid, HB0.out, if_neg hk0]
                    have hb0 : decide (fk ≠ 0) = true := by simp [hk0]
                    have Hb0 := Lib.hid hb0
                    clear hb0 hk0 HB0
                    go_upto_region 25 with (first
                      | (go_at_call 85; (with_reducible refine (RfR.fld (n := m0 + 1) fk fw ft true _ (by omega) (by omega) Hf.out Hb0.out).mono ?_); rintro e w2 ⟨rfl, hE2⟩))
                    have HZ := Lib.hid (HW.out.ext (hE2.trans ((Ext.refl w2).alloc (.cells #[.int .i64 fk, .int .i64 fw, .string ⟨ft.toArray⟩] 110))))
                    have hFV : Frm (fun j => G ≤ j) W0 (w2.alloc (.cells #[.int .i64 fk, .int .i64 fw, .string ⟨ft.toArray⟩] 110)) := HFr.out.trans (Frm.of_ext (hE2.trans ((Ext.refl w2).alloc _)))
                    have y0 : (w2.alloc (.cells #[.int .i64 fk, .int .i64 fw, .string ⟨ft.toArray⟩] 110)).cell? ⟨w2.heap.size, 0, none⟩ = some (.int .i64 fk) := by rw [World.cell?_alloc_new]; rfl
                    have y1 : (w2.alloc (.cells #[.int .i64 fk, .int .i64 fw, .string ⟨ft.toArray⟩] 110)).cell? ⟨w2.heap.size, 1, none⟩ = some (.int .i64 fw) := by rw [World.cell?_alloc_new]; rfl
                    have y2 : (w2.alloc (.cells #[.int .i64 fk, .int .i64 fw, .string ⟨ft.toArray⟩] 110)).cell? ⟨w2.heap.size, 2, none⟩ = some (.string ⟨ft.toArray⟩) := by rw [World.cell?_alloc_new]; rfl
                    have hGV : G ≤ (w2.alloc (.cells #[.int .i64 fk, .int .i64 fw, .string ⟨ft.toArray⟩] 110)).heap.size := Nat.le_trans hGW hFV.size
                    generalize w2.alloc (.cells #[.int .i64 fk, .int .i64 fw, .string ⟨ft.toArray⟩] 110) = V at HZ hFV y0 y1 y2 hGV ⊢
                    generalize w2.heap.size = D at y0 y1 y2 ⊢
                    go_wp2_with (first
                      | (at_builtin; go_loud (refine wpList_append_own _ rfl _ _ 63 rfl G 110 i0 (.agg #[.int .i64 0, .int .i64 0, .string ByteArray.empty]) 3 32 Tryz.underlying63 Hi.out Hz0.out Hz1.out Hz2.out rfl (by decide) _ _ _ rfl (World.ownsRow.alloc HZ.out _) ⟨V.heap.size, 0, none⟩ 1 1 [.int .i64 fk, .int .i64 fw, .string ⟨ft.toArray⟩] rfl rfl (cell_three_new _ _ _ _ _) (fun x hx => by simp at hx; rcases hx with rfl | rfl | rfl <;> rfl) (by unfold maxLen; omega) (by omega) (by rw [World.size_alloc]; omega) ?_; intro v' w3 hown' hgrow3 hnil3; obtain ⟨ao2, cap2, rfl⟩ := own_slice hown')))
                    have H9 : Hid (OwnP G ao2 cap2 (out ++ [⟨fk, fw, ft⟩]) w3) := by
                      unfold Hid OwnP
                      rw [pcs_app, pcs_one, List.length_append]
                      exact hown'
                    have HF9 : Hid (Frm (fun j => G ≤ j) W0 w3) := (hFV.alloc _).grown hgrow3 (fun k hk => .inl (World.ownsRow.lt HZ.out k hk).1)
                    go_roundw
                    case rel => exact ⟨false, k + (m0 + 1), out ++ [(⟨fk, fw, ft⟩ : Prt)], ao2, cap2, by simp, rfl, by go_num, by omega, by rw [Hid, HC.out, HB.out], H9.out, by rw [List.length_append, List.length_singleton]; omega, fun p hp => by (rcases List.mem_append.1 hp with q | q; exact Nat.le_trans (HT.out p q) (by omega); rw [List.mem_singleton.1 q, HFT2.out]; simp), HF9.out⟩
                    case measure => simp [intOf]; omega
        · have HB := Lib.hid (Hbad.out hp)
          have hpc := prn_lo hp
          clear hp hone
          rcases hpc with hpc | ⟨hpc1, hpc2⟩
          · go_wp2_with fail
            refine bodyPost_ret (v := .tuple #[.slice none 0 0, .agg #[.int .i64 1, .int .i64 ((k : Int) + 1)], .int .i64 3]) ?_ rfl ⟨none, 0, ?_, ?_, ?_⟩
            · simp [results, Tryz.results35, go_sem, p0r, p1r, hPr]
            · rw [HR.out, HC.out, HB.out]; simp
            · rw [HR.out, HC.out, HB.out]; exact PtV.nil _
            · (repeat (with_reducible (first | exact hEr | refine Ext.setCell ?_ (Nat.le_of_eq HP.out) _ | refine Ext.alloc ?_ _ | refine Ext.drewN ?_ _ | refine Ext.drew ?_)))
          · go_wp2_with fail
            refine bodyPost_ret (v := .tuple #[.slice none 0 0, .agg #[.int .i64 1, .int .i64 ((k : Int) + 1)], .int .i64 3]) ?_ rfl ⟨none, 0, ?_, ?_, ?_⟩
            · simp [results, Tryz.results35, go_sem, p0r, p1r, hPr]
            · rw [HR.out, HC.out, HB.out]; simp
            · rw [HR.out, HC.out, HB.out]; exact PtV.nil _
            · (repeat (with_reducible (first | exact hEr | refine Ext.setCell ?_ (Nat.le_of_eq HP.out) _ | refine Ext.alloc ?_ _ | refine Ext.drewN ?_ _ | refine Ext.drew ?_)))
      · obtain rfl : k = s.length := by omega
        have hE : cmpL (s.drop s.length) s.length qb out = if qb then ([], 0, 4) else if decide (40 < out.length) || longB out then ([], 0, 5) else (out, 0, 0) := by rw [List.drop_length, cmpL_end]
        cases qb
        · rw [if_neg (by simp)] at hE
          by_cases h40 : 40 < out.length
          · rw [decide_eq_true h40, Bool.true_or, if_pos rfl] at hE
            have HE := Lib.hid hE
            have d40 : (40 : Int) < (out.length : Int) := by omega
            clear hE
            go_wp2_with fail
            refine bodyPost_ret (v := .tuple #[.slice none 0 0, .agg #[.int .i64 0, .int .i64 0], .int .i64 5]) ?_ rfl ⟨none, 0, ?_, ?_, ?_⟩
            · simp [results, Tryz.results35, go_sem, p0r, p1r, hPr]
            · rw [HR.out, HC.out, HE.out]; simp
            · rw [HR.out, HC.out, HE.out]; exact PtV.nil _
            · (repeat (with_reducible (first | exact hEr | refine Ext.setCell ?_ (Nat.le_of_eq HP.out) _ | refine Ext.alloc ?_ _ | refine Ext.drewN ?_ _ | refine Ext.drew ?_)))
          · rw [decide_eq_false h40, Bool.false_or] at hE
            have d40 : ¬ (40 : Int) < (out.length : Int) := by omega
            have HE := Lib.hid hE
            have hpt := PtV.of_own HW.out rfl
            have HPT := Lib.hid hpt.2.2
            have hcp1 := hpt.1
            have hcp2 := hpt.2.1
            unfold maxLen at hcp2
            clear h40 hE hpt
            go_wp2_with fail
            go_loopw [12] (fun i wx => ∃ j : Nat, i = .int .i64 (j : Int) ∧ j ≤ out.length ∧ Hid (longB (out.take j) = false) ∧ wx = wr) (fun i _ => out.length - (intOf i).toNat)
            case atStart => exact ⟨0, rfl, Nat.zero_le _, rfl, rfl⟩
            case round =>
              obtain ⟨j, rfl, hj, HL, rfl⟩ := hrel
              by_cases hlj : j < out.length
              · obtain ⟨R, off, rfl, hRl, hRc⟩ := HPT.out (by rintro rfl; simp at hlj)
                obtain ⟨g0, g1, g2⟩ := hRc j hlj
                have hmem : out[j] ∈ out := List.getElem_mem _
                have hlt1 := HT.out out[j] hmem
                have HS : Hid (longB (out.take (j + 1)) = (longB (out.take j) || decide (100 < out[j].t.length))) := by
                  rw [Hid, List.take_succ_eq_append_getElem hlj, longB_snoc]
                have HY : Hid (100 < out[j].t.length → longB out = true) := fun q => by
                  unfold longB
                  rw [List.any_eq_true]
                  exact ⟨out[j], hmem, by simpa using q⟩
                obtain ⟨t, ht⟩ : ∃ t, t = out[j].t := ⟨_, rfl⟩
                rw [← ht] at g2 HS HY hlt1
                clear ht hmem hRc g0 g1
                by_cases hlg : 100 < t.length
                · have HLg : Hid (longB out = true) := HY.out hlg
                  have HE2 : Hid (cmpL (s.drop s.length) s.length false out = ([], 0, 5)) := by rw [Hid, HE.out, HLg.out, if_pos rfl]
                  have hlg' : (100 : Int) < (t.length : Int) := by omega
                  have HE := HE2
                  clear hlg
                  go_wp2_with fail
                  refine bodyPost_ret (v := .tuple #[.slice none 0 0, .agg #[.int .i64 0, .int .i64 0], .int .i64 5]) ?_ rfl ⟨none, 0, ?_, ?_, ?_⟩
                  · simp [results, Tryz.results35, go_sem, p0r, p1r, hPr]
                  · rw [HR.out, HC.out, HE.out]; simp
                  · rw [HR.out, HC.out, HE.out]; exact PtV.nil _
                  · (repeat (with_reducible (first | exact hEr | refine Ext.setCell ?_ (Nat.le_of_eq HP.out) _ | refine Ext.alloc ?_ _ | refine Ext.drewN ?_ _ | refine Ext.drew ?_)))
                · have HLn : Hid (longB (out.take (j + 1)) = false) := by rw [Hid, HS.out, HL.out, decide_eq_false hlg]; rfl
                  have hlg' : ¬ (100 : Int) < (t.length : Int) := by omega
                  clear hlg
                  go_wp2_with fail
                  go_roundw
                  case rel => exact ⟨j + 1, by go_num, by omega, HLn, by trivial⟩
                  case measure => simp [intOf]; omega
              · obtain rfl : j = out.length := by omega
                have HLn := HL.out
                rw [List.take_length] at HLn
                have HE2 : Hid (cmpL (s.drop s.length) s.length false out = (out, 0, 0)) := by rw [Hid, HE.out, HLn, if_neg (by simp)]
                clear hlj HLn
                go_wp2_with fail
                refine bodyPost_ret (v := .tuple #[.slice ao out.length cap, .agg #[.int .i64 0, .int .i64 0], .int .i64 0]) ?_ rfl ⟨ao, cap, ?_, ?_, ?_⟩
                · simp [results, Tryz.results35, go_sem, p0r, p1r, hPr]
                · rw [HR.out, HC.out, HE2.out]; simp
                · rw [HR.out, HC.out, HE2.out]; exact pt_far (PtV.of_own HW.out rfl) HW.out _ _ _ _ hPG
                · (repeat (with_reducible (first | exact hEr | refine Ext.setCell ?_ (Nat.le_of_eq HP.out) _ | refine Ext.alloc ?_ _ | refine Ext.drewN ?_ _ | refine Ext.drew ?_)))
        · rw [if_pos rfl] at hE
          have HE := Lib.hid hE
          clear hE
          go_wp2_with fail
          refine bodyPost_ret (v := .tuple #[.slice none 0 0, .agg #[.int .i64 0, .int .i64 0], .int .i64 4]) ?_ rfl ⟨none, 0, ?_, ?_, ?_⟩
          · simp [results, Tryz.results35, go_sem, p0r, p1r, hPr]
          · rw [HR.out, HC.out, HE.out]; simp
          · rw [HR.out, HC.out, HE.out]; exact PtV.nil _
          · (repeat (with_reducible (first | exact hEr | refine Ext.setCell ?_ (Nat.le_of_eq HP.out) _ | refine Ext.alloc ?_ _ | refine Ext.drewN ?_ _ | refine Ext.drew ?_)))
  · have HR : Hid (cmpT s = ([], 0, 5)) := by rw [Hid, cmpT, if_pos (by omega)]
    have d1 : (200 : Int) < (s.length : Int) := by omega
    clear h200
    go_enter Tryz.func35, Tryz.ntmps35
    go_wp2_with fail
    refine bodyPost_ret (v := .tuple #[.slice none 0 0, .agg #[.int .i64 0, .int .i64 0], .int .i64 5]) ?_ rfl ⟨none, 0, ?_, ?_, ?_⟩
    · simp [results, Tryz.results35, go_sem]
    · rw [HR.out]; rfl
    · rw [HR.out]; exact PtV.nil _
    · (repeat (with_reducible (first | assumption | exact Ext.refl _ | refine Ext.alloc ?_ _ | refine Ext.setCell ?_ (by simp) _ | refine Ext.setCell ?_ (by simp; omega) _ | refine Ext.drewN ?_ _ | refine Ext.drew ?_)))
end Go.Proofs.YtnhdmnhfllecgaaGreatDoor
