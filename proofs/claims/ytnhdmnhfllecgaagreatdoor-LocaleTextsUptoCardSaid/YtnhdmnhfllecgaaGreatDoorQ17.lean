/- Patterns: the walk of Compile. -/
import Derived.Test.YtnhdmnhfllecgaaGreatDoorQ15
import Derived.Test.YtnhdmnhfllecgaaGreatDoorQ16
import Derived.Test.YtnhdmnhfllecgaaGreatDoorQ06
import Derived.Test.YtnhdmnhfllecgaaGreatDoorQ07
import Derived.Deep.AppendLies
import Derived.Deep.RegionLaw
namespace Go.Proofs.YtnhdmnhfllecgaaGreatDoor
set_option linter.unusedVariables false
set_option linter.unusedSimpArgs false
open Go.RowKit

/-- What Compile gives back. -/
def ComR (R : List Prt × Nat × Nat) (w : World) (e : Ending) (w' : World) : Prop :=
  ∃ ao cap, e = .returned (.tuple #[.slice ao R.1.length cap, .agg #[.int .i64 (if R.2.1 = 0 then 0 else 1), .int .i64 (R.2.1 : Int)], .int .i64 (R.2.2 : Int)]) ∧ PtV ao cap R.1 w' ∧ Ext w w'
theorem PtV.far2 {ao : Option Addr} {cap : Nat} {l : List Prt} {w : World} {B P : Nat} (h : PtV ao cap l w) (hr : w.ownsRow (B + 1) 110 3 (.slice ao l.length cap) l.length (pcs l)) (x y : Nat) (u v : Value) (hP : P < B) : PtV ao cap l ((w.setCell ⟨P, x, none⟩ u).setCell ⟨P, y, none⟩ v) := by
  refine ⟨h.1, h.2.1, fun hl => ?_⟩
  obtain ⟨R, off, rfl, h1, h2⟩ := h.2.2 hl
  have hRB : R ≠ P := by
    rcases hr.2 with ⟨_, h0⟩ | ⟨g, cap', cur, he, hb, _⟩
    · exact absurd (List.length_eq_zero_iff.1 h0) hl
    · injection he with e1
      injection e1 with e1
      injection e1 with e1
      omega
  refine ⟨R, off, rfl, by simpa using h1, fun i hi => ?_⟩
  have e : ∀ o, ((w.setCell ⟨P, x, none⟩ u).setCell ⟨P, y, none⟩ v).cell? ⟨R, o, none⟩ = w.cell? ⟨R, o, none⟩ := fun o => by
    rw [World.cell?_setCell_other _ _ _ _ (by intro e; injection e with e; omega), World.cell?_setCell_other _ _ _ _ (by intro e; injection e with e; omega)]
  rw [e, e, e]
  exact h2 i hi
theorem field_x (c : UInt8) (m : Nat) (fk fw : Int) (ft : List UInt8) (b : Bool) (w : World) (hl : isLt c = true) (hn : m ≤ 900) (hf : ⟨fk, fw, ft⟩ = fld c (m + 1)) (hb : decide (fk ≠ 0) = b) :
    Calls Tryz.prog 68 #[.int .u8 (c.toNat : Int), .int .i64 ((m : Int) + 1)] w fun e w' => e = .returned (.tuple #[.agg #[.int .i64 fk, .int .i64 fw, .string ⟨ft.toArray⟩], .bool b]) ∧ Ext w w' := by
  have q := field_c c (m + 1) w hl (by omega)
  rw [← hf, hb] at q
  exact q
theorem ne39 (c : UInt8) (h : ¬ c = 39) : ((c.toNat : Int) == 39) = false := by
  rw [beq_eq_false_iff_ne]
  intro e
  exact h (by rw [← UInt8.toNat_inj]; show c.toNat = 39; omega)
theorem CW.start (V : World) : CW V.heap.size none 0 [] (V.alloc (.cells #[.slice none 0 0, .bool false] 106)) := by
  refine ⟨World.ownsRow_nil _ _ _ _, ?_, ?_, ?_, by simp⟩
  · rw [World.cell?_alloc_new]; rfl
  · rw [World.cell?_alloc_new]; rfl
  · intro o
    simp
set_option maxRecDepth 100000 in
set_option maxHeartbeats 2000000 in
theorem compile_c (s : List UInt8) (w : World) (hs : s.length ≤ 9223372036854775806) : Calls Tryz.prog 26 #[.string ⟨s.toArray⟩] w (ComR (cmpT s) w) := by
  obtain ⟨i0, hi, hz0, hz1, hz2⟩ := info_parts infoPart
  have Hi := Lib.hid hi
  have Hz0 := Lib.hid hz0
  have Hz1 := Lib.hid hz1
  have Hz2 := Lib.hid hz2
  clear hi hz0 hz1 hz2
  by_cases h200 : s.length ≤ 200
  · have HR : Hid (cmpT s = cmpL s 0 false []) := by rw [Hid, cmpT, if_neg (by omega)]
    have d1 : decide ((200 : Int) < (s.length : Int)) = false := by simp; omega
    go_enter Tryz.func26, Tryz.ntmps26
    go_wp2_with fail
    have hcw := CW.start (w.alloc (.cells #[.int .i64 0, .int .i64 0] 39))
    have hEw : Ext w ((w.alloc (.cells #[.int .i64 0, .int .i64 0] 39)).alloc (.cells #[.slice none 0 0, .bool false] 106)) := ((Ext.refl w).alloc _).alloc _
    have p0 : ((w.alloc (.cells #[.int .i64 0, .int .i64 0] 39)).alloc (.cells #[.slice none 0 0, .bool false] 106)).cell? ⟨w.heap.size, 0, none⟩ = some (.int .i64 0) := by rw [World.cell?_alloc_lt _ _ _ (by simp), World.cell?_alloc_new]; rfl
    have p1 : ((w.alloc (.cells #[.int .i64 0, .int .i64 0] 39)).alloc (.cells #[.slice none 0 0, .bool false] 106)).cell? ⟨w.heap.size, 1, none⟩ = some (.int .i64 0) := by rw [World.cell?_alloc_lt _ _ _ (by simp), World.cell?_alloc_new]; rfl
    have pf : ∀ o, ((w.alloc (.cells #[.int .i64 0, .int .i64 0] 39)).alloc (.cells #[.slice none 0 0, .bool false] 106)).frozen? ⟨w.heap.size, o, none⟩ = false := by intro o; simp
    have hPB : w.heap.size < w.heap.size + 1 := Nat.lt_succ_self _
    have hP0 : w.heap.size ≤ w.heap.size := Nat.le_refl _
    rw [show (w.alloc (.cells #[.int .i64 0, .int .i64 0] 39)).heap.size = w.heap.size + 1 by simp] at hcw
    generalize (w.alloc (.cells #[.int .i64 0, .int .i64 0] 39)).alloc (.cells #[.slice none 0 0, .bool false] 106) = W0 at hcw hEw p0 p1 pf ⊢
    generalize w.heap.size + 1 = B at hcw hPB ⊢
    generalize hP : w.heap.size = P at p0 p1 pf hPB ⊢
    have HP := Lib.hid hP
    clear hP hP0
    have hB0 := hcw.lt
    have hPW : P < W0.heap.size := by omega
    go_loopw [6, 7] (fun q i wr => ∃ (qb : Bool) (k : Nat) (out : List Prt) (ao : Option Addr) (cap : Nat), q = .bool qb ∧ i = .int .i64 (k : Int) ∧ k ≤ s.length ∧ Hid (cmpL s 0 false [] = cmpL (s.drop k) k qb out) ∧ Hid (CW B ao cap out wr) ∧ out.length ≤ k ∧ Hid (∀ p ∈ out, p.t.length ≤ k) ∧ Hid (Frm (fun j => B ≤ j) W0 wr)) (fun _ i _ => s.length - (intOf i).toNat)
    case atStart => exact ⟨false, 0, [], none, 0, rfl, rfl, Nat.zero_le _, rfl, hcw, Nat.le_refl _, fun p hp => (by simp at hp), Frm.refl _ _⟩
    case round =>
      obtain ⟨qb, k, out, ao, cap, rfl, rfl, hk, HC, HW, hol, HT, HF⟩ := hrel
      have hBr := HW.out.lt
      have hPr : P < wr.heap.size := HF.out.lt hPW
      have p0r : wr.cell? ⟨P, 0, none⟩ = some (.int .i64 0) := (HF.out.cel hPW (by omega) 0).trans p0
      have p1r : wr.cell? ⟨P, 1, none⟩ = some (.int .i64 0) := (HF.out.cel hPW (by omega) 1).trans p1
      have pfr : ∀ o, wr.frozen? ⟨P, o, none⟩ = false := fun o => (HF.out.frz hPW (by omega) o).trans (pf o)
      clear hcw p0 p1 pf
      by_cases hlt : k < s.length
      · have hb := bget s k hlt _ rfl
        have Hbad := Lib.hid (cmp_bad s k hlt qb out)
        have Htwo := Lib.hid (cmp_two s k hlt qb out)
        have Hquo := Lib.hid (cmp_quote s k hlt qb out)
        have Hlit := Lib.hid (cmp_lit s k hlt qb out)
        have Hfld := Lib.hid (cmp_fld s k hlt qb out)
        obtain ⟨c, hc⟩ : ∃ c, c = s[k] := ⟨_, rfl⟩
        rw [← hc] at hb Hbad Htwo Hquo Hlit Hfld
        clear hc
        have hEr : Ext w wr := Frm.far hEw HF.out (fun j hj hS => by rw [HP.out] at hj; omega)
        have HT2 : Hid (∀ p ∈ out, p.t.length ≤ 1000) := fun p hp => Nat.le_trans (HT.out p hp) (by omega)
        rcases Bool.eq_false_or_eq_true (prn c) with hp | hp
        · by_cases hq : c = 39
          · have t39 : ((c.toNat : Int) == 39) = true := by rw [hq]; rfl
            by_cases h2 : k + 1 < s.length
            · have hb2 := bget s (k + 1) h2 _ rfl
              have e2 : s[k + 1]? = some s[k + 1] := List.getElem?_eq_getElem h2
              obtain ⟨c2, hc2⟩ : ∃ c2, c2 = s[k + 1] := ⟨_, rfl⟩
              rw [← hc2] at hb2 e2
              clear hc2
              by_cases hq2 : c2 = 39
              · have HB := Lib.hid (Htwo.out hp hq (by rw [e2, hq2]))
                have t2 : ((c2.toNat : Int) == 39) = true := by rw [hq2]; rfl
                have Hp := Lib.hid hp
                have Hq := Lib.hid hq
                clear hp hq hq2 e2
                have hWp := HW.out.ext ((Ext.refl wr).alloc (.cells #[Value.int .i64 1, Value.int .i64 ((k : Int) + 1)] 39))
                have HWp := Lib.hid hWp
                clear hWp
                go_wp2_with (first
                  | (go_at_call 65; (with_reducible refine (prn_lit c true _ Hp.out).mono ?_); rintro e w1 ⟨rfl, rfl⟩)
                  | (go_at_call 66; (with_reducible refine (literal_c B ao cap out c _ HWp.out (by omega) HT2.out).mono ?_); rintro e w1 ⟨rfl, ⟨ao1, cap1, h1⟩, hF1⟩; have H1 := Lib.hid h1; have HF1 := Lib.hid hF1; clear h1 hF1))
                go_roundw
                case rel => exact ⟨qb, k + 2, addLit out c, ao1, cap1, rfl, by go_num, by omega, by rw [Hid, HC.out, HB.out, Hq.out], H1.out, by have := addLit_len out c; omega, fun p hp => Nat.le_trans (addLit_texts out c k HT.out p hp) (by omega), (HF.out.trans ((Frm.of_ext ((Ext.refl wr).alloc _)).trans HF1.out))⟩
                case measure => simp [intOf]; omega
              · have HB := Lib.hid (Hquo.out hp hq (by rw [e2]; intro e; exact hq2 (Option.some.inj e)))
                have t2 : ((c2.toNat : Int) == 39) = false := ne39 c2 hq2
                have Hp := Lib.hid hp
                clear hp hq hq2 e2
                go_wp2_with (first
                  | (go_at_call 65; (with_reducible refine (prn_lit c true _ Hp.out).mono ?_); rintro e w1 ⟨rfl, rfl⟩))
                go_roundw
                case rel => exact ⟨!qb, k + 1, out, ao, cap, rfl, by go_num, by omega, by rw [Hid, HC.out, HB.out], HW.out.ext ((Ext.refl wr).alloc _), by omega, fun p hp => Nat.le_trans (HT.out p hp) (by omega), HF.out.trans (Frm.of_ext ((Ext.refl wr).alloc _))⟩
                case measure => simp [intOf]; omega
            · have HB := Lib.hid (Hquo.out hp hq (by rw [List.getElem?_eq_none (by omega)]; intro e; cases e))
              have Hp := Lib.hid hp
              have h3 : ¬ (k : Int) + 1 < (s.length : Int) := by omega
              clear hp hq
              go_wp2_with (first
                | (go_at_call 65; (with_reducible refine (prn_lit c true _ Hp.out).mono ?_); rintro e w1 ⟨rfl, rfl⟩))
              go_roundw
              case rel => exact ⟨!qb, k + 1, out, ao, cap, rfl, by go_num, by omega, by rw [Hid, HC.out, HB.out], HW.out.ext ((Ext.refl wr).alloc _), by omega, fun p hp => Nat.le_trans (HT.out p hp) (by omega), HF.out.trans (Frm.of_ext ((Ext.refl wr).alloc _))⟩
              case measure => simp [intOf]; omega
          · have t39 : ((c.toNat : Int) == 39) = false := ne39 c hq
            by_cases hql : qb = true ∨ isLt c = false
            · have HB := Lib.hid (Hlit.out hp hq hql)
              have Hp := Lib.hid hp
              clear hp hq
              have hWp := HW.out.ext ((Ext.refl wr).alloc (.cells #[Value.int .i64 1, Value.int .i64 ((k : Int) + 1)] 39))
              have HWp := Lib.hid hWp
              clear hWp
              rcases hql with rfl | hl
              · go_wp2_with (first
                  | (go_at_call 65; (with_reducible refine (prn_lit c true _ Hp.out).mono ?_); rintro e w1 ⟨rfl, rfl⟩)
                  | (go_at_call 66; (with_reducible refine (literal_c B ao cap out c _ HWp.out (by omega) HT2.out).mono ?_); rintro e w1 ⟨rfl, ⟨ao1, cap1, h1⟩, hF1⟩; have H1 := Lib.hid h1; have HF1 := Lib.hid hF1; clear h1 hF1))
                go_roundw
                case rel => exact ⟨true, k + 1, addLit out c, ao1, cap1, rfl, by go_num, by omega, by rw [Hid, HC.out, HB.out], H1.out, by have := addLit_len out c; omega, fun p hp => Nat.le_trans (addLit_texts out c k HT.out p hp) (by omega), (HF.out.trans ((Frm.of_ext ((Ext.refl wr).alloc _)).trans HF1.out))⟩
                case measure => simp [intOf]; omega
              · have Hl := Lib.hid hl
                clear hl
                cases qb
                all_goals
                  go_wp2_with (first
                    | (go_at_call 65; (with_reducible refine (prn_lit c true _ Hp.out).mono ?_); rintro e w1 ⟨rfl, rfl⟩)
                    | (go_at_call 67; (with_reducible refine (isLt_lit c false _ Hl.out).mono ?_); rintro e w1 ⟨rfl, rfl⟩)
                    | (go_at_call 66; (with_reducible refine (literal_c B ao cap out c _ HWp.out (by omega) HT2.out).mono ?_); rintro e w1 ⟨rfl, ⟨ao1, cap1, h1⟩, hF1⟩; have H1 := Lib.hid h1; have HF1 := Lib.hid hF1; clear h1 hF1))
                  go_roundw
                  case rel => exact ⟨_, k + 1, addLit out c, ao1, cap1, rfl, by go_num, by omega, by rw [Hid, HC.out, HB.out], H1.out, by have := addLit_len out c; omega, fun p hp => Nat.le_trans (addLit_texts out c k HT.out p hp) (by omega), (HF.out.trans ((Frm.of_ext ((Ext.refl wr).alloc _)).trans HF1.out))⟩
                  case measure => simp [intOf]; omega
            · have hl : isLt c = true := by cases e : isLt c with | true => rfl | false => exact absurd (.inr e) hql
              have hqb : qb = false := by cases e : qb with | false => rfl | true => exact absurd (.inl e) hql
              subst hqb
              have Hfl := Lib.hid (fun m hm => Hfld.out hp hq rfl hl m hm)
              have Hp := Lib.hid hp
              have Hl := Lib.hid hl
              clear hp hq hql hl Hbad Htwo Hquo Hlit Hfld
              have hWp := HW.out.ext ((Ext.refl wr).alloc (.cells #[Value.int .i64 1, Value.int .i64 ((k : Int) + 1)] 39))
              have HWp := Lib.hid hWp
              clear hWp
              go_wp2_with (first
                | (go_at_call 65; (with_reducible refine (prn_lit c true _ Hp.out).mono ?_); rintro e w1 ⟨rfl, rfl⟩)
                | (go_at_call 67; (with_reducible refine (isLt_lit c true _ Hl.out).mono ?_); rintro e w1 ⟨rfl, rfl⟩))
              have hEW : Ext wr (wr.alloc (.cells #[Value.int .i64 1, Value.int .i64 ((k : Int) + 1)] 39)) := (Ext.refl wr).alloc _
              have z0 : (wr.alloc (.cells #[Value.int .i64 1, Value.int .i64 ((k : Int) + 1)] 39)).cell? ⟨wr.heap.size, 0, none⟩ = some (.int .i64 1) := by rw [World.cell?_alloc_new]; rfl
              have z1 : (wr.alloc (.cells #[Value.int .i64 1, Value.int .i64 ((k : Int) + 1)] 39)).cell? ⟨wr.heap.size, 1, none⟩ = some (.int .i64 ((k : Int) + 1)) := by rw [World.cell?_alloc_new]; rfl
              have zz : wr.heap.size < (wr.alloc (.cells #[Value.int .i64 1, Value.int .i64 ((k : Int) + 1)] 39)).heap.size := by simp
              generalize wr.alloc (.cells #[Value.int .i64 1, Value.int .i64 ((k : Int) + 1)] 39) = W at HWp hEW z0 z1 zz ⊢
              have hEWw := hEr.trans hEW
              have HFW := HF.out.trans (Frm.of_ext hEW)
              have p0W := (hEW.cells _ _ hPr).trans p0r
              have p1W := (hEW.cells _ _ hPr).trans p1r
              have pfW := fun o => (hEW.frozens _ o hPr).trans (pfr o)
              have hPW' := hEW.lt hPr
              generalize wr.heap.size = Z at z0 z1 zz ⊢
              clear hEW p0r p1r pfr hPr hEr HF HW hBr
              go_loopw [10] (fun n wx => ∃ m : Nat, n = .int .i64 ((m : Int) + 1) ∧ k + 1 + m ≤ s.length ∧ Hid (∀ j, j < m → (s.drop (k + 1))[j]? = some c) ∧ wx = W) (fun n _ => s.length - (intOf n).toNat)
              case atStart => exact ⟨0, rfl, by omega, fun j hj => absurd hj (Nat.not_lt_zero j), rfl⟩
              case round =>
                obtain ⟨m, rfl, hm, Hm, rfl⟩ := hrel
                by_cases hlm : k + (m + 1) < s.length
                · have hb3 := bget s (k + (m + 1)) hlm _ rfl
                  have e3 : (s.drop (k + 1))[m]? = some s[k + (m + 1)] := by
                    rw [List.getElem?_drop, show k + 1 + m = k + (m + 1) by omega]
                    exact List.getElem?_eq_getElem hlm
                  obtain ⟨c3, hc3⟩ : ∃ c3, c3 = s[k + (m + 1)] := ⟨_, rfl⟩
                  rw [← hc3] at hb3 e3
                  clear hc3
                  by_cases hq3 : c3 = c
                  · have t3 : ((c3.toNat : Int) == (c.toNat : Int)) = true := by rw [hq3]; simp
                    have Hn : Hid (∀ j, j < m + 1 → (s.drop (k + 1))[j]? = some c) := by
                      intro j hj
                      by_cases e : j = m
                      · rw [e, e3, hq3]
                      · exact Hm.out j (by omega)
                    clear hq3 e3
                    go_wp2_with fail
                    go_roundw
                    case rel => exact ⟨m + 1, by go_num, by omega, Hn, by trivial⟩
                    case measure => simp [intOf]; omega
                  · have t3 : ((c3.toNat : Int) == (c.toNat : Int)) = false := by
                      rw [beq_eq_false_iff_ne]
                      intro e
                      exact hq3 (by rw [← UInt8.toNat_inj]; omega)
                    have Hru := Lib.hid (runN_eq c (s.drop (k + 1)) m Hm.out (by rw [e3]; intro e; exact hq3 (Option.some.inj e)))
                    clear hq3 e3
                    have Hrn := Lib.hid (Hfl.out m Hru.out)
                    obtain ⟨f, hf⟩ : ∃ f, f = fld c (m + 1) := ⟨_, rfl⟩
                    have hft : f.t = [] := by rw [hf]; exact fld_text c (m + 1)
                    have Hf := Lib.hid hf
                    have HB0 : Hid (cmpL (s.drop k) k false out = if f.k = 0 then ([], k + 1, 3) else cmpL (s.drop (k + (m + 1))) (k + (m + 1)) false (out ++ [f])) := by
                      rw [Hid, Hrn.out, Nat.add_comm 1 m, Hf.out]
                    have HLF : Hid (∀ l, longB (l ++ [f]) = longB l) := fun l => by rw [longB_snoc, hft]; simp
                    have HFT := Lib.hid hft
                    clear hf Hfl Hrn hft
                    obtain ⟨fk, fw, ft⟩ := f
                    simp only at HB0
                    have HFT2 : Hid (ft = []) := HFT.out
                    by_cases hk0 : fk = 0
                    · have HB : Hid (cmpL (s.drop k) k false out = ([], k + 1, 3)) := by rw [Hid, HB0.out, if_pos hk0]
                      have hb0 : decide (fk ≠ 0) = false := by simp [hk0]
                      have Hb0 := Lib.hid hb0
                      clear hb0 hk0 HB0
                      go_wp2_with (first
                        | (go_at_call 68; (with_reducible refine (field_x c m fk fw ft false _ Hl.out (by omega) Hf.out Hb0.out).mono ?_); rintro e w2 ⟨rfl, hE2⟩; have p0w := (hE2.cells _ _ hPW').trans p0W; have p1w := (hE2.cells _ _ hPW').trans p1W; have pfw := fun o => (hE2.frozens _ o hPW').trans (pfW o); have z0w := (hE2.cells _ _ zz).trans z0; have z1w := (hE2.cells _ _ zz).trans z1; have hPw := hE2.lt hPW'; have zzw := hE2.lt zz))
                      have hEr := hEWw.trans hE2
                      have p0r := p0w
                      have p1r := p1w
                      have hPr := hPw
                      go_region
                      go_wp2_with fail
                      refine bodyPost_ret (v := .tuple #[.slice none 0 0, .agg #[.int .i64 1, .int .i64 ((k : Int) + 1)], .int .i64 3]) ?_ rfl ⟨none, 0, ?_, ?_, ?_⟩
                      · simp [results, Tryz.results26, go_sem, p0r, p1r, hPr]
                      · rw [HR.out, HC.out, HB.out]; simp
                      · rw [HR.out, HC.out, HB.out]; exact PtV.nil _
                      · (repeat (with_reducible (first | exact hEr | refine Ext.setCell ?_ (Nat.le_of_eq HP.out) _ | refine Ext.alloc ?_ _ | refine Ext.drewN ?_ _ | refine Ext.drew ?_)))
                    · have HB : Hid (cmpL (s.drop k) k false out = cmpL (s.drop (k + (m + 1))) (k + (m + 1)) false (out ++ [⟨fk, fw, ft⟩])) := by rw [Hid, HB0.out, if_neg hk0]
                      have hb0 : decide (fk ≠ 0) = true := by simp [hk0]
                      have Hb0 := Lib.hid hb0
                      clear hb0 hk0 HB0
                      go_wp2_with (first
                        | (go_at_call 68; (with_reducible refine (field_x c m fk fw ft true _ Hl.out (by omega) Hf.out Hb0.out).mono ?_); rintro e w2 ⟨rfl, hE2⟩))
                      have HZ := Lib.hid (HWp.out.ext (hE2.trans ((Ext.refl w2).alloc (.cells #[.int .i64 fk, .int .i64 fw, .string ⟨ft.toArray⟩] 110))))
                      have hFV : Frm (fun j => B ≤ j) W0 (w2.alloc (.cells #[.int .i64 fk, .int .i64 fw, .string ⟨ft.toArray⟩] 110)) := HFW.trans (Frm.of_ext (hE2.trans ((Ext.refl w2).alloc _)))
                      have y0 : (w2.alloc (.cells #[.int .i64 fk, .int .i64 fw, .string ⟨ft.toArray⟩] 110)).cell? ⟨w2.heap.size, 0, none⟩ = some (.int .i64 fk) := by rw [World.cell?_alloc_new]; rfl
                      have y1 : (w2.alloc (.cells #[.int .i64 fk, .int .i64 fw, .string ⟨ft.toArray⟩] 110)).cell? ⟨w2.heap.size, 1, none⟩ = some (.int .i64 fw) := by rw [World.cell?_alloc_new]; rfl
                      have y2 : (w2.alloc (.cells #[.int .i64 fk, .int .i64 fw, .string ⟨ft.toArray⟩] 110)).cell? ⟨w2.heap.size, 2, none⟩ = some (.string ⟨ft.toArray⟩) := by rw [World.cell?_alloc_new]; rfl
                      have yz : w2.heap.size < (w2.alloc (.cells #[.int .i64 fk, .int .i64 fw, .string ⟨ft.toArray⟩] 110)).heap.size := by simp
                      generalize w2.alloc (.cells #[.int .i64 fk, .int .i64 fw, .string ⟨ft.toArray⟩] 110) = V at HZ hFV y0 y1 y2 yz ⊢
                      generalize w2.heap.size = D at y0 y1 y2 yz ⊢
                      have x0 := HZ.out.c0
                      have xl := HZ.out.lt
                      have xf := HZ.out.free
                      go_region_law (first | (go_loud (refine step_append_lies _ rfl _ _ 63 rfl (B + 1) 110 i0 (.agg #[.int .i64 0, .int .i64 0, .string ByteArray.empty]) 3 32 Tryz.underlying63 Hi.out Hz0.out Hz1.out Hz2.out rfl (by decide) _ _ _ rfl (HZ.out.row.alloc _) ⟨V.heap.size, 0, none⟩ 1 1 [.int .i64 fk, .int .i64 fw, .string ⟨ft.toArray⟩] rfl rfl (cell_three_new V _ _ _ _) (fun x hx => by simp at hx; rcases hx with rfl | rfl | rfl <;> rfl) (by decide) (by unfold maxLen; omega) (by omega) (by simp; omega) _ rfl ?_; intro g3 cap3 w3 hown3 hgrow3 hat3 hlt3; obtain ⟨G0, G1, G2, G3⟩ := HZ.out.grow0 (w2 := (V.alloc (.cells #[.int .i64 fk, .int .i64 fw, .string ⟨ft.toArray⟩] 110)).drew) ((Ext.refl V).alloc _).drew hgrow3)))
                      all_goals
                        obtain ⟨ao9, cap9, e9, h9, HF9⟩ := HZ.out.grow (w2 := (V.alloc (.cells #[.int .i64 fk, .int .i64 fw, .string ⟨ft.toArray⟩] 110)).drew) ((Ext.refl V).alloc _).drew hgrow3 (v' := .slice (some ⟨g3, 0, none⟩) (out.length + 1) cap3) (q := ⟨fk, fw, ft⟩) hown3 (by rw [HFT2.out]; simp)
                        injection e9 with e91 e92 e93
                        subst e91
                        subst e93
                        have H9 := Lib.hid h9
                        have HF99 := Lib.hid (hFV.trans HF9)
                        clear h9 HF9 hown3 hgrow3 hat3 hlt3 G0 G1 G2 G3
                        go_wp2_with fail
                        go_roundw
                        case rel => exact ⟨false, k + (m + 1), out ++ [(⟨fk, fw, ft⟩ : Prt)], some ⟨g3, 0, none⟩, cap3, rfl, by go_num, by omega, by rw [Hid, HC.out, HB.out], H9, by rw [List.length_append, List.length_singleton]; omega, fun p hp => by (rcases List.mem_append.1 hp with q | q; exact Nat.le_trans (HT.out p q) (by omega); rw [List.mem_singleton.1 q, HFT2.out]; simp), HF99.out⟩
                        case measure => simp [intOf]; omega
                · have Hru := Lib.hid (runN_eq c (s.drop (k + 1)) m Hm.out (by rw [List.getElem?_drop, List.getElem?_eq_none (by omega)]; intro e; cases e))
                  have h3 : ¬ (k : Int) + ((m : Int) + 1) < (s.length : Int) := by omega
                  clear hlm
                  have Hrn := Lib.hid (Hfl.out m Hru.out)
                  obtain ⟨f, hf⟩ : ∃ f, f = fld c (m + 1) := ⟨_, rfl⟩
                  have hft : f.t = [] := by rw [hf]; exact fld_text c (m + 1)
                  have Hf := Lib.hid hf
                  have HB0 : Hid (cmpL (s.drop k) k false out = if f.k = 0 then ([], k + 1, 3) else cmpL (s.drop (k + (m + 1))) (k + (m + 1)) false (out ++ [f])) := by
                    rw [Hid, Hrn.out, Nat.add_comm 1 m, Hf.out]
                  have HLF : Hid (∀ l, longB (l ++ [f]) = longB l) := fun l => by rw [longB_snoc, hft]; simp
                  have HFT := Lib.hid hft
                  clear hf Hfl Hrn hft
                  obtain ⟨fk, fw, ft⟩ := f
                  simp only at HB0
                  have HFT2 : Hid (ft = []) := HFT.out
                  by_cases hk0 : fk = 0
                  · have HB : Hid (cmpL (s.drop k) k false out = ([], k + 1, 3)) := by rw [Hid, HB0.out, if_pos hk0]
                    have hb0 : decide (fk ≠ 0) = false := by simp [hk0]
                    have Hb0 := Lib.hid hb0
                    clear hb0 hk0 HB0
                    go_wp2_with (first
                      | (go_at_call 68; (with_reducible refine (field_x c m fk fw ft false _ Hl.out (by omega) Hf.out Hb0.out).mono ?_); rintro e w2 ⟨rfl, hE2⟩; have p0w := (hE2.cells _ _ hPW').trans p0W; have p1w := (hE2.cells _ _ hPW').trans p1W; have pfw := fun o => (hE2.frozens _ o hPW').trans (pfW o); have z0w := (hE2.cells _ _ zz).trans z0; have z1w := (hE2.cells _ _ zz).trans z1; have hPw := hE2.lt hPW'; have zzw := hE2.lt zz))
                    have hEr := hEWw.trans hE2
                    have p0r := p0w
                    have p1r := p1w
                    have hPr := hPw
                    go_region
                    go_wp2_with fail
                    refine bodyPost_ret (v := .tuple #[.slice none 0 0, .agg #[.int .i64 1, .int .i64 ((k : Int) + 1)], .int .i64 3]) ?_ rfl ⟨none, 0, ?_, ?_, ?_⟩
                    · simp [results, Tryz.results26, go_sem, p0r, p1r, hPr]
                    · rw [HR.out, HC.out, HB.out]; simp
                    · rw [HR.out, HC.out, HB.out]; exact PtV.nil _
                    · (repeat (with_reducible (first | exact hEr | refine Ext.setCell ?_ (Nat.le_of_eq HP.out) _ | refine Ext.alloc ?_ _ | refine Ext.drewN ?_ _ | refine Ext.drew ?_)))
                  · have HB : Hid (cmpL (s.drop k) k false out = cmpL (s.drop (k + (m + 1))) (k + (m + 1)) false (out ++ [⟨fk, fw, ft⟩])) := by rw [Hid, HB0.out, if_neg hk0]
                    have hb0 : decide (fk ≠ 0) = true := by simp [hk0]
                    have Hb0 := Lib.hid hb0
                    clear hb0 hk0 HB0
                    go_wp2_with (first
                      | (go_at_call 68; (with_reducible refine (field_x c m fk fw ft true _ Hl.out (by omega) Hf.out Hb0.out).mono ?_); rintro e w2 ⟨rfl, hE2⟩))
                    have HZ := Lib.hid (HWp.out.ext (hE2.trans ((Ext.refl w2).alloc (.cells #[.int .i64 fk, .int .i64 fw, .string ⟨ft.toArray⟩] 110))))
                    have hFV : Frm (fun j => B ≤ j) W0 (w2.alloc (.cells #[.int .i64 fk, .int .i64 fw, .string ⟨ft.toArray⟩] 110)) := HFW.trans (Frm.of_ext (hE2.trans ((Ext.refl w2).alloc _)))
                    have y0 : (w2.alloc (.cells #[.int .i64 fk, .int .i64 fw, .string ⟨ft.toArray⟩] 110)).cell? ⟨w2.heap.size, 0, none⟩ = some (.int .i64 fk) := by rw [World.cell?_alloc_new]; rfl
                    have y1 : (w2.alloc (.cells #[.int .i64 fk, .int .i64 fw, .string ⟨ft.toArray⟩] 110)).cell? ⟨w2.heap.size, 1, none⟩ = some (.int .i64 fw) := by rw [World.cell?_alloc_new]; rfl
                    have y2 : (w2.alloc (.cells #[.int .i64 fk, .int .i64 fw, .string ⟨ft.toArray⟩] 110)).cell? ⟨w2.heap.size, 2, none⟩ = some (.string ⟨ft.toArray⟩) := by rw [World.cell?_alloc_new]; rfl
                    have yz : w2.heap.size < (w2.alloc (.cells #[.int .i64 fk, .int .i64 fw, .string ⟨ft.toArray⟩] 110)).heap.size := by simp
                    generalize w2.alloc (.cells #[.int .i64 fk, .int .i64 fw, .string ⟨ft.toArray⟩] 110) = V at HZ hFV y0 y1 y2 yz ⊢
                    generalize w2.heap.size = D at y0 y1 y2 yz ⊢
                    have x0 := HZ.out.c0
                    have xl := HZ.out.lt
                    have xf := HZ.out.free
                    go_region_law (first | (go_loud (refine step_append_lies _ rfl _ _ 63 rfl (B + 1) 110 i0 (.agg #[.int .i64 0, .int .i64 0, .string ByteArray.empty]) 3 32 Tryz.underlying63 Hi.out Hz0.out Hz1.out Hz2.out rfl (by decide) _ _ _ rfl (HZ.out.row.alloc _) ⟨V.heap.size, 0, none⟩ 1 1 [.int .i64 fk, .int .i64 fw, .string ⟨ft.toArray⟩] rfl rfl (cell_three_new V _ _ _ _) (fun x hx => by simp at hx; rcases hx with rfl | rfl | rfl <;> rfl) (by decide) (by unfold maxLen; omega) (by omega) (by simp; omega) _ rfl ?_; intro g3 cap3 w3 hown3 hgrow3 hat3 hlt3; obtain ⟨G0, G1, G2, G3⟩ := HZ.out.grow0 (w2 := (V.alloc (.cells #[.int .i64 fk, .int .i64 fw, .string ⟨ft.toArray⟩] 110)).drew) ((Ext.refl V).alloc _).drew hgrow3)))
                    all_goals
                      obtain ⟨ao9, cap9, e9, h9, HF9⟩ := HZ.out.grow (w2 := (V.alloc (.cells #[.int .i64 fk, .int .i64 fw, .string ⟨ft.toArray⟩] 110)).drew) ((Ext.refl V).alloc _).drew hgrow3 (v' := .slice (some ⟨g3, 0, none⟩) (out.length + 1) cap3) (q := ⟨fk, fw, ft⟩) hown3 (by rw [HFT2.out]; simp)
                      injection e9 with e91 e92 e93
                      subst e91
                      subst e93
                      have H9 := Lib.hid h9
                      have HF99 := Lib.hid (hFV.trans HF9)
                      clear h9 HF9 hown3 hgrow3 hat3 hlt3 G0 G1 G2 G3
                      go_wp2_with fail
                      go_roundw
                      case rel => exact ⟨false, k + (m + 1), out ++ [(⟨fk, fw, ft⟩ : Prt)], some ⟨g3, 0, none⟩, cap3, rfl, by go_num, by omega, by rw [Hid, HC.out, HB.out], H9, by rw [List.length_append, List.length_singleton]; omega, fun p hp => by (rcases List.mem_append.1 hp with q | q; exact Nat.le_trans (HT.out p q) (by omega); rw [List.mem_singleton.1 q, HFT2.out]; simp), HF99.out⟩
                      case measure => simp [intOf]; omega
        · have HB := Lib.hid (Hbad.out hp)
          have Hp := Lib.hid hp
          clear hp
          go_wp2_with (first
            | (go_at_call 65; (with_reducible refine (prn_lit c false _ Hp.out).mono ?_); rintro e w1 ⟨rfl, rfl⟩))
          go_region
          go_wp2_with fail
          refine bodyPost_ret (v := .tuple #[.slice none 0 0, .agg #[.int .i64 1, .int .i64 ((k : Int) + 1)], .int .i64 3]) ?_ rfl ⟨none, 0, ?_, ?_, ?_⟩
          · simp [results, Tryz.results26, go_sem, p0r, p1r, hPr]
          · rw [HR.out, HC.out, HB.out]; simp
          · rw [HR.out, HC.out, HB.out]; exact PtV.nil _
          · (repeat (with_reducible (first | exact hEr | refine Ext.setCell ?_ (Nat.le_of_eq HP.out) _ | refine Ext.alloc ?_ _ | refine Ext.drewN ?_ _ | refine Ext.drew ?_)))
      · obtain rfl : k = s.length := by omega
        have hEr : Ext w wr := Frm.far hEw HF.out (fun j hj hS => by rw [HP.out] at hj; omega)
        have hE : cmpL (s.drop s.length) s.length qb out = if qb then ([], 0, 4) else if decide (40 < out.length) || longB out then ([], 0, 5) else (out, 0, 0) := by rw [List.drop_length, cmpL_end]
        have b0 := HW.out.c0
        have b1 := HW.out.c1
        cases qb
        · rw [if_neg (by simp)] at hE
          by_cases h40 : 40 < out.length
          · rw [decide_eq_true h40, Bool.true_or, if_pos rfl] at hE
            have HE := Lib.hid hE
            have d40 : (40 : Int) < (out.length : Int) := by omega
            clear hE
            go_wp2_with fail
            refine bodyPost_ret (v := .tuple #[.slice none 0 0, .agg #[.int .i64 0, .int .i64 0], .int .i64 5]) ?_ rfl ⟨none, 0, ?_, ?_, ?_⟩
            · simp [results, Tryz.results26, go_sem, p0r, p1r, hPr]
            · rw [HR.out, HC.out, HE.out]; simp
            · rw [HR.out, HC.out, HE.out]; exact PtV.nil _
            · (repeat (with_reducible (first | exact hEr | refine Ext.setCell ?_ (Nat.le_of_eq HP.out) _ | refine Ext.alloc ?_ _ | refine Ext.drewN ?_ _ | refine Ext.drew ?_)))
          · rw [decide_eq_false h40, Bool.false_or] at hE
            have d40 : ¬ (40 : Int) < (out.length : Int) := by omega
            clear h40
            generalize hlg : longB out = lg at hE b1
            clear hlg
            cases lg
            · rw [if_neg (by simp)] at hE
              have HE := Lib.hid hE
              clear hE
              have hpt := PtV.of_own HW.out.row rfl
              go_wp2_with fail
              refine bodyPost_ret (v := .tuple #[.slice ao out.length cap, .agg #[.int .i64 0, .int .i64 0], .int .i64 0]) ?_ rfl ⟨ao, cap, ?_, ?_, ?_⟩
              · simp [results, Tryz.results26, go_sem, p0r, p1r, hPr]
              · rw [HR.out, HC.out, HE.out]; simp
              · rw [HR.out, HC.out, HE.out]; exact PtV.far2 hpt HW.out.row _ _ _ _ (by omega)
              · (repeat (with_reducible (first | exact hEr | refine Ext.setCell ?_ (Nat.le_of_eq HP.out) _ | refine Ext.alloc ?_ _ | refine Ext.drewN ?_ _ | refine Ext.drew ?_)))
            · rw [if_pos rfl] at hE
              have HE := Lib.hid hE
              clear hE
              go_wp2_with fail
              refine bodyPost_ret (v := .tuple #[.slice none 0 0, .agg #[.int .i64 0, .int .i64 0], .int .i64 5]) ?_ rfl ⟨none, 0, ?_, ?_, ?_⟩
              · simp [results, Tryz.results26, go_sem, p0r, p1r, hPr]
              · rw [HR.out, HC.out, HE.out]; simp
              · rw [HR.out, HC.out, HE.out]; exact PtV.nil _
              · (repeat (with_reducible (first | exact hEr | refine Ext.setCell ?_ (Nat.le_of_eq HP.out) _ | refine Ext.alloc ?_ _ | refine Ext.drewN ?_ _ | refine Ext.drew ?_)))
        · rw [if_pos rfl] at hE
          have HE := Lib.hid hE
          clear hE
          go_wp2_with fail
          refine bodyPost_ret (v := .tuple #[.slice none 0 0, .agg #[.int .i64 0, .int .i64 0], .int .i64 4]) ?_ rfl ⟨none, 0, ?_, ?_, ?_⟩
          · simp [results, Tryz.results26, go_sem, p0r, p1r, hPr]
          · rw [HR.out, HC.out, HE.out]; simp
          · rw [HR.out, HC.out, HE.out]; exact PtV.nil _
          · (repeat (with_reducible (first | exact hEr | refine Ext.setCell ?_ (Nat.le_of_eq HP.out) _ | refine Ext.alloc ?_ _ | refine Ext.drewN ?_ _ | refine Ext.drew ?_)))
  · have HR : Hid (cmpT s = ([], 0, 5)) := by rw [Hid, cmpT, if_pos (by omega)]
    have d1 : (200 : Int) < (s.length : Int) := by omega
    clear h200
    go_enter Tryz.func26, Tryz.ntmps26
    go_wp2_with fail
    refine bodyPost_ret (v := .tuple #[.slice none 0 0, .agg #[.int .i64 0, .int .i64 0], .int .i64 5]) ?_ rfl ⟨none, 0, ?_, ?_, ?_⟩
    · simp [results, Tryz.results26, go_sem]
    · rw [HR.out]; rfl
    · rw [HR.out]; exact PtV.nil _
    · (repeat (with_reducible (first | assumption | exact Ext.refl _ | refine Ext.alloc ?_ _ | refine Ext.setCell ?_ (by simp) _ | refine Ext.setCell ?_ (by simp; omega) _ | refine Ext.drewN ?_ _ | refine Ext.drew ?_)))
end Go.Proofs.YtnhdmnhfllecgaaGreatDoor
