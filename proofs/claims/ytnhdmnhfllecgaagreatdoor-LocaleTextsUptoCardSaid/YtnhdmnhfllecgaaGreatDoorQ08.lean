/- Patterns: the walk of name. -/
import Derived.Test.YtnhdmnhfllecgaaGreatDoorQ07
import Derived.Test.YtnhdmnhfllecgaaGreatDoorQ00
import Derived.Test.YtnhdmnhfllecgaaGreatDoorQ05
import Derived.Test.YtnhdmnhfllecgaaGreatDoorQ06
import Derived.Test.YtnhdmnhfllecgaaGreatDoorQ04
import Derived.BigQuiet
import Derived.StillTail
import Derived.Deep.MidRow
namespace Go.Proofs.YtnhdmnhfllecgaaGreatDoor
set_option linter.unusedVariables false
set_option linter.unusedSimpArgs false
open Go.RowKit

theorem u8_ne {c : UInt8} {n : Nat} (hn : n < 256) (h : ¬ c = UInt8.ofNat n) : ¬ c.toNat = n := by
  intro e
  exact h (by rw [← e]; simp)
set_option maxHeartbeats 1000000 in
theorem name_c (s : List UInt8) (w : World) (hs : s.length ≤ 9223372036854775806) : Calls Tryz.prog 73 #[.string ⟨s.toArray⟩] w fun e w' => e = .returned (.bool (nameB 30 s)) ∧ w = w' := by
  by_cases h1 : 1 ≤ s.length
  · by_cases h2 : s.length ≤ 30
    · have b0 := bget s 0 (by omega) _ rfl
      have HT : Hid (nameB 30 s = (isLt s[0] && s.all nmC)) := by
        unfold Hid nameB; rw [decide_eq_true h1, decide_eq_true h2]
        have : s.headD 0 = s[0] := by cases s with | nil => simp at h1 | cons c r => rfl
        rw [this]; rfl
      obtain ⟨c0, hc0⟩ : ∃ c, c = s[0] := ⟨_, rfl⟩
      rw [← hc0] at b0 HT
      clear hc0
      rcases Bool.eq_false_or_eq_true (isLt c0) with h0 | h0
      · have H0 := Lib.hid h0
        have HT2 : Hid (nameB 30 s = s.all nmC) := by rw [Hid, HT.out, h0]; rfl
        clear h0 HT
        go_enter Tryz.func73, Tryz.ntmps73
        go_wp2_with (first
          | (go_at_call 67; (with_reducible refine (isLt_lit c0 true _ H0.out).mono ?_); rintro e w1 ⟨rfl, rfl⟩))
        go_loop [20] (fun i => ∃ j : Nat, j ≤ s.length ∧ i = .int .i64 (j : Int) ∧ Hid ((s.take j).all nmC = true)) (fun i => s.length - (intOf i).toNat)
        case atStart => exact ⟨0, Nat.zero_le _, rfl, rfl⟩
        case round =>
          obtain ⟨j, hj, rfl, Hall⟩ := hrel
          clear b0
          by_cases hlt : j < s.length
          · have hb := bget s j hlt _ rfl
            have Hs := Lib.hid (all_succP s nmC j hlt)
            have hm : s[j] ∈ s := List.getElem_mem _
            obtain ⟨c, hc⟩ : ∃ c, c = s[j] := ⟨_, rfl⟩
            rw [← hc] at hb Hs hm
            clear hc
            have HY : Hid (nmC c = true → (s.take (j + 1)).all nmC = true) := fun q => by rw [Hs.out, Hall.out, q]; rfl
            have HN : Hid (nmC c = false → nameB 30 s = false) := fun hp => by
              rw [HT2.out, ← Bool.not_eq_true]
              intro q
              rw [List.all_eq_true.1 q c hm] at hp
              cases hp
            have HC : Hid (nmC c = (isLt c || decide (c = 32) || decide (c = 46) || decide (c = 45))) := rfl
            clear hm Hs
            rcases Bool.eq_false_or_eq_true (isLt c) with hl | hl
            · have Hl := Lib.hid hl
              have Hn := Lib.hid (HY.out (by rw [HC.out, hl]; rfl))
              clear hl
              go_wp2_with (first
                | (go_at_call 67; (with_reducible refine (isLt_lit c true _ Hl.out).mono ?_); rintro e w1 ⟨rfl, rfl⟩))
              go_round
              case rel => exact ⟨j + 1, by omega, by go_num, Hn⟩
              case measure => simp [intOf]; omega
            · have Hl := Lib.hid hl
              by_cases q1 : c = 32
              · have Hn := Lib.hid (HY.out (by rw [HC.out, hl, decide_eq_true q1]; rfl))
                have e1 : c.toNat = 32 := by rw [q1]; rfl
                have t1 : ((c.toNat : Int) != 32) = false := by rw [e1]; rfl
                clear hl q1 e1
                go_wp2_with (first
                  | (go_at_call 67; (with_reducible refine (isLt_lit c false _ Hl.out).mono ?_); rintro e w1 ⟨rfl, rfl⟩))
                go_round
                case rel => exact ⟨j + 1, by omega, by go_num, Hn⟩
                case measure => simp [intOf]; omega
              · have e1 : ¬ c.toNat = 32 := u8_ne (by decide) q1
                have t1 : ((c.toNat : Int) != 32) = true := by rw [bne_iff_ne]; omega
                by_cases q2 : c = 46
                · have Hn := Lib.hid (HY.out (by rw [HC.out, hl, decide_eq_true q2]; simp))
                  have e2 : c.toNat = 46 := by rw [q2]; rfl
                  have t2 : ((c.toNat : Int) != 46) = false := by rw [e2]; rfl
                  clear hl q1 q2 e2
                  go_wp2_with (first
                    | (go_at_call 67; (with_reducible refine (isLt_lit c false _ Hl.out).mono ?_); rintro e w1 ⟨rfl, rfl⟩))
                  go_round
                  case rel => exact ⟨j + 1, by omega, by go_num, Hn⟩
                  case measure => simp [intOf]; omega
                · have e2 : ¬ c.toNat = 46 := u8_ne (by decide) q2
                  have t2 : ((c.toNat : Int) != 46) = true := by rw [bne_iff_ne]; omega
                  by_cases q3 : c = 45
                  · have Hn := Lib.hid (HY.out (by rw [HC.out, hl, decide_eq_true q3]; simp))
                    have e3 : c.toNat = 45 := by rw [q3]; rfl
                    have t3 : ((c.toNat : Int) != 45) = false := by rw [e3]; rfl
                    clear hl q1 q2 q3 e3
                    go_wp2_with (first
                      | (go_at_call 67; (with_reducible refine (isLt_lit c false _ Hl.out).mono ?_); rintro e w1 ⟨rfl, rfl⟩))
                    go_round
                    case rel => exact ⟨j + 1, by omega, by go_num, Hn⟩
                    case measure => simp [intOf]; omega
                  · have Hn := Lib.hid (HN.out (by rw [HC.out, hl, decide_eq_false q1, decide_eq_false q2, decide_eq_false q3]; rfl))
                    have e3 : ¬ c.toNat = 45 := u8_ne (by decide) q3
                    have t3 : ((c.toNat : Int) != 45) = true := by rw [bne_iff_ne]; omega
                    clear hl q1 q2 q3
                    go_wp2_with (first
                      | (go_at_call 67; (with_reducible refine (isLt_lit c false _ Hl.out).mono ?_); rintro e w1 ⟨rfl, rfl⟩))
                    go_ret
                    exact ⟨by rw [Hn.out]; rfl, rfl⟩
          · obtain rfl : j = s.length := by omega
            have HN : Hid (nameB 30 s = true) := by rw [Hid, HT2.out]; have := Hall.out; rwa [List.take_length] at this
            go_wp2_with fail
            go_ret
            exact ⟨by rw [HN.out]; rfl, rfl⟩
      · have H0 := Lib.hid h0
        have HN : Hid (nameB 30 s = false) := by rw [Hid, HT.out, h0]; rfl
        clear h0 HT
        go_enter Tryz.func73, Tryz.ntmps73
        go_wp2_with (first
          | (go_at_call 67; (with_reducible refine (isLt_lit c0 false _ H0.out).mono ?_); rintro e w1 ⟨rfl, rfl⟩))
        go_ret
        exact ⟨by rw [HN.out]; rfl, rfl⟩
    · have HN : Hid (nameB 30 s = false) := by unfold Hid nameB; rw [decide_eq_false h2]; simp
      have d2 : (30 : Int) < (s.length : Int) := by omega
      clear h2
      go_enter Tryz.func73, Tryz.ntmps73
      go_wp2_with fail
      go_ret
      exact ⟨by rw [HN.out]; rfl, rfl⟩
  · have HN : Hid (nameB 30 s = false) := by unfold Hid nameB; rw [decide_eq_false h1]; simp
    have d2 : (s.length : Int) < 1 := by omega
    clear h1
    go_enter Tryz.func73, Tryz.ntmps73
    go_wp2_with fail
    go_ret
    exact ⟨by rw [HN.out]; rfl, rfl⟩
end Go.Proofs.YtnhdmnhfllecgaaGreatDoor
/- A region that draws its order: a forced head that may make memory, and a quiet rest that is walked once. Plain law over any program. -/
namespace Go.Proofs.YtnhdmnhfllecgaaGreatDoor
set_option linter.unusedVariables false
set_option linter.unusedSimpArgs false
open Go

/-- What is asked behind the head: the quiet rest. -/
def HdQ (P : Program) (ops : Array Oper) (l : List Oper) (Q : Exit → Act → World → Prop) (e : Exit) (a : Act) (w : World) : Prop :=
  match e with
  | .normal => wpQuiet P ops (fun w' => ∃ m, w' = w.drewN m) (fun a' => ∀ w', (∃ m, w' = w.drewN m) → Q .normal a' w') l a
  | e => Q e a w
theorem HdQ.on {P : Program} {ops : Array Oper} {l : List Oper} {Q : Exit → Act → World → Prop} {a : Act} {w : World}
    (h : wpQuiet P ops (fun w' => ∃ m, w' = w.drewN m) (fun a' => ∀ w', (∃ m, w' = w.drewN m) → Q .normal a' w') l a) : HdQ P ops l Q .normal a w := h
/-- The first n operations come one behind the other; the rest may be walked as it stands. -/
def headLex (md : Region.Mode) (ops : Array Oper) (m : Nat) : Nat → Nat → Array Bool → Bool
  | 0, k, listed => Region.lexFrom md ops m k listed
  | n + 1, k, listed => decide (Region.ready md ops listed = [k]) && headLex md ops m n (k + 1) (listed.setIfInBounds k true)
def headLexB (md : Region.Mode) (ops : Array Oper) (n : Nat) : Bool := Region.noSelect ops && decide (n ≤ ops.size) && headLex md ops (ops.size - n) n 0 (Array.replicate ops.size false)
theorem letsOut_hd {P : Program} {ops : Array Oper} {l : List Oper} {Q : Exit → Act → World → Prop} (h : LetsOut (HdQ P ops l Q)) : LetsOut Q := by
  exact h
theorem wp_hd {P : Program} {o : Oper} {ops : Array Oper} {l : List Oper} {Q : Exit → Act → World → Prop} {K : Act → World → Prop} {a : Act} {w : World} (hh : o.wp P a w K (HdQ P ops l Q)) : o.wp P a w K Q := by
  unfold Oper.wp at *
  generalize (execOp a.eval o).run P w = r at *
  cases r with
  | ok n w' =>
    cases n <;> simp only [Oper.upon] at hh ⊢ <;>
      first
        | exact hh
        | exact Calls.mono hh (fun e w'' he => by cases e <;> exact he)
  | halt x w' => cases x <;> simp only [Oper.upon] at hh ⊢ <;> exact hh
theorem wpAny_head {P : Program} {md : Region.Mode} {ops : Array Oper} {Q : Exit → Act → World → Prop} (hs : Region.noSelect ops = true) {t : List Oper} :
    ∀ (n : Nat) (l : List Oper) (k : Nat) (listed : Array Bool) (a : Act) (w : World), l.length = n → (∀ j, (l ++ t)[j]? = ops[k + j]?) →
    headLex md ops t.length n k listed = true → wpList P ops (HdQ P ops t Q) l a w → wpAny P md ops Q (n + t.length) listed a w
  | 0, [], k, listed, a, w, _, hl, hB, h => by
    rw [Nat.zero_add]
    exact wpAny_of_quiet (Q := fun a' => ∀ w', (∃ m, w' = w.drewN m) → Q .normal a' w') (fun _ w' hw' h => h w' hw') _ _ _ _ ⟨0, rfl⟩ (wpAnyQ_lex hs t k listed a (by simpa using hl) hB h)
  | n + 1, o :: l, k, listed, a, w, hn, hl, hB, h => by
    have h0 : ops[k]? = some o := by simpa using (hl 0).symm
    simp only [headLex, Bool.and_eq_true, decide_eq_true_eq] at hB
    rw [show n + 1 + t.length = (n + t.length) + 1 by omega]
    refine ⟨fun h1 => (by rw [hB.1] at h1; cases h1), fun i hi => ?_⟩
    rw [hB.1] at hi
    have hik : i = k := by simpa using hi
    subst hik
    have hw : wpOp P ops Q i (wpList P ops (HdQ P ops t Q) l) a w := by
      unfold wpOp
      simp only [h0]
      unfold wpList at h
      split
      · rename_i q
        rw [if_pos q] at h
        exact h.imp wp_hd (fun x => ⟨x.1, letsOut_hd x.2⟩)
      · rename_i q
        rw [if_neg q] at h
        exact h
    exact wpOp_mono (fun a' w' h' => wpAny_head hs n l (i + 1) _ a' w' (by simpa using hn) (fun j => by have := hl (j + 1); simpa [Nat.add_assoc, Nat.add_comm 1 j] using this) hB.2 h') hw
  | 0, o :: l, _, _, _, _, hn, _, _, _ => by simp at hn
  | n + 1, [], _, _, _, _, hn, _, _, _ => by simp at hn
theorem wp_region_head {P : Program} {id : Nat} {Q : Exit → Act → World → Prop} {a : Act} {w : World} {l : List Oper} (n : Nat) (hm : P.follows .mixedOrders = true) (hB : headLexB .any l.toArray n = true)
    (h : wpList P l.toArray (HdQ P l.toArray (l.drop n) Q) (l.take n) a w.drew) : (Code.region id l.toArray true).wp P Q a w := by
  simp only [headLexB, Bool.and_eq_true, decide_eq_true_eq] at hB
  obtain ⟨⟨hs, hn⟩, hB⟩ := hB
  have hn' : n ≤ l.length := by simpa using hn
  have hdl : (l.drop n).length = l.toArray.size - n := by simp
  have htl : (l.take n).length = n := by simp; omega
  refine wp_region_any hm ?_
  have := wpAny_head (md := .any) (Q := Q) (t := l.drop n) hs n (l.take n) 0 (Array.replicate l.toArray.size false) a w.drew htl (fun j => by rw [List.take_append_drop]; simp) (by rw [hdl]; exact hB) h
  rw [hdl, show n + (l.toArray.size - n) = l.toArray.size by omega] at this
  exact this
end Go.Proofs.YtnhdmnhfllecgaaGreatDoor
/- Patterns: the walk of ValidNames. -/
namespace Go.Proofs.YtnhdmnhfllecgaaGreatDoor
set_option linter.unusedVariables false
set_option linter.unusedSimpArgs false
open Go.RowKit Go.Maps

theorem Nms.ok_len {N : Nms} (h : N.ok) : N.all.length = 40 := by
  obtain ⟨a, b, c, d, e⟩ := h
  unfold Nms.all
  simp [a, b, c, d, e]
theorem sv_len (l : List (List UInt8)) : (sv l).length = l.length := by simp [sv]
theorem names_size {N : Nms} (h : N.ok) : (Tryz.prog.info? 26).map (·.size) = some (sv N.all).length := by
  rw [sv_len, Nms.ok_len h]
  kernel_rfl
theorem slR_inv (B : Nat) (v : Value) (y : DataW Unit × List MemPlace) (h : slR B v = some y) : ∃ c : Option Addr × Nat × Nat, v = .slice c.1 c.2.1 c.2.2 := by
  unfold slR at h
  split at h
  · rename_i b o n c
    exact ⟨(some ⟨b, o, none⟩, n, c), rfl⟩
  · exact ⟨(none, 0, 0), rfl⟩
  · cases h
/-- Where the list of a kind lies. -/
def offK (k : Int) : Nat := if k = 4 then 12 else if k = 5 then 0 else if k = 7 then 31 else if k = 8 then 24 else 38
theorem RdS.sub {ws a b c : List (List UInt8)} {R : Nat} {w : World} (h : RdS ws R 0 w) (e : ws = a ++ (b ++ c)) (o : Nat) (ho : o = a.length) : RdS b R o w := by
  subst ho
  refine ⟨h.1, fun i hi => ?_⟩
  have hl : a.length + i < ws.length := by rw [e]; simp; omega
  have := h.2 (a.length + i) hl
  rw [Nat.zero_add] at this
  rw [this]
  congr 3
  have e2 : ws[a.length + i]? = some b[i] := by
    rw [e, List.getElem?_append_right (by omega), show a.length + i - a.length = i by omega, List.getElem?_append_left hi]
    exact List.getElem?_eq_getElem hi
  have e3 : ws[a.length + i]? = some ws[a.length + i] := List.getElem?_eq_getElem hl
  rw [e3] at e2
  rw [Option.some.inj e2]
theorem names_at {N : Nms} (hN : N.ok) {B : Nat} {w : World} (h : RdS N.all B 0 w) {k : Int} (hk : k = 4 ∨ k = 5 ∨ k = 7 ∨ k = 8 ∨ k = 13) : RdS (lstK N k) B (offK k) w := by
  obtain ⟨a, b, c, d, e⟩ := hN
  rcases hk with rfl | rfl | rfl | rfl | rfl
  · exact h.sub (a := N.mo) (c := N.da ++ (N.sd ++ N.ha)) rfl 12 a.symm
  · exact h.sub (a := []) (c := N.sh ++ (N.da ++ (N.sd ++ N.ha))) rfl 0 rfl
  · exact h.sub (a := N.mo ++ (N.sh ++ N.da)) (c := N.ha) (by unfold Nms.all; simp [lstK]) 31 (by simp [a, b, c])
  · exact h.sub (a := N.mo ++ N.sh) (c := N.sd ++ N.ha) (by unfold Nms.all; simp [lstK]) 24 (by simp [a, b])
  · exact h.sub (a := N.mo ++ (N.sh ++ (N.da ++ N.sd))) (c := []) (by unfold Nms.all; simp [lstK]) 38 (by simp [a, b, c, d])
/-- What the map holds, by its keys. -/
theorem ls_entry {B : Nat} {D : DataW Unit} (hat : ∀ (z : Int) zd, D.atKey (.int .i64 z) zd = insAt (lsJ B) z zd) {N : Nms} (hN : N.ok) {x : Int} {ao : Option Addr} {n c : Nat} {y : DataW Unit × List MemPlace}
    (hR : slR B (.slice ao n c) = some y) (hy : ∀ zd, D.atKey (.int .i64 x) zd = y.1) :
    (x = 4 ∨ x = 5 ∨ x = 7 ∨ x = 8 ∨ x = 13) ∧ ao = some ⟨B, offK x, none⟩ ∧ n = (lstK N x).length ∧ c = n := by
  obtain ⟨a, b, c1, d, e⟩ := hN
  have hin : ∀ zd, insAt (lsJ B) x zd = y.1 := fun zd => (hat x zd).symm.trans (hy zd)
  have key : ∀ o m : Nat, y.1 = .agg [.lit (.int .i64 o), .lit (.int .i64 m)] → ao = some ⟨B, o, none⟩ ∧ n = m ∧ c = n := by
    intro o m hyy
    unfold slR at hR
    split at hR
    · rename_i b' o' n' c' heq
      split at hR
      · rename_i hc
        injection heq with e1 e2 e3
        have := Option.some.inj hR
        rw [← this] at hyy
        simp only at hyy
        injection hyy with hyy
        injection hyy with h1 h2
        injection h2 with h2 _
        injection h1 with h1
        injection h1 with _ h1
        injection h2 with h2
        injection h2 with _ h2
        have h1 : o' = o := by omega
        have h2 : n' = m := by omega
        subst h1; subst h2
        obtain ⟨hb, hcn⟩ := hc
        subst hb; subst hcn
        exact ⟨e1, e2, by rw [e2, e3]⟩
      · cases hR
    · have := Option.some.inj hR
      rw [← this] at hyy
      cases hyy
    · cases hR
  by_cases h4 : x = 4
  · subst h4
    obtain ⟨p, q, r⟩ := key 12 12 (hin .nil).symm
    exact ⟨.inl rfl, p, by rw [q]; exact b.symm, r⟩
  by_cases h5 : x = 5
  · subst h5
    obtain ⟨p, q, r⟩ := key 0 12 (hin .nil).symm
    exact ⟨.inr (.inl rfl), p, by rw [q]; exact a.symm, r⟩
  by_cases h7 : x = 7
  · subst h7
    obtain ⟨p, q, r⟩ := key 31 7 (hin .nil).symm
    exact ⟨.inr (.inr (.inl rfl)), p, by rw [q]; exact d.symm, r⟩
  by_cases h8 : x = 8
  · subst h8
    obtain ⟨p, q, r⟩ := key 24 7 (hin .nil).symm
    exact ⟨.inr (.inr (.inr (.inl rfl))), p, by rw [q]; exact c1.symm, r⟩
  by_cases h13 : x = 13
  · subst h13
    obtain ⟨p, q, r⟩ := key 38 2 (hin .nil).symm
    exact ⟨.inr (.inr (.inr (.inr rfl))), p, by rw [q]; exact e.symm, r⟩
  exfalso
  have hno : ∀ zd, insAt (lsJ B) x zd = zd := fun zd => by
    unfold insAt lsJ
    simp [Ne.symm h4, Ne.symm h5, Ne.symm h7, Ne.symm h8, Ne.symm h13]
  have h1 := (hno .nil).symm.trans (hin .nil)
  have h2 := (hno (.agg [])).symm.trans (hin (.agg []))
  rw [← h1] at h2
  cases h2
theorem zeroSl (w : World) : (zeroValue 54).run Tryz.prog w = .ok (.slice none 0 0) w := by simp [go_sem]
/-- The list of a kind, looked up. -/
theorem lookup_ls {B b : Nat} {D : DataW Unit} {w : World} (hown : w.ownsMap Tryz.prog 3 (slR B) b 5 D) (hat : ∀ (z : Int) zd, D.atKey (.int .i64 z) zd = insAt (lsJ B) z zd) {N : Nms} (hN : N.ok) {k : Int} (hk : k = 4 ∨ k = 5 ∨ k = 7 ∨ k = 8 ∨ k = 13) :
    (Instr.lookup 114 (.map (some b)) (.int .i64 k) false).run Tryz.prog w = .ok (.slice (some ⟨B, offK k, none⟩) (lstK N k).length (lstK N k).length) w := by
  have hwf : (Lit.int .i64 k).wf = true := by rcases hk with rfl | rfl | rfl | rfl | rfl <;> decide
  obtain ⟨v, ps, hrun, hR⟩ := hown.lookup mkeyI Tryz.underlying114 (zeroSl w) (zd := .nil) (zp := []) (by rfl) (keyOf_int_mk Tryz.underlying3 hwf)
  have hy : ∀ zd, D.atKey (.int .i64 k) zd = D.atKey (.int .i64 k) .nil := by
    intro zd
    rw [hat, hat]
    rcases hk with rfl | rfl | rfl | rfl | rfl <;> rfl
  obtain ⟨c, rfl⟩ := slR_inv B v _ hR
  obtain ⟨_, h1, h2, h3⟩ := ls_entry hat hN hR hy
  rw [hrun, h1, h3, h2]
end Go.Proofs.YtnhdmnhfllecgaaGreatDoor
/- Patterns, plainly: compiling, step by step. No program in sight. -/
namespace Go.Proofs.YtnhdmnhfllecgaaGreatDoor
set_option linter.unusedVariables false
set_option linter.unusedSimpArgs false

theorem runN_eq (c : UInt8) : ∀ (r : List UInt8) (m : Nat), (∀ k, k < m → r[k]? = some c) → r[m]? ≠ some c → runN c r = m
  | [], 0, _, _ => rfl
  | [], m + 1, h, _ => by have := h 0 (by omega); simp at this
  | x :: r, 0, _, h2 => by
    have : x ≠ c := fun e => h2 (by rw [e]; rfl)
    unfold runN
    rw [List.takeWhile_cons_of_neg (by simpa using this)]
    rfl
  | x :: r, m + 1, h1, h2 => by
    have e : x = c := by have := h1 0 (by omega); simpa using this
    have ih := runN_eq c r m (fun k hk => by have := h1 (k + 1) (by omega); simpa using this) (by simpa using h2)
    unfold runN at ih ⊢
    rw [List.takeWhile_cons_of_pos (by simpa using e), List.length_cons, ih]
theorem cmpL_end (i : Nat) (q : Bool) (out : List Prt) : cmpL [] i q out = if q then ([], 0, 4) else if decide (40 < out.length) || longB out then ([], 0, 5) else (out, 0, 0) := by
  rw [cmpL]
theorem cmpL_cons (c : UInt8) (r : List UInt8) (i : Nat) (q : Bool) (out : List Prt) : cmpL (c :: r) i q out =
    if prn c = false then ([], i + 1, 3)
    else if c = 39 ∧ r.head? = some 39 then cmpL r.tail (i + 2) q (addLit out 39)
    else if c = 39 then cmpL r (i + 1) (!q) out
    else if q = true ∨ isLt c = false then cmpL r (i + 1) q (addLit out c)
    else if (fld c (1 + runN c r)).k = 0 then ([], i + 1, 3)
    else cmpL (r.drop (runN c r)) (i + (1 + runN c r)) q (out ++ [fld c (1 + runN c r)]) := by
  rw [cmpL]
section
variable (s : List UInt8) (i : Nat) (h : i < s.length) (q : Bool) (out : List Prt)
include h
theorem drop_at : s.drop i = s[i] :: s.drop (i + 1) := List.drop_eq_getElem_cons h
theorem cmp_bad (hp : prn s[i] = false) : cmpL (s.drop i) i q out = ([], i + 1, 3) := by
  rw [drop_at s i h, cmpL_cons, if_pos hp]
omit h in
theorem head_drop : (s.drop (i + 1)).head? = s[i + 1]? := by rw [List.head?_drop]
theorem cmp_two (hp : prn s[i] = true) (hc : s[i] = 39) (h2 : s[i + 1]? = some 39) : cmpL (s.drop i) i q out = cmpL (s.drop (i + 2)) (i + 2) q (addLit out 39) := by
  rw [drop_at s i h, cmpL_cons, if_neg (by rw [hp]; simp), if_pos ⟨hc, by rw [head_drop s i]; exact h2⟩, List.tail_drop]
theorem cmp_quote (hp : prn s[i] = true) (hc : s[i] = 39) (h2 : s[i + 1]? ≠ some 39) : cmpL (s.drop i) i q out = cmpL (s.drop (i + 1)) (i + 1) (!q) out := by
  rw [drop_at s i h, cmpL_cons, if_neg (by rw [hp]; simp), if_neg (by rw [head_drop s i]; exact fun x => h2 x.2), if_pos hc]
theorem cmp_lit (hp : prn s[i] = true) (hc : s[i] ≠ 39) (h2 : q = true ∨ isLt s[i] = false) : cmpL (s.drop i) i q out = cmpL (s.drop (i + 1)) (i + 1) q (addLit out s[i]) := by
  rw [drop_at s i h, cmpL_cons, if_neg (by rw [hp]; simp), if_neg (fun x => hc x.1), if_neg hc, if_pos h2]
theorem cmp_fld (hp : prn s[i] = true) (hc : s[i] ≠ 39) (hq : q = false) (hl : isLt s[i] = true) (m : Nat) (hm : runN s[i] (s.drop (i + 1)) = m) :
    cmpL (s.drop i) i q out = if (fld s[i] (1 + m)).k = 0 then ([], i + 1, 3) else cmpL (s.drop (i + (1 + m))) (i + (1 + m)) q (out ++ [fld s[i] (1 + m)]) := by
  subst hm
  rw [drop_at s i h, cmpL_cons, if_neg (by rw [hp]; simp), if_neg (fun x => hc x.1), if_neg hc, if_neg (by rw [hq, hl]; simp), List.drop_drop]
  congr 3
  omega
end
theorem fld_text (c : UInt8) (n : Nat) : (fld c n).t = [] := by unfold fld; split <;> rfl
theorem longB_fld (l : List Prt) (c : UInt8) (n : Nat) : longB (l ++ [fld c n]) = longB l := by rw [longB_snoc, fld_text]; simp
theorem addLit_texts (l : List Prt) (b : UInt8) (m : Nat) (h : ∀ p ∈ l, p.t.length ≤ m) : ∀ p ∈ addLit l b, p.t.length ≤ m + 1 := by
  rcases snoc_cases l with rfl | ⟨r, x, rfl⟩
  · intro p hp
    rw [addLit_nil, List.mem_singleton] at hp
    subst hp
    simp
  · intro p hp
    rw [addLit_snoc] at hp
    have hx := h x (by simp)
    split at hp
    · rcases List.mem_append.1 hp with hp | hp
      · have := h p (by simp [hp]); omega
      · rw [List.mem_singleton] at hp; subst hp; simp; omega
    · rcases List.mem_append.1 hp with hp | hp
      · have := h p hp; omega
      · rw [List.mem_singleton] at hp; subst hp; simp
end Go.Proofs.YtnhdmnhfllecgaaGreatDoor
/- Locales: units and whole locales in a world; what is valid. -/
namespace Go.Proofs.YtnhdmnhfllecgaaGreatDoor
set_option linter.unusedVariables false
set_option linter.unusedSimpArgs false
open Go.RowKit

structure Uni where
  s : Int
  ao : Option Addr
  cap : Nat
  f : List Plu
def RdUn (l : List Uni) (R off : Nat) (w : World) : Prop := R < w.heap.size ∧ ∀ i (h : i < l.length),
  w.cell? ⟨R, off + i * 2, none⟩ = some (.int .i64 l[i].s) ∧ w.cell? ⟨R, off + i * 2 + 1, none⟩ = some (.slice l[i].ao l[i].f.length l[i].cap)
theorem RdUn.ext {l : List Uni} {R off : Nat} {w w' : World} (h : RdUn l R off w) (hE : Ext w w') : RdUn l R off w' := by
  refine ⟨hE.lt h.1, fun i hi => ?_⟩
  obtain ⟨a, b⟩ := h.2 i hi
  exact ⟨(hE.cells _ _ h.1).trans a, (hE.cells _ _ h.1).trans b⟩
/-- A slice of units. -/
def UnV (ao : Option Addr) (cap : Nat) (l : List Uni) (w : World) : Prop :=
  l.length ≤ cap ∧ cap ≤ maxLen ∧ (l ≠ [] → ∃ R off, ao = some ⟨R, off, none⟩ ∧ RdUn l R off w) ∧ ∀ u ∈ l, PlV u.ao u.cap u.f w
theorem UnV.ext {ao : Option Addr} {cap : Nat} {l : List Uni} {w w' : World} (h : UnV ao cap l w) (hE : Ext w w') : UnV ao cap l w' := by
  refine ⟨h.1, h.2.1, fun hl => ?_, fun u hu => (h.2.2.2 u hu).ext hE⟩
  obtain ⟨R, off, e, hR⟩ := h.2.2.1 hl
  exact ⟨R, off, e, hR.ext hE⟩
structure Loc where
  nm : List UInt8
  N : Nms
  pa : Option Addr
  pc : Nat
  P : List Plu
  oa : Option Addr
  oc : Nat
  O : List Plu
  ua : Option Addr
  uc : Nat
  U : List Uni
  pt : List UInt8
def Loc.vals (L : Loc) : List Value := .string ⟨L.nm.toArray⟩ :: (sv L.N.all ++ [.slice L.pa L.P.length L.pc, .slice L.oa L.O.length L.oc, .slice L.ua L.U.length L.uc, .string ⟨L.pt.toArray⟩])
/-- The locale's slices are there. -/
def LcV (L : Loc) (w : World) : Prop := L.N.ok ∧ PlV L.pa L.pc L.P w ∧ PlV L.oa L.oc L.O w ∧ UnV L.ua L.uc L.U w
theorem LcV.ext {L : Loc} {w w' : World} (h : LcV L w) (hE : Ext w w') : LcV L w' := ⟨h.1, h.2.1.ext hE, h.2.2.1.ext hE, h.2.2.2.ext hE⟩
theorem sv40 {N : Nms} (h : N.ok) : (sv N.all).length = 40 := by
  obtain ⟨h1, h2, h3, h4, h5⟩ := h
  unfold sv Nms.all
  simp [h1, h2, h3, h4, h5]
theorem Loc.len {L : Loc} (h : L.N.ok) : L.vals.length = 45 := by
  unfold Loc.vals
  rw [List.length_cons, List.length_append, sv40 h]; rfl
theorem Loc.v0 (L : Loc) : L.vals[0]? = some (.string ⟨L.nm.toArray⟩) := rfl
theorem Loc.at_ {L : Loc} (h : L.N.ok) (k : Nat) : L.vals[41 + k]? = ([.slice L.pa L.P.length L.pc, .slice L.oa L.O.length L.oc, .slice L.ua L.U.length L.uc, .string ⟨L.pt.toArray⟩] : List Value)[k]? := by
  unfold Loc.vals
  rw [show 41 + k = (40 + k) + 1 by omega, List.getElem?_cons_succ, List.getElem?_append_right (by rw [sv40 h]; omega), sv40 h]
  congr 1; omega
theorem Loc.vn {L : Loc} (h : L.N.ok) (k : Nat) (hk : k < 40) : L.vals[1 + k]? = (sv L.N.all)[k]? := by
  unfold Loc.vals
  rw [show 1 + k = k + 1 by omega, List.getElem?_cons_succ, List.getElem?_append_left (by rw [sv40 h]; exact hk)]
/-- What a locale's own block holds. -/
def LcB (L : Loc) (B : Nat) (w : World) : Prop := B < w.heap.size ∧ w.rangeAt B 0 L.vals
theorem LcB.ext {L : Loc} {B : Nat} {w w' : World} (h : LcB L B w) (hE : Ext w w') : LcB L B w' := ⟨hE.lt h.1, fun j v hv => (hE.cells _ _ h.1).trans (h.2 j v hv)⟩
theorem LcB.new (L : Loc) (w : World) (t : TypeId) : LcB L w.heap.size (w.alloc (.cells L.vals.toArray t)) := by
  refine ⟨by simp, fun j v hv => ?_⟩
  rw [Nat.zero_add, World.cell?_alloc_new]
  simpa using hv
theorem LcB.cells {L : Loc} {B : Nat} {w : World} (h : LcB L B w) (hN : L.N.ok) :
    w.cell? ⟨B, 0, none⟩ = some (.string ⟨L.nm.toArray⟩) ∧ w.cell? ⟨B, 41, none⟩ = some (.slice L.pa L.P.length L.pc) ∧ w.cell? ⟨B, 42, none⟩ = some (.slice L.oa L.O.length L.oc) ∧
    w.cell? ⟨B, 43, none⟩ = some (.slice L.ua L.U.length L.uc) ∧ w.cell? ⟨B, 44, none⟩ = some (.string ⟨L.pt.toArray⟩) := by
  have q : ∀ j v, L.vals[j]? = some v → w.cell? ⟨B, j, none⟩ = some v := fun j v hv => by have := h.2 j v hv; rwa [Nat.zero_add] at this
  exact ⟨q 0 _ (Loc.v0 L), q 41 _ (Loc.at_ hN 0), q 42 _ (Loc.at_ hN 1), q 43 _ (Loc.at_ hN 2), q 44 _ (Loc.at_ hN 3)⟩
theorem LcB.names {L : Loc} {B : Nat} {w : World} (h : LcB L B w) (hN : L.N.ok) : w.rangeAt B 1 (sv L.N.all) := by
  intro j v hv
  have hj : j < 40 := by
    have := (List.getElem?_eq_some_iff.1 hv).1
    rwa [sv40 hN] at this
  have := h.2 (1 + j) v (by rw [Loc.vn hN j hj]; exact hv)
  rwa [Nat.zero_add] at this
/-- A unit at its place. -/
def unAt (P : List Plu) (l : List Uni) (i : Nat) : Prop := ∀ h : i < l.length, (∀ h0 : 0 < i, l[i].s < (l[i - 1]'(by omega)).s) ∧ l[i].f.length = P.length ∧
  ∀ k (hk : k < l[i].f.length) (hp : k < P.length), (l[i].f[k]).c = (P[k]).c ∧ formB (l[i].f[k]).r = true
def uHead (l : List Uni) : Prop := ∃ h : 1 ≤ l.length, l.length ≤ 10 ∧ (l[0]'(by omega)).s ≤ 1099511627776 ∧ (l[l.length - 1]'(by omega)).s = 1
open Classical in
noncomputable def unB (P : List Plu) (l : List Uni) : Bool := decide (uHead l ∧ ∀ i, i < l.length → unAt P l i)
theorem unB_h {P : List Plu} {l : List Uni} (h : ¬ uHead l) : unB P l = false := by
  unfold unB; exact @decide_eq_false _ (_) fun q => h q.1
theorem unB_a {P : List Plu} {l : List Uni} (i : Nat) (hi : i < l.length) (h : ¬ unAt P l i) : unB P l = false := by
  unfold unB; exact @decide_eq_false _ (_) fun q => h (q.2 i hi)
theorem unB_y {P : List Plu} {l : List Uni} (h : uHead l) (h2 : ∀ i, i < l.length → unAt P l i) : unB P l = true := by
  unfold unB; exact @decide_eq_true _ (_) ⟨h, h2⟩
/-- No category twice. -/
def dsAt (P : List Plu) (i : Nat) : Prop := ∀ h : i < P.length, ∀ k (hk : k < i), (P[k]'(by omega)).c ≠ P[i].c
open Classical in
noncomputable def dsB (P : List Plu) : Bool := decide (∀ i, i < P.length → dsAt P i)
noncomputable def validLB (L : Loc) : Bool := decide ((cmpT L.pt).2.2 = 0) && zNameB L.nm && nmOk L.N && rulB wordB L.P && rulB suffB L.O && dsB L.P && unB L.P L.U
/-- Texts of a moderate length everywhere. -/
def shL (L : Loc) : Prop := shP L.P ∧ shP L.O ∧ (∀ u ∈ L.U, shP u.f) ∧ L.nm.length ≤ 7000 ∧ L.pt.length ≤ 7000
end Go.Proofs.YtnhdmnhfllecgaaGreatDoor
