/- Patterns: the walk of field. -/
import Derived.Test.YtnhdmnhfllecgaaGreatDoorQ06
import Derived.Test.YtnhdmnhfllecgaaGreatDoorQ15
import Derived.Test.YtnhdmnhfllecgaaGreatDoorQ14
import Derived.Test.YtnhdmnhfllecgaaGreatDoorQ04
import Derived.Test.YtnhdmnhfllecgaaGreatDoorShelf
import Derived.StringKeys
namespace Go.Proofs.YtnhdmnhfllecgaaGreatDoor
set_option linter.unusedVariables false
set_option linter.unusedSimpArgs false
open Go.RowKit Go.Maps

theorem mkeyB : Keyed Tryz.prog 5 := int_keyed Tryz.underlying5
theorem mkeyS : Keyed Tryz.prog 9 := string_keyed Tryz.underlying9
theorem zeroI (w : World) : (zeroValue 3).run Tryz.prog w = .ok (.int .i64 0) w := by simp [go_sem]
theorem key_s (l : List UInt8) (h : l.length ≤ 1000) : keyOf Tryz.prog 9 (.string ⟨l.toArray⟩) = some (.string l) := by
  have := WideMaps.keyOf_string_mk (P := Tryz.prog) (k := 9) Tryz.underlying9 (s := ⟨l.toArray⟩) (by show l.length ≤ _; unfold maxLen; omega)
  exact this
theorem repeat_one (c : UInt8) : ∀ n, Lib.repeatL [c] n = List.replicate n c
  | 0 => rfl
  | n + 1 => by rw [Lib.repeatL, repeat_one c n]; rfl
theorem rep_c (c : UInt8) (n : Nat) (w : World) (hn : n ≤ 1000000) : Calls Tryz.prog 105 #[.string ⟨#[c]⟩, .int .i64 (n : Int)] w fun e w' => e = .returned (.string ⟨(List.replicate n c).toArray⟩) ∧ Ext w w' := by
  have h := Tryz.strings_Repeat ⟨#[c]⟩ n w (by omega) (by show 1 * n ≤ _; omega)
  rw [show (⟨#[c]⟩ : ByteArray).data.toList = [c] from rfl, repeat_one] at h
  exact h
theorem rep_x (c : UInt8) (n : Nat) (L : List UInt8) (w : World) (hn : n ≤ 1000000) (hL : List.replicate n c = L) : Calls Tryz.prog 105 #[.string ⟨#[c]⟩, .int .i64 (n : Int)] w fun e w' => e = .returned (.string ⟨L.toArray⟩) ∧ Ext w w' := by
  rw [← hL]; exact rep_c c n w hn
theorem enc_c (c : UInt8) (h : c.toNat < 128) : Utf8.encode (c.toNat : Int) = ⟨#[c]⟩ := by
  unfold Utf8.encode
  have hv : Utf8.valid (c.toNat : Int) = true := by simp [Utf8.valid]; omega
  simp only [hv, if_true, Int.toNat_natCast]
  rw [if_pos (by omega)]
  simp
theorem lt_small {c : UInt8} (h : isLt c = true) : c.toNat < 128 := by
  unfold isLt at h
  simp only [Bool.or_eq_true, decide_eq_true_eq] at h
  omega
set_option maxRecDepth 100000 in
set_option maxHeartbeats 1000000 in
theorem field_num (c : UInt8) (n : Nat) (w : World) (hl : isLt c = true) (hn : n ≤ 1000) (h0 : numK c ≠ 0) (h1 : n ≤ fullN (numK c)) :
    Calls Tryz.prog 68 #[.int .u8 (c.toNat : Int), .int .i64 (n : Int)] w fun e w' => e = .returned (.tuple #[.agg #[.int .i64 (numK c : Int), .int .i64 (n : Int), .string ⟨#[]⟩], .bool true]) ∧ Ext w w' := by
  have hhas : Maps.has smD (.int .u8 (c.toNat : Int)) = true := by rw [(smD_at c).2]; exact decide_eq_true h0
  have hat := (smD_at c).1
  have hk : (Lit.int .u8 (c.toNat : Int)).wf = true := by
    have := c.toNat_lt
    simp [Lit.wf, IntKind.min, IntKind.max, IntKind.bits, IntKind.signed]; omega
  obtain ⟨k, hkk⟩ : ∃ k, k = numK c := ⟨_, rfl⟩
  rw [← hkk] at h0 h1 hat ⊢
  have Hat := Lib.hid hat
  have Hhas := Lib.hid hhas
  have Hk := Lib.hid hk
  have HF : Hid (fullZ (k : Int) = (fullN k : Int)) := fullZ_nat k
  obtain ⟨f, hf⟩ : ∃ f, f = fullN k := ⟨_, rfl⟩
  rw [← hf] at h1 HF
  clear hkk hat hhas hk hf
  have hmm := @run_makeMap Tryz.prog
  have sa0 := World.ownsMap_made (H := Unit) (w.alloc (.cells #[Value.int .i64 0, Value.int .i64 0, Value.string ⟨#[]⟩] 110)) Tryz.prog 5 (plainElem Tryz.prog 3)
  rw [show (w.alloc (.cells #[Value.int .i64 0, Value.int .i64 0, Value.string ⟨#[]⟩] 110)).heap.size = w.heap.size + 1 by simp] at sa0
  go_enter Tryz.func68, Tryz.ntmps68
  go_wp2_with (first
    | (refine wpList_insert_own _ rfl (.tmp 10) (.const (.int .u8 121)) (.const (.int .i64 2)) 132 rfl 5 3 mkeyB Tryz.underlying132 _ _ 0 _ rfl sa0 (by decide) _ _ _ rfl rfl (keyOf_int_mk Tryz.underlying5 (by decide)) _ [] (plainElem_int Tryz.underlying3 (by decide)) ?_; intro saw1 sa1 sag1)
          | (refine wpList_insert_own _ rfl (.tmp 10) (.const (.int .u8 77)) (.const (.int .i64 3)) 132 rfl 5 3 mkeyB Tryz.underlying132 _ _ 1 _ rfl sa1 (by decide) _ _ _ rfl rfl (keyOf_int_mk Tryz.underlying5 (by decide)) _ [] (plainElem_int Tryz.underlying3 (by decide)) ?_; intro saw2 sa2 sag2)
          | (refine wpList_insert_own _ rfl (.tmp 10) (.const (.int .u8 100)) (.const (.int .i64 6)) 132 rfl 5 3 mkeyB Tryz.underlying132 _ _ 2 _ rfl sa2 (by decide) _ _ _ rfl rfl (keyOf_int_mk Tryz.underlying5 (by decide)) _ [] (plainElem_int Tryz.underlying3 (by decide)) ?_; intro saw3 sa3 sag3)
          | (refine wpList_insert_own _ rfl (.tmp 10) (.const (.int .u8 72)) (.const (.int .i64 9)) 132 rfl 5 3 mkeyB Tryz.underlying132 _ _ 3 _ rfl sa3 (by decide) _ _ _ rfl rfl (keyOf_int_mk Tryz.underlying5 (by decide)) _ [] (plainElem_int Tryz.underlying3 (by decide)) ?_; intro saw4 sa4 sag4)
          | (refine wpList_insert_own _ rfl (.tmp 10) (.const (.int .u8 104)) (.const (.int .i64 10)) 132 rfl 5 3 mkeyB Tryz.underlying132 _ _ 4 _ rfl sa4 (by decide) _ _ _ rfl rfl (keyOf_int_mk Tryz.underlying5 (by decide)) _ [] (plainElem_int Tryz.underlying3 (by decide)) ?_; intro saw5 sa5 sag5)
          | (refine wpList_insert_own _ rfl (.tmp 10) (.const (.int .u8 109)) (.const (.int .i64 11)) 132 rfl 5 3 mkeyB Tryz.underlying132 _ _ 5 _ rfl sa5 (by decide) _ _ _ rfl rfl (keyOf_int_mk Tryz.underlying5 (by decide)) _ [] (plainElem_int Tryz.underlying3 (by decide)) ?_; intro saw6 sa6 sag6)
          | (refine wpList_insert_own _ rfl (.tmp 10) (.const (.int .u8 115)) (.const (.int .i64 12)) 132 rfl 5 3 mkeyB Tryz.underlying132 _ _ 6 _ rfl sa6 (by decide) _ _ _ rfl rfl (keyOf_int_mk Tryz.underlying5 (by decide)) _ [] (plainElem_int Tryz.underlying3 (by decide)) ?_; intro saw7 sa7 sag7; have hE7 : Ext (w.alloc (.cells #[Value.int .i64 0, Value.int .i64 0, Value.string ⟨#[]⟩] 110)) saw7 := ext_grown_at (ext_grown_at (ext_grown_at (ext_grown_at (ext_grown_at (ext_grown_at (ext_grown_at ((Ext.refl _).alloc _) sag1 (by simp)) sag2 (by simp)) sag3 (by simp)) sag4 (by simp)) sag5 (by simp)) sag6 (by simp)) sag7 (by simp); have sas : saw7.ownsMap Tryz.prog 5 (plainElem Tryz.prog 3) (w.heap.size + 1) 7 smD := sa7; have hz : w.heap.size < saw7.heap.size := Nat.lt_of_succ_lt sas.lt; have hc := hE7.cells; have hf := hE7.frozens; clear sa0 sa1 sa2 sa3 sa4 sa5 sa6 sa7 sag1 sag2 sag3 sag4 sag5 sag6 sag7)
    | (at_lookup; refine wpList_lookup_own_ok_int _ rfl _ _ 132 rfl 5 3 .i64 mkeyB Tryz.underlying132 Tryz.underlying3 (zeroI _) _ 7 smD rfl sas _ _ rfl (keyOf_int_mk Tryz.underlying5 Hk.out) ?_; intro cc hat hwc; rw [Hat.out] at hat; injection hat with hat; injection hat with _ hat; subst hat; rw [Hhas.out])
    | (go_at_call 104; (with_reducible refine (full_c _ _).mono ?_); (with_reducible rw [HF.out]); rintro e w1 ⟨rfl, rfl⟩)
    | go_in)
  refine bodyPost_ret (v := .tuple #[.agg #[.int .i64 (k : Int), .int .i64 (n : Int), .string ⟨#[]⟩], .bool true]) ?_ rfl ⟨rfl, ?_⟩
  · simp [results, Tryz.results68, go_sem, hc, hf, hz]
  · iterate 3 refine Ext.setCell ?_ (by simp) _
    exact ((Ext.refl w).alloc _).trans hE7
set_option maxRecDepth 100000 in
set_option maxHeartbeats 1000000 in
theorem field_nam (c : UInt8) (n : Nat) (w : World) (hl : isLt c = true) (hn : n ≤ 1000) (h0 : numK c = 0) :
    Calls Tryz.prog 68 #[.int .u8 (c.toNat : Int), .int .i64 (n : Int)] w fun e w' => e = .returned (.tuple #[.agg #[.int .i64 (namK c n : Int), .int .i64 0, .string ⟨#[]⟩], .bool (decide (0 < namK c n))]) ∧ Ext w w' := by
  have hhas : Maps.has smD (.int .u8 (c.toNat : Int)) = false := by rw [(smD_at c).2]; exact decide_eq_false (by simpa using h0)
  have hat := (smD_at c).1
  have hk : (Lit.int .u8 (c.toNat : Int)).wf = true := by
    have := c.toNat_lt
    simp [Lit.wf, IntKind.min, IntKind.max, IntKind.bits, IntKind.signed]; omega
  have hc128 := lt_small hl
  have hen := enc_c c hc128
  obtain ⟨k, hkk⟩ : ∃ k, k = numK c := ⟨_, rfl⟩
  rw [← hkk] at h0 hat
  have Hat := Lib.hid hat
  have Hhas := Lib.hid hhas
  have Hk := Lib.hid hk
  have Hatn := Lib.hid (nmD_at c n)
  have Hsz := Lib.hid (key_s (List.replicate n c) (by rw [List.length_replicate]; exact hn))
  obtain ⟨v, hv⟩ : ∃ v, v = namK c n := ⟨_, rfl⟩
  rw [← hv] at Hatn ⊢
  obtain ⟨L, hL⟩ : ∃ L, List.replicate n c = L := ⟨_, rfl⟩
  rw [hL] at Hatn Hsz
  have HL := Lib.hid hL
  clear hkk hat hhas hk hv hL
  have hmm := @run_makeMap Tryz.prog
  have sa0 := World.ownsMap_made (H := Unit) (w.alloc (.cells #[Value.int .i64 0, Value.int .i64 0, Value.string ⟨#[]⟩] 110)) Tryz.prog 5 (plainElem Tryz.prog 3)
  rw [show (w.alloc (.cells #[Value.int .i64 0, Value.int .i64 0, Value.string ⟨#[]⟩] 110)).heap.size = w.heap.size + 1 by simp] at sa0
  go_enter Tryz.func68, Tryz.ntmps68
  go_wp2_with (first
    | (refine wpList_insert_own _ rfl (.tmp 10) (.const (.int .u8 121)) (.const (.int .i64 2)) 132 rfl 5 3 mkeyB Tryz.underlying132 _ _ 0 _ rfl sa0 (by decide) _ _ _ rfl rfl (keyOf_int_mk Tryz.underlying5 (by decide)) _ [] (plainElem_int Tryz.underlying3 (by decide)) ?_; intro saw1 sa1 sag1)
          | (refine wpList_insert_own _ rfl (.tmp 10) (.const (.int .u8 77)) (.const (.int .i64 3)) 132 rfl 5 3 mkeyB Tryz.underlying132 _ _ 1 _ rfl sa1 (by decide) _ _ _ rfl rfl (keyOf_int_mk Tryz.underlying5 (by decide)) _ [] (plainElem_int Tryz.underlying3 (by decide)) ?_; intro saw2 sa2 sag2)
          | (refine wpList_insert_own _ rfl (.tmp 10) (.const (.int .u8 100)) (.const (.int .i64 6)) 132 rfl 5 3 mkeyB Tryz.underlying132 _ _ 2 _ rfl sa2 (by decide) _ _ _ rfl rfl (keyOf_int_mk Tryz.underlying5 (by decide)) _ [] (plainElem_int Tryz.underlying3 (by decide)) ?_; intro saw3 sa3 sag3)
          | (refine wpList_insert_own _ rfl (.tmp 10) (.const (.int .u8 72)) (.const (.int .i64 9)) 132 rfl 5 3 mkeyB Tryz.underlying132 _ _ 3 _ rfl sa3 (by decide) _ _ _ rfl rfl (keyOf_int_mk Tryz.underlying5 (by decide)) _ [] (plainElem_int Tryz.underlying3 (by decide)) ?_; intro saw4 sa4 sag4)
          | (refine wpList_insert_own _ rfl (.tmp 10) (.const (.int .u8 104)) (.const (.int .i64 10)) 132 rfl 5 3 mkeyB Tryz.underlying132 _ _ 4 _ rfl sa4 (by decide) _ _ _ rfl rfl (keyOf_int_mk Tryz.underlying5 (by decide)) _ [] (plainElem_int Tryz.underlying3 (by decide)) ?_; intro saw5 sa5 sag5)
          | (refine wpList_insert_own _ rfl (.tmp 10) (.const (.int .u8 109)) (.const (.int .i64 11)) 132 rfl 5 3 mkeyB Tryz.underlying132 _ _ 5 _ rfl sa5 (by decide) _ _ _ rfl rfl (keyOf_int_mk Tryz.underlying5 (by decide)) _ [] (plainElem_int Tryz.underlying3 (by decide)) ?_; intro saw6 sa6 sag6)
          | (refine wpList_insert_own _ rfl (.tmp 10) (.const (.int .u8 115)) (.const (.int .i64 12)) 132 rfl 5 3 mkeyB Tryz.underlying132 _ _ 6 _ rfl sa6 (by decide) _ _ _ rfl rfl (keyOf_int_mk Tryz.underlying5 (by decide)) _ [] (plainElem_int Tryz.underlying3 (by decide)) ?_; intro saw7 sa7 sag7; have hE7 : Ext (w.alloc (.cells #[Value.int .i64 0, Value.int .i64 0, Value.string ⟨#[]⟩] 110)) saw7 := ext_grown_at (ext_grown_at (ext_grown_at (ext_grown_at (ext_grown_at (ext_grown_at (ext_grown_at ((Ext.refl _).alloc _) sag1 (by simp)) sag2 (by simp)) sag3 (by simp)) sag4 (by simp)) sag5 (by simp)) sag6 (by simp)) sag7 (by simp); have sas : saw7.ownsMap Tryz.prog 5 (plainElem Tryz.prog 3) (w.heap.size + 1) 7 smD := sa7; have hz : w.heap.size < saw7.heap.size := Nat.lt_of_succ_lt sas.lt; have hc := hE7.cells; have hf := hE7.frozens; clear sa0 sa1 sa2 sa3 sa4 sa5 sa6 sa7 sag1 sag2 sag3 sag4 sag5 sag6 sag7; have sb0 := World.ownsMap_made (H := Unit) saw7 Tryz.prog 9 (plainElem Tryz.prog 3))
    | (refine wpList_insert_own _ rfl (.tmp 28) (.const (.string ⟨#[77, 77, 77]⟩)) (.const (.int .i64 4)) 133 rfl 9 3 mkeyS Tryz.underlying133 _ _ 0 _ rfl sb0 (by decide) _ _ _ rfl rfl (key_s [77, 77, 77] (by decide)) _ [] (plainElem_int Tryz.underlying3 (by decide)) ?_; intro sbw1 sb1 sbg1)
          | (refine wpList_insert_own _ rfl (.tmp 28) (.const (.string ⟨#[77, 77, 77, 77]⟩)) (.const (.int .i64 5)) 133 rfl 9 3 mkeyS Tryz.underlying133 _ _ 1 _ rfl sb1 (by decide) _ _ _ rfl rfl (key_s [77, 77, 77, 77] (by decide)) _ [] (plainElem_int Tryz.underlying3 (by decide)) ?_; intro sbw2 sb2 sbg2)
          | (refine wpList_insert_own _ rfl (.tmp 28) (.const (.string ⟨#[69, 69, 69]⟩)) (.const (.int .i64 7)) 133 rfl 9 3 mkeyS Tryz.underlying133 _ _ 2 _ rfl sb2 (by decide) _ _ _ rfl rfl (key_s [69, 69, 69] (by decide)) _ [] (plainElem_int Tryz.underlying3 (by decide)) ?_; intro sbw3 sb3 sbg3)
          | (refine wpList_insert_own _ rfl (.tmp 28) (.const (.string ⟨#[69, 69, 69, 69]⟩)) (.const (.int .i64 8)) 133 rfl 9 3 mkeyS Tryz.underlying133 _ _ 3 _ rfl sb3 (by decide) _ _ _ rfl rfl (key_s [69, 69, 69, 69] (by decide)) _ [] (plainElem_int Tryz.underlying3 (by decide)) ?_; intro sbw4 sb4 sbg4)
          | (refine wpList_insert_own _ rfl (.tmp 28) (.const (.string ⟨#[97]⟩)) (.const (.int .i64 13)) 133 rfl 9 3 mkeyS Tryz.underlying133 _ _ 4 _ rfl sb4 (by decide) _ _ _ rfl rfl (key_s [97] (by decide)) _ [] (plainElem_int Tryz.underlying3 (by decide)) ?_; intro sbw5 sb5 sbg5)
          | (refine wpList_insert_own _ rfl (.tmp 28) (.const (.string ⟨#[90]⟩)) (.const (.int .i64 14)) 133 rfl 9 3 mkeyS Tryz.underlying133 _ _ 5 _ rfl sb5 (by decide) _ _ _ rfl rfl (key_s [90] (by decide)) _ [] (plainElem_int Tryz.underlying3 (by decide)) ?_; intro sbw6 sb6 sbg6)
          | (refine wpList_insert_own _ rfl (.tmp 28) (.const (.string ⟨#[122]⟩)) (.const (.int .i64 15)) 133 rfl 9 3 mkeyS Tryz.underlying133 _ _ 6 _ rfl sb6 (by decide) _ _ _ rfl rfl (key_s [122] (by decide)) _ [] (plainElem_int Tryz.underlying3 (by decide)) ?_; intro sbw7 sb7 sbg7; have hE14 : Ext saw7 sbw7 := ext_grown_at (ext_grown_at (ext_grown_at (ext_grown_at (ext_grown_at (ext_grown_at (ext_grown_at ((Ext.refl _).alloc _) sbg1 (Nat.le_refl _)) sbg2 (Nat.le_refl _)) sbg3 (Nat.le_refl _)) sbg4 (Nat.le_refl _)) sbg5 (Nat.le_refl _)) sbg6 (Nat.le_refl _)) sbg7 (Nat.le_refl _); have sbs : sbw7.ownsMap Tryz.prog 9 (plainElem Tryz.prog 3) saw7.heap.size 7 nmD := sb7; clear sb0 sb1 sb2 sb3 sb4 sb5 sb6 sb7 sbg1 sbg2 sbg3 sbg4 sbg5 sbg6 sbg7)
    | (at_lookup; refine wpList_lookup_own_ok_int _ rfl _ _ 132 rfl 5 3 .i64 mkeyB Tryz.underlying132 Tryz.underlying3 (zeroI _) _ 7 smD rfl sas _ _ rfl (keyOf_int_mk Tryz.underlying5 Hk.out) ?_; intro cc hat hwc; rw [Hat.out] at hat; injection hat with hat; injection hat with _ hat; subst hat; rw [Hhas.out])
    | (go_at_call 105; (with_reducible refine (rep_x c n L _ (by omega) HL.out).mono ?_); rintro e w2 ⟨rfl, hE2⟩; have sbk := sbs.kept (grown_ext hE2 none) (by simp); clear hc hf; have hE9 := hE7.trans (hE14.trans hE2); have hc := hE9.cells; have hf := hE9.frozens; have hz2 : w.heap.size < w2.heap.size := Nat.lt_of_lt_of_le hz (hE14.trans hE2).size)
    | (at_lookup; refine wpList_lookup_own_int _ rfl _ _ 133 rfl 9 3 .i64 mkeyS Tryz.underlying133 Tryz.underlying3 (zeroI _) _ 7 nmD rfl sbk _ _ rfl Hsz.out ?_; intro cd hatd hwcd; rw [Hatn.out] at hatd; injection hatd with hatd; injection hatd with _ hatd; subst hatd)
    | go_in)
  refine bodyPost_ret (v := .tuple #[.agg #[.int .i64 (v : Int), .int .i64 0, .string ⟨#[]⟩], .bool (decide (0 < v))]) ?_ rfl ⟨rfl, ?_⟩
  · simp [results, Tryz.results68, go_sem, hc, hf, hz2]
  · iterate 3 refine Ext.setCell ?_ (by simp) _
    exact ((Ext.refl w).alloc _).trans hE9
set_option maxRecDepth 100000 in
set_option maxHeartbeats 1000000 in
theorem field_big (c : UInt8) (n : Nat) (w : World) (hl : isLt c = true) (hn : n ≤ 1000) (h0 : numK c ≠ 0) (h1 : ¬ n ≤ fullN (numK c)) :
    Calls Tryz.prog 68 #[.int .u8 (c.toNat : Int), .int .i64 (n : Int)] w fun e w' => e = .returned (.tuple #[.agg #[.int .i64 (namK c n : Int), .int .i64 0, .string ⟨#[]⟩], .bool (decide (0 < namK c n))]) ∧ Ext w w' := by
  have hhas : Maps.has smD (.int .u8 (c.toNat : Int)) = true := by rw [(smD_at c).2]; exact decide_eq_true h0
  have hat := (smD_at c).1
  have hk : (Lit.int .u8 (c.toNat : Int)).wf = true := by
    have := c.toNat_lt
    simp [Lit.wf, IntKind.min, IntKind.max, IntKind.bits, IntKind.signed]; omega
  have hc128 := lt_small hl
  have hen := enc_c c hc128
  obtain ⟨k, hkk⟩ : ∃ k, k = numK c := ⟨_, rfl⟩
  rw [← hkk] at h0 h1 hat
  have HF : Hid (fullZ (k : Int) = (fullN k : Int)) := fullZ_nat k
  obtain ⟨f, hf⟩ : ∃ f, f = fullN k := ⟨_, rfl⟩
  rw [← hf] at h1 HF
  have h2 : ¬ (n : Int) ≤ (f : Int) := by omega
  have Hat := Lib.hid hat
  have Hhas := Lib.hid hhas
  have Hk := Lib.hid hk
  have Hatn := Lib.hid (nmD_at c n)
  have Hsz := Lib.hid (key_s (List.replicate n c) (by rw [List.length_replicate]; exact hn))
  obtain ⟨v, hv⟩ : ∃ v, v = namK c n := ⟨_, rfl⟩
  rw [← hv] at Hatn ⊢
  obtain ⟨L, hL⟩ : ∃ L, List.replicate n c = L := ⟨_, rfl⟩
  rw [hL] at Hatn Hsz
  have HL := Lib.hid hL
  clear hkk hat hhas hk hv hL hf
  have hmm := @run_makeMap Tryz.prog
  have sa0 := World.ownsMap_made (H := Unit) (w.alloc (.cells #[Value.int .i64 0, Value.int .i64 0, Value.string ⟨#[]⟩] 110)) Tryz.prog 5 (plainElem Tryz.prog 3)
  rw [show (w.alloc (.cells #[Value.int .i64 0, Value.int .i64 0, Value.string ⟨#[]⟩] 110)).heap.size = w.heap.size + 1 by simp] at sa0
  go_enter Tryz.func68, Tryz.ntmps68
  go_wp2_with (first
    | (refine wpList_insert_own _ rfl (.tmp 10) (.const (.int .u8 121)) (.const (.int .i64 2)) 132 rfl 5 3 mkeyB Tryz.underlying132 _ _ 0 _ rfl sa0 (by decide) _ _ _ rfl rfl (keyOf_int_mk Tryz.underlying5 (by decide)) _ [] (plainElem_int Tryz.underlying3 (by decide)) ?_; intro saw1 sa1 sag1)
          | (refine wpList_insert_own _ rfl (.tmp 10) (.const (.int .u8 77)) (.const (.int .i64 3)) 132 rfl 5 3 mkeyB Tryz.underlying132 _ _ 1 _ rfl sa1 (by decide) _ _ _ rfl rfl (keyOf_int_mk Tryz.underlying5 (by decide)) _ [] (plainElem_int Tryz.underlying3 (by decide)) ?_; intro saw2 sa2 sag2)
          | (refine wpList_insert_own _ rfl (.tmp 10) (.const (.int .u8 100)) (.const (.int .i64 6)) 132 rfl 5 3 mkeyB Tryz.underlying132 _ _ 2 _ rfl sa2 (by decide) _ _ _ rfl rfl (keyOf_int_mk Tryz.underlying5 (by decide)) _ [] (plainElem_int Tryz.underlying3 (by decide)) ?_; intro saw3 sa3 sag3)
          | (refine wpList_insert_own _ rfl (.tmp 10) (.const (.int .u8 72)) (.const (.int .i64 9)) 132 rfl 5 3 mkeyB Tryz.underlying132 _ _ 3 _ rfl sa3 (by decide) _ _ _ rfl rfl (keyOf_int_mk Tryz.underlying5 (by decide)) _ [] (plainElem_int Tryz.underlying3 (by decide)) ?_; intro saw4 sa4 sag4)
          | (refine wpList_insert_own _ rfl (.tmp 10) (.const (.int .u8 104)) (.const (.int .i64 10)) 132 rfl 5 3 mkeyB Tryz.underlying132 _ _ 4 _ rfl sa4 (by decide) _ _ _ rfl rfl (keyOf_int_mk Tryz.underlying5 (by decide)) _ [] (plainElem_int Tryz.underlying3 (by decide)) ?_; intro saw5 sa5 sag5)
          | (refine wpList_insert_own _ rfl (.tmp 10) (.const (.int .u8 109)) (.const (.int .i64 11)) 132 rfl 5 3 mkeyB Tryz.underlying132 _ _ 5 _ rfl sa5 (by decide) _ _ _ rfl rfl (keyOf_int_mk Tryz.underlying5 (by decide)) _ [] (plainElem_int Tryz.underlying3 (by decide)) ?_; intro saw6 sa6 sag6)
          | (refine wpList_insert_own _ rfl (.tmp 10) (.const (.int .u8 115)) (.const (.int .i64 12)) 132 rfl 5 3 mkeyB Tryz.underlying132 _ _ 6 _ rfl sa6 (by decide) _ _ _ rfl rfl (keyOf_int_mk Tryz.underlying5 (by decide)) _ [] (plainElem_int Tryz.underlying3 (by decide)) ?_; intro saw7 sa7 sag7; have hE7 : Ext (w.alloc (.cells #[Value.int .i64 0, Value.int .i64 0, Value.string ⟨#[]⟩] 110)) saw7 := ext_grown_at (ext_grown_at (ext_grown_at (ext_grown_at (ext_grown_at (ext_grown_at (ext_grown_at ((Ext.refl _).alloc _) sag1 (by simp)) sag2 (by simp)) sag3 (by simp)) sag4 (by simp)) sag5 (by simp)) sag6 (by simp)) sag7 (by simp); have sas : saw7.ownsMap Tryz.prog 5 (plainElem Tryz.prog 3) (w.heap.size + 1) 7 smD := sa7; have hz : w.heap.size < saw7.heap.size := Nat.lt_of_succ_lt sas.lt; have hc := hE7.cells; have hf := hE7.frozens; clear sa0 sa1 sa2 sa3 sa4 sa5 sa6 sa7 sag1 sag2 sag3 sag4 sag5 sag6 sag7; have sb0 := World.ownsMap_made (H := Unit) saw7 Tryz.prog 9 (plainElem Tryz.prog 3))
    | (refine wpList_insert_own _ rfl (.tmp 28) (.const (.string ⟨#[77, 77, 77]⟩)) (.const (.int .i64 4)) 133 rfl 9 3 mkeyS Tryz.underlying133 _ _ 0 _ rfl sb0 (by decide) _ _ _ rfl rfl (key_s [77, 77, 77] (by decide)) _ [] (plainElem_int Tryz.underlying3 (by decide)) ?_; intro sbw1 sb1 sbg1)
          | (refine wpList_insert_own _ rfl (.tmp 28) (.const (.string ⟨#[77, 77, 77, 77]⟩)) (.const (.int .i64 5)) 133 rfl 9 3 mkeyS Tryz.underlying133 _ _ 1 _ rfl sb1 (by decide) _ _ _ rfl rfl (key_s [77, 77, 77, 77] (by decide)) _ [] (plainElem_int Tryz.underlying3 (by decide)) ?_; intro sbw2 sb2 sbg2)
          | (refine wpList_insert_own _ rfl (.tmp 28) (.const (.string ⟨#[69, 69, 69]⟩)) (.const (.int .i64 7)) 133 rfl 9 3 mkeyS Tryz.underlying133 _ _ 2 _ rfl sb2 (by decide) _ _ _ rfl rfl (key_s [69, 69, 69] (by decide)) _ [] (plainElem_int Tryz.underlying3 (by decide)) ?_; intro sbw3 sb3 sbg3)
          | (refine wpList_insert_own _ rfl (.tmp 28) (.const (.string ⟨#[69, 69, 69, 69]⟩)) (.const (.int .i64 8)) 133 rfl 9 3 mkeyS Tryz.underlying133 _ _ 3 _ rfl sb3 (by decide) _ _ _ rfl rfl (key_s [69, 69, 69, 69] (by decide)) _ [] (plainElem_int Tryz.underlying3 (by decide)) ?_; intro sbw4 sb4 sbg4)
          | (refine wpList_insert_own _ rfl (.tmp 28) (.const (.string ⟨#[97]⟩)) (.const (.int .i64 13)) 133 rfl 9 3 mkeyS Tryz.underlying133 _ _ 4 _ rfl sb4 (by decide) _ _ _ rfl rfl (key_s [97] (by decide)) _ [] (plainElem_int Tryz.underlying3 (by decide)) ?_; intro sbw5 sb5 sbg5)
          | (refine wpList_insert_own _ rfl (.tmp 28) (.const (.string ⟨#[90]⟩)) (.const (.int .i64 14)) 133 rfl 9 3 mkeyS Tryz.underlying133 _ _ 5 _ rfl sb5 (by decide) _ _ _ rfl rfl (key_s [90] (by decide)) _ [] (plainElem_int Tryz.underlying3 (by decide)) ?_; intro sbw6 sb6 sbg6)
          | (refine wpList_insert_own _ rfl (.tmp 28) (.const (.string ⟨#[122]⟩)) (.const (.int .i64 15)) 133 rfl 9 3 mkeyS Tryz.underlying133 _ _ 6 _ rfl sb6 (by decide) _ _ _ rfl rfl (key_s [122] (by decide)) _ [] (plainElem_int Tryz.underlying3 (by decide)) ?_; intro sbw7 sb7 sbg7; have hE14 : Ext saw7 sbw7 := ext_grown_at (ext_grown_at (ext_grown_at (ext_grown_at (ext_grown_at (ext_grown_at (ext_grown_at ((Ext.refl _).alloc _) sbg1 (Nat.le_refl _)) sbg2 (Nat.le_refl _)) sbg3 (Nat.le_refl _)) sbg4 (Nat.le_refl _)) sbg5 (Nat.le_refl _)) sbg6 (Nat.le_refl _)) sbg7 (Nat.le_refl _); have sbs : sbw7.ownsMap Tryz.prog 9 (plainElem Tryz.prog 3) saw7.heap.size 7 nmD := sb7; clear sb0 sb1 sb2 sb3 sb4 sb5 sb6 sb7 sbg1 sbg2 sbg3 sbg4 sbg5 sbg6 sbg7)
    | (at_lookup; refine wpList_lookup_own_ok_int _ rfl _ _ 132 rfl 5 3 .i64 mkeyB Tryz.underlying132 Tryz.underlying3 (zeroI _) _ 7 smD rfl sas _ _ rfl (keyOf_int_mk Tryz.underlying5 Hk.out) ?_; intro cc hat hwc; rw [Hat.out] at hat; injection hat with hat; injection hat with _ hat; subst hat; rw [Hhas.out])
    | (go_at_call 104; (with_reducible refine (full_c _ _).mono ?_); (with_reducible rw [HF.out]); rintro e w1 ⟨rfl, rfl⟩)
    | (go_at_call 105; (with_reducible refine (rep_x c n L _ (by omega) HL.out).mono ?_); rintro e w2 ⟨rfl, hE2⟩; have sbk := sbs.kept (grown_ext hE2 none) (by simp); clear hc hf; have hE9 := hE7.trans (hE14.trans hE2); have hc := hE9.cells; have hf := hE9.frozens; have hz2 : w.heap.size < w2.heap.size := Nat.lt_of_lt_of_le hz (hE14.trans hE2).size)
    | (at_lookup; refine wpList_lookup_own_int _ rfl _ _ 133 rfl 9 3 .i64 mkeyS Tryz.underlying133 Tryz.underlying3 (zeroI _) _ 7 nmD rfl sbk _ _ rfl Hsz.out ?_; intro cd hatd hwcd; rw [Hatn.out] at hatd; injection hatd with hatd; injection hatd with _ hatd; subst hatd)
    | go_in)
  refine bodyPost_ret (v := .tuple #[.agg #[.int .i64 (v : Int), .int .i64 0, .string ⟨#[]⟩], .bool (decide (0 < v))]) ?_ rfl ⟨rfl, ?_⟩
  · simp [results, Tryz.results68, go_sem, hc, hf, hz2]
  · iterate 3 refine Ext.setCell ?_ (by simp) _
    exact ((Ext.refl w).alloc _).trans hE9
theorem fld_num {c : UInt8} {n : Nat} (h0 : numK c ≠ 0) (h1 : n ≤ fullN (numK c)) : fld c n = ⟨(numK c : Int), (n : Int), []⟩ := by unfold fld; rw [if_pos ⟨h0, h1⟩]
theorem fld_nam {c : UInt8} {n : Nat} (h : ¬ (numK c ≠ 0 ∧ n ≤ fullN (numK c))) : fld c n = ⟨(namK c n : Int), 0, []⟩ := by unfold fld; rw [if_neg h]
/-- The part of a run of a letter; whether there is one. -/
theorem field_c (c : UInt8) (n : Nat) (w : World) (hl : isLt c = true) (hn : n ≤ 1000) :
    Calls Tryz.prog 68 #[.int .u8 (c.toNat : Int), .int .i64 (n : Int)] w fun e w' => e = .returned (.tuple #[.agg #[.int .i64 (fld c n).k, .int .i64 (fld c n).w, .string ⟨(fld c n).t.toArray⟩], .bool (decide ((fld c n).k ≠ 0))]) ∧ Ext w w' := by
  by_cases h0 : numK c = 0
  · rw [fld_nam (fun q => q.1 h0)]
    have e : decide (((namK c n : Nat) : Int) ≠ 0) = decide (0 < namK c n) := by rw [decide_eq_decide]; omega
    simp only [e]
    exact field_nam c n w hl hn h0
  · by_cases h1 : n ≤ fullN (numK c)
    · rw [fld_num h0 h1]
      have e : decide (((numK c : Nat) : Int) ≠ 0) = true := by rw [decide_eq_true_eq]; omega
      simp only [e]
      exact field_num c n w hl hn h0 h1
    · rw [fld_nam (fun q => h1 q.2)]
      have e : decide (((namK c n : Nat) : Int) ≠ 0) = decide (0 < namK c n) := by rw [decide_eq_decide]; omega
      simp only [e]
      exact field_big c n w hl hn h0 h1
end Go.Proofs.YtnhdmnhfllecgaaGreatDoor
