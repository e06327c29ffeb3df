/- The walks of the reader of words: tests, groups, rules. -/
import Derived.Test.YtnhdmnhfllecgaaGreatDoorQ02
import Derived.Test.YtnhdmnhfllecgaaGreatDoorQ00
namespace Go.Proofs.YtnhdmnhfllecgaaGreatDoor
set_option linter.unusedVariables false
set_option linter.unusedSimpArgs false
open Go.RowKit

theorem isB_true {s : List UInt8} {ws : List (List UInt8)} (h : ws.head? = some s) : isB s ws = true ∧ isR s ws = tl1 ws := by
  unfold isB isR; rw [if_pos h]; simp [h, tl1]
theorem isB_false {s : List UInt8} {ws : List (List UInt8)} (h : ws.head? ≠ some s) : isB s ws = false ∧ isR s ws = ws := by
  unfold isB isR; rw [if_neg h]; simp [h]
theorem is_mod (B : Nat) (ws : List (List UInt8)) (n : Int) (b : Bool) (w : World) (h : WS B ws n b w) :
    Calls Tryz.prog 125 #[.pointer (some ⟨B, 0, none⟩), .string ⟨#[109, 111, 100]⟩] w fun e w' => e = .returned (.bool (isB wMod ws)) ∧ WS B (isR wMod ws) n b w' ∧ Frm (At B) w w' := is_c B ws n b wMod w h
theorem is_or (B : Nat) (ws : List (List UInt8)) (n : Int) (b : Bool) (w : World) (h : WS B ws n b w) :
    Calls Tryz.prog 125 #[.pointer (some ⟨B, 0, none⟩), .string ⟨#[111, 114]⟩] w fun e w' => e = .returned (.bool (isB wOr ws)) ∧ WS B (isR wOr ws) n b w' ∧ Frm (At B) w w' := is_c B ws n b wOr w h
theorem is_and (B : Nat) (ws : List (List UInt8)) (n : Int) (b : Bool) (w : World) (h : WS B ws n b w) :
    Calls Tryz.prog 125 #[.pointer (some ⟨B, 0, none⟩), .string ⟨#[97, 110, 100]⟩] w fun e w' => e = .returned (.bool (isB wAnd ws)) ∧ WS B (isR wAnd ws) n b w' ∧ Frm (At B) w w' := is_c B ws n b wAnd w h
set_option maxRecDepth 100000 in
set_option maxHeartbeats 1000000 in
theorem what_yl (B : Nat) (ws : List (List UInt8)) (N : Nat) (b : Bool) (w : World) (h : WS B ws N b w) (hN : (N : Int) ≤ 4611686018427387904) (he : hd1 ws = wN) (hmo : (tl1 ws).head? ≠ some wMod) :
    Calls Tryz.prog 165 #[.pointer (some ⟨B, 0, none⟩)] w fun e w' => e = .returned (.int .i64 (whN N ws : Nat)) ∧ WS B (whR ws) N (b && whB ws) w' ∧ Frm (At B) w w' := by
  have H := Lib.hid h
  have hB := h.lt
  have hsh := h.short
  obtain ⟨e1, e2⟩ := isB_false hmo
  have E1 := Lib.hid e1
  have E2 := Lib.hid e2
  have t1 : (hd1 ws == [110]) = true := by rw [Bool.eq_iff_iff, beq_iff_eq]; exact ⟨fun q => by first | rfl | exact absurd q he, fun q => by first | exact he | cases q⟩
  have t2 : (hd1 ws != [110]) = !true := by rw [bne, t1]
  have He := Lib.hid he
  have Hmo := Lib.hid hmo
  have hM : (hd1 (tl1 (tl1 ws))).length ≤ 7000 := by
    refine hd1_short (fun x hx => hsh x ?_)
    exact List.mem_of_mem_tail (List.mem_of_mem_tail hx)
  try have Hz := Lib.hid hz
  try have t3 : ((numN (hd1 (tl1 (tl1 ws))) : Int) == 0) = false := by rw [beq_eq_false_iff_ne]; omega
  try have t3 : ((numN (hd1 (tl1 (tl1 ws))) : Int) == 0) = true := by rw [beq_iff_eq]; omega
  try have t4 : 1 ≤ (numN (hd1 (tl1 (tl1 ws))) : Int) := by omega
  try clear hz
  clear h e1 e2 he hmo hsh
  go_enter Tryz.func165, Tryz.ntmps165
  go_wp2_with (first
    | (go_at_call 166; (with_reducible refine (next_c B ws N b _ H.out).mono ?_); rintro e w1 ⟨rfl, h1, hF1⟩; have H1 := Lib.hid h1; have c2 := h1.fail; have f2 := h1.free 2; have z1 := h1.lt; clear h1)
    | (go_at_call 125; (with_reducible refine (is_mod B (tl1 ws) N b _ H1.out).mono ?_); (with_reducible rw [E1.out, E2.out]); rintro e w2 ⟨rfl, h2, hF2⟩; have H2 := Lib.hid h2; have k1 := h2.num; clear h2)
    | fail)
  go_ret
  exact ⟨ret_i (by unfold whN; rw [if_neg Hmo.out]), by unfold whR whB; rw [if_neg Hmo.out]; simpa [He.out, Hmo.out] using H2.out, hF1.trans hF2⟩
set_option maxRecDepth 100000 in
set_option maxHeartbeats 1000000 in
theorem what_nl (B : Nat) (ws : List (List UInt8)) (N : Nat) (b : Bool) (w : World) (h : WS B ws N b w) (hN : (N : Int) ≤ 4611686018427387904) (he : hd1 ws ≠ wN) (hmo : (tl1 ws).head? ≠ some wMod) :
    Calls Tryz.prog 165 #[.pointer (some ⟨B, 0, none⟩)] w fun e w' => e = .returned (.int .i64 (whN N ws : Nat)) ∧ WS B (whR ws) N (b && whB ws) w' ∧ Frm (At B) w w' := by
  have H := Lib.hid h
  have hB := h.lt
  have hsh := h.short
  obtain ⟨e1, e2⟩ := isB_false hmo
  have E1 := Lib.hid e1
  have E2 := Lib.hid e2
  have t1 : (hd1 ws == [110]) = false := by rw [Bool.eq_iff_iff, beq_iff_eq]; exact ⟨fun q => by first | rfl | exact absurd q he, fun q => by first | exact he | cases q⟩
  have t2 : (hd1 ws != [110]) = !false := by rw [bne, t1]
  have He := Lib.hid he
  have Hmo := Lib.hid hmo
  have hM : (hd1 (tl1 (tl1 ws))).length ≤ 7000 := by
    refine hd1_short (fun x hx => hsh x ?_)
    exact List.mem_of_mem_tail (List.mem_of_mem_tail hx)
  try have Hz := Lib.hid hz
  try have t3 : ((numN (hd1 (tl1 (tl1 ws))) : Int) == 0) = false := by rw [beq_eq_false_iff_ne]; omega
  try have t3 : ((numN (hd1 (tl1 (tl1 ws))) : Int) == 0) = true := by rw [beq_iff_eq]; omega
  try have t4 : 1 ≤ (numN (hd1 (tl1 (tl1 ws))) : Int) := by omega
  try clear hz
  clear h e1 e2 he hmo hsh
  go_enter Tryz.func165, Tryz.ntmps165
  go_wp2_with (first
    | (go_at_call 166; (with_reducible refine (next_c B ws N b _ H.out).mono ?_); rintro e w1 ⟨rfl, h1, hF1⟩; have H1 := Lib.hid h1; have c2 := h1.fail; have f2 := h1.free 2; have z1 := h1.lt; clear h1)
    | (go_at_call 125; (with_reducible refine (is_mod B (tl1 ws) N false _ H1.out.bad).mono ?_); (with_reducible rw [E1.out, E2.out]); rintro e w2 ⟨rfl, h2, hF2⟩; have H2 := Lib.hid h2; have k1 := h2.num; clear h2)
    | fail)
  go_ret
  exact ⟨ret_i (by unfold whN; rw [if_neg Hmo.out]), by unfold whR whB; rw [if_neg Hmo.out]; simpa [He.out, Hmo.out] using H2.out, (hF1.trans (frm_at _ _ _ _)).trans hF2⟩
set_option maxRecDepth 100000 in
set_option maxHeartbeats 1000000 in
theorem what_ym (B : Nat) (ws : List (List UInt8)) (N : Nat) (b : Bool) (w : World) (h : WS B ws N b w) (hN : (N : Int) ≤ 4611686018427387904) (he : hd1 ws = wN) (hmo : (tl1 ws).head? = some wMod) (hz : numN (hd1 (tl1 (tl1 ws))) ≠ 0) :
    Calls Tryz.prog 165 #[.pointer (some ⟨B, 0, none⟩)] w fun e w' => e = .returned (.int .i64 (whN N ws : Nat)) ∧ WS B (whR ws) N (b && whB ws) w' ∧ Frm (At B) w w' := by
  have H := Lib.hid h
  have hB := h.lt
  have hsh := h.short
  obtain ⟨e1, e2⟩ := isB_true hmo
  have E1 := Lib.hid e1
  have E2 := Lib.hid e2
  have t1 : (hd1 ws == [110]) = true := by rw [Bool.eq_iff_iff, beq_iff_eq]; exact ⟨fun q => by first | rfl | exact absurd q he, fun q => by first | exact he | cases q⟩
  have t2 : (hd1 ws != [110]) = !true := by rw [bne, t1]
  have He := Lib.hid he
  have Hmo := Lib.hid hmo
  have hM : (hd1 (tl1 (tl1 ws))).length ≤ 7000 := by
    refine hd1_short (fun x hx => hsh x ?_)
    exact List.mem_of_mem_tail (List.mem_of_mem_tail hx)
  try have Hz := Lib.hid hz
  try have t3 : ((numN (hd1 (tl1 (tl1 ws))) : Int) == 0) = false := by rw [beq_eq_false_iff_ne]; omega
  try have t3 : ((numN (hd1 (tl1 (tl1 ws))) : Int) == 0) = true := by rw [beq_iff_eq]; omega
  try have t4 : 1 ≤ (numN (hd1 (tl1 (tl1 ws))) : Int) := by omega
  try clear hz
  clear h e1 e2 he hmo hsh
  go_enter Tryz.func165, Tryz.ntmps165
  go_wp2_with (first
    | (go_at_call 166; (with_reducible refine (next_c B ws N b _ H.out).mono ?_); rintro e w1 ⟨rfl, h1, hF1⟩; have H1 := Lib.hid h1; have c2 := h1.fail; have f2 := h1.free 2; have z1 := h1.lt; clear h1)
    | (go_at_call 125; (with_reducible refine (is_mod B (tl1 ws) N b _ H1.out).mono ?_); (with_reducible rw [E1.out, E2.out]); rintro e w2 ⟨rfl, h2, hF2⟩; have H2 := Lib.hid h2; have k1 := h2.num; clear h2)
    | (go_at_call 166; (with_reducible refine (next_c B (tl1 (tl1 ws)) N b _ H2.out).mono ?_); rintro e w3 ⟨rfl, h3, hF3⟩; have H3 := Lib.hid h3; clear h3)
        | (go_at_call 173; (with_reducible refine (number_w B (tl1 (tl1 (tl1 ws))) N b (hd1 (tl1 (tl1 ws))) _ H3.out hM).mono ?_); rintro e w4 ⟨rfl, h4, hF4⟩; have H4 := Lib.hid h4; have k1 := h4.num; have c4 := h4.fail; have f4 := h4.free 2; have z4 := h4.lt; clear h4))
  go_ret
  exact ⟨ret_i (by unfold whN; rw [if_pos Hmo.out, if_neg Hz.out]; simp), by unfold whR whB; rw [if_pos Hmo.out]; simpa [He.out, Hmo.out, Hz.out] using H4.out, ((hF1.trans hF2).trans hF3).trans hF4⟩
set_option maxRecDepth 100000 in
set_option maxHeartbeats 1000000 in
theorem what_nm (B : Nat) (ws : List (List UInt8)) (N : Nat) (b : Bool) (w : World) (h : WS B ws N b w) (hN : (N : Int) ≤ 4611686018427387904) (he : hd1 ws ≠ wN) (hmo : (tl1 ws).head? = some wMod) (hz : numN (hd1 (tl1 (tl1 ws))) ≠ 0) :
    Calls Tryz.prog 165 #[.pointer (some ⟨B, 0, none⟩)] w fun e w' => e = .returned (.int .i64 (whN N ws : Nat)) ∧ WS B (whR ws) N (b && whB ws) w' ∧ Frm (At B) w w' := by
  have H := Lib.hid h
  have hB := h.lt
  have hsh := h.short
  obtain ⟨e1, e2⟩ := isB_true hmo
  have E1 := Lib.hid e1
  have E2 := Lib.hid e2
  have t1 : (hd1 ws == [110]) = false := by rw [Bool.eq_iff_iff, beq_iff_eq]; exact ⟨fun q => by first | rfl | exact absurd q he, fun q => by first | exact he | cases q⟩
  have t2 : (hd1 ws != [110]) = !false := by rw [bne, t1]
  have He := Lib.hid he
  have Hmo := Lib.hid hmo
  have hM : (hd1 (tl1 (tl1 ws))).length ≤ 7000 := by
    refine hd1_short (fun x hx => hsh x ?_)
    exact List.mem_of_mem_tail (List.mem_of_mem_tail hx)
  try have Hz := Lib.hid hz
  try have t3 : ((numN (hd1 (tl1 (tl1 ws))) : Int) == 0) = false := by rw [beq_eq_false_iff_ne]; omega
  try have t3 : ((numN (hd1 (tl1 (tl1 ws))) : Int) == 0) = true := by rw [beq_iff_eq]; omega
  try have t4 : 1 ≤ (numN (hd1 (tl1 (tl1 ws))) : Int) := by omega
  try clear hz
  clear h e1 e2 he hmo hsh
  go_enter Tryz.func165, Tryz.ntmps165
  go_wp2_with (first
    | (go_at_call 166; (with_reducible refine (next_c B ws N b _ H.out).mono ?_); rintro e w1 ⟨rfl, h1, hF1⟩; have H1 := Lib.hid h1; have c2 := h1.fail; have f2 := h1.free 2; have z1 := h1.lt; clear h1)
    | (go_at_call 125; (with_reducible refine (is_mod B (tl1 ws) N false _ H1.out.bad).mono ?_); (with_reducible rw [E1.out, E2.out]); rintro e w2 ⟨rfl, h2, hF2⟩; have H2 := Lib.hid h2; have k1 := h2.num; clear h2)
    | (go_at_call 166; (with_reducible refine (next_c B (tl1 (tl1 ws)) N false _ H2.out).mono ?_); rintro e w3 ⟨rfl, h3, hF3⟩; have H3 := Lib.hid h3; clear h3)
        | (go_at_call 173; (with_reducible refine (number_w B (tl1 (tl1 (tl1 ws))) N false (hd1 (tl1 (tl1 ws))) _ H3.out hM).mono ?_); rintro e w4 ⟨rfl, h4, hF4⟩; have H4 := Lib.hid h4; have k1 := h4.num; have c4 := h4.fail; have f4 := h4.free 2; have z4 := h4.lt; clear h4))
  go_ret
  exact ⟨ret_i (by unfold whN; rw [if_pos Hmo.out, if_neg Hz.out]; simp), by unfold whR whB; rw [if_pos Hmo.out]; simpa [He.out, Hmo.out, Hz.out] using H4.out, (((hF1.trans (frm_at _ _ _ _)).trans hF2).trans hF3).trans hF4⟩
set_option maxRecDepth 100000 in
set_option maxHeartbeats 1000000 in
theorem what_yz (B : Nat) (ws : List (List UInt8)) (N : Nat) (b : Bool) (w : World) (h : WS B ws N b w) (hN : (N : Int) ≤ 4611686018427387904) (he : hd1 ws = wN) (hmo : (tl1 ws).head? = some wMod) (hz : numN (hd1 (tl1 (tl1 ws))) = 0) :
    Calls Tryz.prog 165 #[.pointer (some ⟨B, 0, none⟩)] w fun e w' => e = .returned (.int .i64 (whN N ws : Nat)) ∧ WS B (whR ws) N (b && whB ws) w' ∧ Frm (At B) w w' := by
  have H := Lib.hid h
  have hB := h.lt
  have hsh := h.short
  obtain ⟨e1, e2⟩ := isB_true hmo
  have E1 := Lib.hid e1
  have E2 := Lib.hid e2
  have t1 : (hd1 ws == [110]) = true := by rw [Bool.eq_iff_iff, beq_iff_eq]; exact ⟨fun q => by first | rfl | exact absurd q he, fun q => by first | exact he | cases q⟩
  have t2 : (hd1 ws != [110]) = !true := by rw [bne, t1]
  have He := Lib.hid he
  have Hmo := Lib.hid hmo
  have hM : (hd1 (tl1 (tl1 ws))).length ≤ 7000 := by
    refine hd1_short (fun x hx => hsh x ?_)
    exact List.mem_of_mem_tail (List.mem_of_mem_tail hx)
  try have Hz := Lib.hid hz
  try have t3 : ((numN (hd1 (tl1 (tl1 ws))) : Int) == 0) = false := by rw [beq_eq_false_iff_ne]; omega
  try have t3 : ((numN (hd1 (tl1 (tl1 ws))) : Int) == 0) = true := by rw [beq_iff_eq]; omega
  try have t4 : 1 ≤ (numN (hd1 (tl1 (tl1 ws))) : Int) := by omega
  try clear hz
  clear h e1 e2 he hmo hsh
  go_enter Tryz.func165, Tryz.ntmps165
  go_wp2_with (first
    | (go_at_call 166; (with_reducible refine (next_c B ws N b _ H.out).mono ?_); rintro e w1 ⟨rfl, h1, hF1⟩; have H1 := Lib.hid h1; have c2 := h1.fail; have f2 := h1.free 2; have z1 := h1.lt; clear h1)
    | (go_at_call 125; (with_reducible refine (is_mod B (tl1 ws) N b _ H1.out).mono ?_); (with_reducible rw [E1.out, E2.out]); rintro e w2 ⟨rfl, h2, hF2⟩; have H2 := Lib.hid h2; have k1 := h2.num; clear h2)
    | (go_at_call 166; (with_reducible refine (next_c B (tl1 (tl1 ws)) N b _ H2.out).mono ?_); rintro e w3 ⟨rfl, h3, hF3⟩; have H3 := Lib.hid h3; clear h3)
        | (go_at_call 173; (with_reducible refine (number_w B (tl1 (tl1 (tl1 ws))) N b (hd1 (tl1 (tl1 ws))) _ H3.out hM).mono ?_); rintro e w4 ⟨rfl, h4, hF4⟩; have H4 := Lib.hid h4; have k1 := h4.num; have c4 := h4.fail; have f4 := h4.free 2; have z4 := h4.lt; clear h4))
  go_ret
  exact ⟨ret_i (by unfold whN; rw [if_pos Hmo.out, if_pos Hz.out]; simp), by unfold whR whB; rw [if_pos Hmo.out]; simpa [He.out, Hmo.out, Hz.out] using H4.out.bad, (((hF1.trans hF2).trans hF3).trans hF4).trans (frm_at _ _ _ _)⟩
set_option maxRecDepth 100000 in
set_option maxHeartbeats 1000000 in
theorem what_nz (B : Nat) (ws : List (List UInt8)) (N : Nat) (b : Bool) (w : World) (h : WS B ws N b w) (hN : (N : Int) ≤ 4611686018427387904) (he : hd1 ws ≠ wN) (hmo : (tl1 ws).head? = some wMod) (hz : numN (hd1 (tl1 (tl1 ws))) = 0) :
    Calls Tryz.prog 165 #[.pointer (some ⟨B, 0, none⟩)] w fun e w' => e = .returned (.int .i64 (whN N ws : Nat)) ∧ WS B (whR ws) N (b && whB ws) w' ∧ Frm (At B) w w' := by
  have H := Lib.hid h
  have hB := h.lt
  have hsh := h.short
  obtain ⟨e1, e2⟩ := isB_true hmo
  have E1 := Lib.hid e1
  have E2 := Lib.hid e2
  have t1 : (hd1 ws == [110]) = false := by rw [Bool.eq_iff_iff, beq_iff_eq]; exact ⟨fun q => by first | rfl | exact absurd q he, fun q => by first | exact he | cases q⟩
  have t2 : (hd1 ws != [110]) = !false := by rw [bne, t1]
  have He := Lib.hid he
  have Hmo := Lib.hid hmo
  have hM : (hd1 (tl1 (tl1 ws))).length ≤ 7000 := by
    refine hd1_short (fun x hx => hsh x ?_)
    exact List.mem_of_mem_tail (List.mem_of_mem_tail hx)
  try have Hz := Lib.hid hz
  try have t3 : ((numN (hd1 (tl1 (tl1 ws))) : Int) == 0) = false := by rw [beq_eq_false_iff_ne]; omega
  try have t3 : ((numN (hd1 (tl1 (tl1 ws))) : Int) == 0) = true := by rw [beq_iff_eq]; omega
  try have t4 : 1 ≤ (numN (hd1 (tl1 (tl1 ws))) : Int) := by omega
  try clear hz
  clear h e1 e2 he hmo hsh
  go_enter Tryz.func165, Tryz.ntmps165
  go_wp2_with (first
    | (go_at_call 166; (with_reducible refine (next_c B ws N b _ H.out).mono ?_); rintro e w1 ⟨rfl, h1, hF1⟩; have H1 := Lib.hid h1; have c2 := h1.fail; have f2 := h1.free 2; have z1 := h1.lt; clear h1)
    | (go_at_call 125; (with_reducible refine (is_mod B (tl1 ws) N false _ H1.out.bad).mono ?_); (with_reducible rw [E1.out, E2.out]); rintro e w2 ⟨rfl, h2, hF2⟩; have H2 := Lib.hid h2; have k1 := h2.num; clear h2)
    | (go_at_call 166; (with_reducible refine (next_c B (tl1 (tl1 ws)) N false _ H2.out).mono ?_); rintro e w3 ⟨rfl, h3, hF3⟩; have H3 := Lib.hid h3; clear h3)
        | (go_at_call 173; (with_reducible refine (number_w B (tl1 (tl1 (tl1 ws))) N false (hd1 (tl1 (tl1 ws))) _ H3.out hM).mono ?_); rintro e w4 ⟨rfl, h4, hF4⟩; have H4 := Lib.hid h4; have k1 := h4.num; have c4 := h4.fail; have f4 := h4.free 2; have z4 := h4.lt; clear h4))
  go_ret
  exact ⟨ret_i (by unfold whN; rw [if_pos Hmo.out, if_pos Hz.out]; simp), by unfold whR whB; rw [if_pos Hmo.out]; simpa [He.out, Hmo.out, Hz.out] using H4.out.bad, ((((hF1.trans (frm_at _ _ _ _)).trans hF2).trans hF3).trans hF4).trans (frm_at _ _ _ _)⟩
theorem what_c (B : Nat) (ws : List (List UInt8)) (N : Nat) (b : Bool) (w : World) (h : WS B ws N b w) (hN : (N : Int) ≤ 4611686018427387904) :
    Calls Tryz.prog 165 #[.pointer (some ⟨B, 0, none⟩)] w fun e w' => e = .returned (.int .i64 (whN N ws : Nat)) ∧ WS B (whR ws) N (b && whB ws) w' ∧ Frm (At B) w w' := by
  by_cases he : hd1 ws = wN
  · by_cases hmo : (tl1 ws).head? = some wMod
    · by_cases hz : numN (hd1 (tl1 (tl1 ws))) = 0
      · exact what_yz B ws N b w h hN he hmo hz
      · exact what_ym B ws N b w h hN he hmo hz
    · exact what_yl B ws N b w h hN he hmo
  · by_cases hmo : (tl1 ws).head? = some wMod
    · by_cases hz : numN (hd1 (tl1 (tl1 ws))) = 0
      · exact what_nz B ws N b w h hN he hmo hz
      · exact what_nm B ws N b w h hN he hmo hz
    · exact what_nl B ws N b w h hN he hmo
end Go.Proofs.YtnhdmnhfllecgaaGreatDoor
