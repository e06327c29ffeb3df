/- The walks of the reader of words: tests, groups, rules. -/
import Derived.Test.YtlmoibmmjonjoaaGreatDoorQ01
import Derived.Test.YtlmoibmmjonjoaaGreatDoorQ00
namespace Go.Proofs.YtlmoibmmjonjoaaGreatDoor
set_option linter.unusedVariables false
set_option linter.unusedSimpArgs false
open Go.RowKit

theorem isB_true {s : List UInt8} {ws : List (List UInt8)} (h : ws.head? = some s) : isB s ws = true ∧ isR s ws = tl1 ws := by
  unfold isB isR; rw [if_pos h]; simp [h, tl1]
theorem isB_false {s : List UInt8} {ws : List (List UInt8)} (h : ws.head? ≠ some s) : isB s ws = false ∧ isR s ws = ws := by
  unfold isB isR; rw [if_neg h]; simp [h]
theorem is_mod (B : Nat) (ws : List (List UInt8)) (n : Int) (b : Bool) (w : World) (h : WS B ws n b w) :
    Calls Tryz.prog 120 #[.pointer (some ⟨B, 0, none⟩), .string ⟨#[109, 111, 100]⟩] w fun e w' => e = .returned (.bool (isB wMod ws)) ∧ WS B (isR wMod ws) n b w' ∧ Frm (At B) w w' := is_c B ws n b wMod w h
theorem is_or (B : Nat) (ws : List (List UInt8)) (n : Int) (b : Bool) (w : World) (h : WS B ws n b w) :
    Calls Tryz.prog 120 #[.pointer (some ⟨B, 0, none⟩), .string ⟨#[111, 114]⟩] w fun e w' => e = .returned (.bool (isB wOr ws)) ∧ WS B (isR wOr ws) n b w' ∧ Frm (At B) w w' := is_c B ws n b wOr w h
theorem is_and (B : Nat) (ws : List (List UInt8)) (n : Int) (b : Bool) (w : World) (h : WS B ws n b w) :
    Calls Tryz.prog 120 #[.pointer (some ⟨B, 0, none⟩), .string ⟨#[97, 110, 100]⟩] w fun e w' => e = .returned (.bool (isB wAnd ws)) ∧ WS B (isR wAnd ws) n b w' ∧ Frm (At B) w w' := is_c B ws n b wAnd w h
set_option maxRecDepth 100000 in
set_option maxHeartbeats 1000000 in
theorem what_yl (B : Nat) (ws : List (List UInt8)) (N : Nat) (b : Bool) (w : World) (h : WS B ws N b w) (hN : (N : Int) ≤ 4611686018427387904) (he : hd1 ws = wN) (hmo : (tl1 ws).head? ≠ some wMod) :
    Calls Tryz.prog 164 #[.pointer (some ⟨B, 0, none⟩)] w fun e w' => e = .returned (.int .i64 (whN N ws : Nat)) ∧ WS B (whR ws) N (b && whB ws) w' ∧ Frm (At B) w w' := by
  have H := Lib.hid h
  have hB := h.lt
  have hsh := h.short
  obtain ⟨e1, e2⟩ := isB_false hmo
  have E1 := Lib.hid e1
  have E2 := Lib.hid e2
  have t1 : (hd1 ws == [110]) = true := by rw [Bool.eq_iff_iff, beq_iff_eq]; exact ⟨fun q => by first | rfl | exact absurd q he, fun q => by first | exact he | cases q⟩
  have t2 : (hd1 ws != [110]) = !true := by rw [bne, t1]
  have He := Lib.hid he
  have Hmo := Lib.hid hmo
  have hM : (hd1 (tl1 (tl1 ws))).length ≤ 4000 := by
    refine hd1_short (fun x hx => hsh x ?_)
    exact List.mem_of_mem_tail (List.mem_of_mem_tail hx)
  try have Hz := Lib.hid hz
  try have t3 : ((numN (hd1 (tl1 (tl1 ws))) : Int) == 0) = false := by rw [beq_eq_false_iff_ne]; omega
  try have t3 : ((numN (hd1 (tl1 (tl1 ws))) : Int) == 0) = true := by rw [beq_iff_eq]; omega
  try have t4 : 1 ≤ (numN (hd1 (tl1 (tl1 ws))) : Int) := by omega
  try clear hz
  clear h e1 e2 he hmo hsh
  go_enter Tryz.func164, Tryz.ntmps164
  go_wp2_with (first
    | (go_at_call 165; (with_reducible refine (next_c B ws N b _ H.out).mono ?_); rintro e w1 ⟨rfl, h1, hF1⟩; have H1 := Lib.hid h1; have c2 := h1.fail; have f2 := h1.free 2; have z1 := h1.lt; clear h1)
    | (go_at_call 120; (with_reducible refine (is_mod B (tl1 ws) N b _ H1.out).mono ?_); (with_reducible rw [E1.out, E2.out]); rintro e w2 ⟨rfl, h2, hF2⟩; have H2 := Lib.hid h2; have k1 := h2.num; clear h2)
    | fail)
  go_ret
  exact ⟨ret_i (by unfold whN; rw [if_neg Hmo.out]), by unfold whR whB; rw [if_neg Hmo.out]; simpa [He.out, Hmo.out] using H2.out, hF1.trans hF2⟩
set_option maxRecDepth 100000 in
set_option maxHeartbeats 1000000 in
theorem what_nl (B : Nat) (ws : List (List UInt8)) (N : Nat) (b : Bool) (w : World) (h : WS B ws N b w) (hN : (N : Int) ≤ 4611686018427387904) (he : hd1 ws ≠ wN) (hmo : (tl1 ws).head? ≠ some wMod) :
    Calls Tryz.prog 164 #[.pointer (some ⟨B, 0, none⟩)] w fun e w' => e = .returned (.int .i64 (whN N ws : Nat)) ∧ WS B (whR ws) N (b && whB ws) w' ∧ Frm (At B) w w' := by
  have H := Lib.hid h
  have hB := h.lt
  have hsh := h.short
  obtain ⟨e1, e2⟩ := isB_false hmo
  have E1 := Lib.hid e1
  have E2 := Lib.hid e2
  have t1 : (hd1 ws == [110]) = false := by rw [Bool.eq_iff_iff, beq_iff_eq]; exact ⟨fun q => by first | rfl | exact absurd q he, fun q => by first | exact he | cases q⟩
  have t2 : (hd1 ws != [110]) = !false := by rw [bne, t1]
  have He := Lib.hid he
  have Hmo := Lib.hid hmo
  have hM : (hd1 (tl1 (tl1 ws))).length ≤ 4000 := by
    refine hd1_short (fun x hx => hsh x ?_)
    exact List.mem_of_mem_tail (List.mem_of_mem_tail hx)
  try have Hz := Lib.hid hz
  try have t3 : ((numN (hd1 (tl1 (tl1 ws))) : Int) == 0) = false := by rw [beq_eq_false_iff_ne]; omega
  try have t3 : ((numN (hd1 (tl1 (tl1 ws))) : Int) == 0) = true := by rw [beq_iff_eq]; omega
  try have t4 : 1 ≤ (numN (hd1 (tl1 (tl1 ws))) : Int) := by omega
  try clear hz
  clear h e1 e2 he hmo hsh
  go_enter Tryz.func164, Tryz.ntmps164
  go_wp2_with (first
    | (go_at_call 165; (with_reducible refine (next_c B ws N b _ H.out).mono ?_); rintro e w1 ⟨rfl, h1, hF1⟩; have H1 := Lib.hid h1; have c2 := h1.fail; have f2 := h1.free 2; have z1 := h1.lt; clear h1)
    | (go_at_call 120; (with_reducible refine (is_mod B (tl1 ws) N false _ H1.out.bad).mono ?_); (with_reducible rw [E1.out, E2.out]); rintro e w2 ⟨rfl, h2, hF2⟩; have H2 := Lib.hid h2; have k1 := h2.num; clear h2)
    | fail)
  go_ret
  exact ⟨ret_i (by unfold whN; rw [if_neg Hmo.out]), by unfold whR whB; rw [if_neg Hmo.out]; simpa [He.out, Hmo.out] using H2.out, (hF1.trans (frm_at _ _ _ _)).trans hF2⟩
set_option maxRecDepth 100000 in
set_option maxHeartbeats 1000000 in
theorem what_ym (B : Nat) (ws : List (List UInt8)) (N : Nat) (b : Bool) (w : World) (h : WS B ws N b w) (hN : (N : Int) ≤ 4611686018427387904) (he : hd1 ws = wN) (hmo : (tl1 ws).head? = some wMod) (hz : numN (hd1 (tl1 (tl1 ws))) ≠ 0) :
    Calls Tryz.prog 164 #[.pointer (some ⟨B, 0, none⟩)] w fun e w' => e = .returned (.int .i64 (whN N ws : Nat)) ∧ WS B (whR ws) N (b && whB ws) w' ∧ Frm (At B) w w' := by
  have H := Lib.hid h
  have hB := h.lt
  have hsh := h.short
  obtain ⟨e1, e2⟩ := isB_true hmo
  have E1 := Lib.hid e1
  have E2 := Lib.hid e2
  have t1 : (hd1 ws == [110]) = true := by rw [Bool.eq_iff_iff, beq_iff_eq]; exact ⟨fun q => by first | rfl | exact absurd q he, fun q => by first | exact he | cases q⟩
  have t2 : (hd1 ws != [110]) = !true := by rw [bne, t1]
  have He := Lib.hid he
  have Hmo := Lib.hid hmo
  have hM : (hd1 (tl1 (tl1 ws))).length ≤ 4000 := by
    refine hd1_short (fun x hx => hsh x ?_)
    exact List.mem_of_mem_tail (List.mem_of_mem_tail hx)
  try have Hz := Lib.hid hz
  try have t3 : ((numN (hd1 (tl1 (tl1 ws))) : Int) == 0) = false := by rw [beq_eq_false_iff_ne]; omega
  try have t3 : ((numN (hd1 (tl1 (tl1 ws))) : Int) == 0) = true := by rw [beq_iff_eq]; omega
  try have t4 : 1 ≤ (numN (hd1 (tl1 (tl1 ws))) : Int) := by omega
  try clear hz
  clear h e1 e2 he hmo hsh
  go_enter Tryz.func164, Tryz.ntmps164
  go_wp2_with (first
    | (go_at_call 165; (with_reducible refine (next_c B ws N b _ H.out).mono ?_); rintro e w1 ⟨rfl, h1, hF1⟩; have H1 := Lib.hid h1; have c2 := h1.fail; have f2 := h1.free 2; have z1 := h1.lt; clear h1)
    | (go_at_call 120; (with_reducible refine (is_mod B (tl1 ws) N b _ H1.out).mono ?_); (with_reducible rw [E1.out, E2.out]); rintro e w2 ⟨rfl, h2, hF2⟩; have H2 := Lib.hid h2; have k1 := h2.num; clear h2)
    | (go_at_call 165; (with_reducible refine (next_c B (tl1 (tl1 ws)) N b _ H2.out).mono ?_); rintro e w3 ⟨rfl, h3, hF3⟩; have H3 := Lib.hid h3; clear h3)
        | (go_at_call 169; (with_reducible refine (number_w B (tl1 (tl1 (tl1 ws))) N b (hd1 (tl1 (tl1 ws))) _ H3.out hM).mono ?_); rintro e w4 ⟨rfl, h4, hF4⟩; have H4 := Lib.hid h4; have k1 := h4.num; have c4 := h4.fail; have f4 := h4.free 2; have z4 := h4.lt; clear h4))
  go_ret
  exact ⟨ret_i (by unfold whN; rw [if_pos Hmo.out, if_neg Hz.out]; simp), by unfold whR whB; rw [if_pos Hmo.out]; simpa [He.out, Hmo.out, Hz.out] using H4.out, ((hF1.trans hF2).trans hF3).trans hF4⟩
set_option maxRecDepth 100000 in
set_option maxHeartbeats 1000000 in
theorem what_nm (B : Nat) (ws : List (List UInt8)) (N : Nat) (b : Bool) (w : World) (h : WS B ws N b w) (hN : (N : Int) ≤ 4611686018427387904) (he : hd1 ws ≠ wN) (hmo : (tl1 ws).head? = some wMod) (hz : numN (hd1 (tl1 (tl1 ws))) ≠ 0) :
    Calls Tryz.prog 164 #[.pointer (some ⟨B, 0, none⟩)] w fun e w' => e = .returned (.int .i64 (whN N ws : Nat)) ∧ WS B (whR ws) N (b && whB ws) w' ∧ Frm (At B) w w' := by
  have H := Lib.hid h
  have hB := h.lt
  have hsh := h.short
  obtain ⟨e1, e2⟩ := isB_true hmo
  have E1 := Lib.hid e1
  have E2 := Lib.hid e2
  have t1 : (hd1 ws == [110]) = false := by rw [Bool.eq_iff_iff, beq_iff_eq]; exact ⟨fun q => by first | rfl | exact absurd q he, fun q => by first | exact he | cases q⟩
  have t2 : (hd1 ws != [110]) = !false := by rw [bne, t1]
  have He := Lib.hid he
  have Hmo := Lib.hid hmo
  have hM : (hd1 (tl1 (tl1 ws))).length ≤ 4000 := by
    refine hd1_short (fun x hx => hsh x ?_)
    exact List.mem_of_mem_tail (List.mem_of_mem_tail hx)
  try have Hz := Lib.hid hz
  try have t3 : ((numN (hd1 (tl1 (tl1 ws))) : Int) == 0) = false := by rw [beq_eq_false_iff_ne]; omega
  try have t3 : ((numN (hd1 (tl1 (tl1 ws))) : Int) == 0) = true := by rw [beq_iff_eq]; omega
  try have t4 : 1 ≤ (numN (hd1 (tl1 (tl1 ws))) : Int) := by omega
  try clear hz
  clear h e1 e2 he hmo hsh
  go_enter Tryz.func164, Tryz.ntmps164
  go_wp2_with (first
    | (go_at_call 165; (with_reducible refine (next_c B ws N b _ H.out).mono ?_); rintro e w1 ⟨rfl, h1, hF1⟩; have H1 := Lib.hid h1; have c2 := h1.fail; have f2 := h1.free 2; have z1 := h1.lt; clear h1)
    | (go_at_call 120; (with_reducible refine (is_mod B (tl1 ws) N false _ H1.out.bad).mono ?_); (with_reducible rw [E1.out, E2.out]); rintro e w2 ⟨rfl, h2, hF2⟩; have H2 := Lib.hid h2; have k1 := h2.num; clear h2)
    | (go_at_call 165; (with_reducible refine (next_c B (tl1 (tl1 ws)) N false _ H2.out).mono ?_); rintro e w3 ⟨rfl, h3, hF3⟩; have H3 := Lib.hid h3; clear h3)
        | (go_at_call 169; (with_reducible refine (number_w B (tl1 (tl1 (tl1 ws))) N false (hd1 (tl1 (tl1 ws))) _ H3.out hM).mono ?_); rintro e w4 ⟨rfl, h4, hF4⟩; have H4 := Lib.hid h4; have k1 := h4.num; have c4 := h4.fail; have f4 := h4.free 2; have z4 := h4.lt; clear h4))
  go_ret
  exact ⟨ret_i (by unfold whN; rw [if_pos Hmo.out, if_neg Hz.out]; simp), by unfold whR whB; rw [if_pos Hmo.out]; simpa [He.out, Hmo.out, Hz.out] using H4.out, (((hF1.trans (frm_at _ _ _ _)).trans hF2).trans hF3).trans hF4⟩
set_option maxRecDepth 100000 in
set_option maxHeartbeats 1000000 in
theorem what_yz (B : Nat) (ws : List (List UInt8)) (N : Nat) (b : Bool) (w : World) (h : WS B ws N b w) (hN : (N : Int) ≤ 4611686018427387904) (he : hd1 ws = wN) (hmo : (tl1 ws).head? = some wMod) (hz : numN (hd1 (tl1 (tl1 ws))) = 0) :
    Calls Tryz.prog 164 #[.pointer (some ⟨B, 0, none⟩)] w fun e w' => e = .returned (.int .i64 (whN N ws : Nat)) ∧ WS B (whR ws) N (b && whB ws) w' ∧ Frm (At B) w w' := by
  have H := Lib.hid h
  have hB := h.lt
  have hsh := h.short
  obtain ⟨e1, e2⟩ := isB_true hmo
  have E1 := Lib.hid e1
  have E2 := Lib.hid e2
  have t1 : (hd1 ws == [110]) = true := by rw [Bool.eq_iff_iff, beq_iff_eq]; exact ⟨fun q => by first | rfl | exact absurd q he, fun q => by first | exact he | cases q⟩
  have t2 : (hd1 ws != [110]) = !true := by rw [bne, t1]
  have He := Lib.hid he
  have Hmo := Lib.hid hmo
  have hM : (hd1 (tl1 (tl1 ws))).length ≤ 4000 := by
    refine hd1_short (fun x hx => hsh x ?_)
    exact List.mem_of_mem_tail (List.mem_of_mem_tail hx)
  try have Hz := Lib.hid hz
  try have t3 : ((numN (hd1 (tl1 (tl1 ws))) : Int) == 0) = false := by rw [beq_eq_false_iff_ne]; omega
  try have t3 : ((numN (hd1 (tl1 (tl1 ws))) : Int) == 0) = true := by rw [beq_iff_eq]; omega
  try have t4 : 1 ≤ (numN (hd1 (tl1 (tl1 ws))) : Int) := by omega
  try clear hz
  clear h e1 e2 he hmo hsh
  go_enter Tryz.func164, Tryz.ntmps164
  go_wp2_with (first
    | (go_at_call 165; (with_reducible refine (next_c B ws N b _ H.out).mono ?_); rintro e w1 ⟨rfl, h1, hF1⟩; have H1 := Lib.hid h1; have c2 := h1.fail; have f2 := h1.free 2; have z1 := h1.lt; clear h1)
    | (go_at_call 120; (with_reducible refine (is_mod B (tl1 ws) N b _ H1.out).mono ?_); (with_reducible rw [E1.out, E2.out]); rintro e w2 ⟨rfl, h2, hF2⟩; have H2 := Lib.hid h2; have k1 := h2.num; clear h2)
    | (go_at_call 165; (with_reducible refine (next_c B (tl1 (tl1 ws)) N b _ H2.out).mono ?_); rintro e w3 ⟨rfl, h3, hF3⟩; have H3 := Lib.hid h3; clear h3)
        | (go_at_call 169; (with_reducible refine (number_w B (tl1 (tl1 (tl1 ws))) N b (hd1 (tl1 (tl1 ws))) _ H3.out hM).mono ?_); rintro e w4 ⟨rfl, h4, hF4⟩; have H4 := Lib.hid h4; have k1 := h4.num; have c4 := h4.fail; have f4 := h4.free 2; have z4 := h4.lt; clear h4))
  go_ret
  exact ⟨ret_i (by unfold whN; rw [if_pos Hmo.out, if_pos Hz.out]; simp), by unfold whR whB; rw [if_pos Hmo.out]; simpa [He.out, Hmo.out, Hz.out] using H4.out.bad, (((hF1.trans hF2).trans hF3).trans hF4).trans (frm_at _ _ _ _)⟩
set_option maxRecDepth 100000 in
set_option maxHeartbeats 1000000 in
theorem what_nz (B : Nat) (ws : List (List UInt8)) (N : Nat) (b : Bool) (w : World) (h : WS B ws N b w) (hN : (N : Int) ≤ 4611686018427387904) (he : hd1 ws ≠ wN) (hmo : (tl1 ws).head? = some wMod) (hz : numN (hd1 (tl1 (tl1 ws))) = 0) :
    Calls Tryz.prog 164 #[.pointer (some ⟨B, 0, none⟩)] w fun e w' => e = .returned (.int .i64 (whN N ws : Nat)) ∧ WS B (whR ws) N (b && whB ws) w' ∧ Frm (At B) w w' := by
  have H := Lib.hid h
  have hB := h.lt
  have hsh := h.short
  obtain ⟨e1, e2⟩ := isB_true hmo
  have E1 := Lib.hid e1
  have E2 := Lib.hid e2
  have t1 : (hd1 ws == [110]) = false := by rw [Bool.eq_iff_iff, beq_iff_eq]; exact ⟨fun q => by first | rfl | exact absurd q he, fun q => by first | exact he | cases q⟩
  have t2 : (hd1 ws != [110]) = !false := by rw [bne, t1]
  have He := Lib.hid he
  have Hmo := Lib.hid hmo
  have hM : (hd1 (tl1 (tl1 ws))).length ≤ 4000 := by
    refine hd1_short (fun x hx => hsh x ?_)
    exact List.mem_of_mem_tail (List.mem_of_mem_tail hx)
  try have Hz := Lib.hid hz
  try have t3 : ((numN (hd1 (tl1 (tl1 ws))) : Int) == 0) = false := by rw [beq_eq_false_iff_ne]; omega
  try have t3 : ((numN (hd1 (tl1 (tl1 ws))) : Int) == 0) = true := by rw [beq_iff_eq]; omega
  try have t4 : 1 ≤ (numN (hd1 (tl1 (tl1 ws))) : Int) := by omega
  try clear hz
  clear h e1 e2 he hmo hsh
  go_enter Tryz.func164, Tryz.ntmps164
  go_wp2_with (first
    | (go_at_call 165; (with_reducible refine (next_c B ws N b _ H.out).mono ?_); rintro e w1 ⟨rfl, h1, hF1⟩; have H1 := Lib.hid h1; have c2 := h1.fail; have f2 := h1.free 2; have z1 := h1.lt; clear h1)
    | (go_at_call 120; (with_reducible refine (is_mod B (tl1 ws) N false _ H1.out.bad).mono ?_); (with_reducible rw [E1.out, E2.out]); rintro e w2 ⟨rfl, h2, hF2⟩; have H2 := Lib.hid h2; have k1 := h2.num; clear h2)
    | (go_at_call 165; (with_reducible refine (next_c B (tl1 (tl1 ws)) N false _ H2.out).mono ?_); rintro e w3 ⟨rfl, h3, hF3⟩; have H3 := Lib.hid h3; clear h3)
        | (go_at_call 169; (with_reducible refine (number_w B (tl1 (tl1 (tl1 ws))) N false (hd1 (tl1 (tl1 ws))) _ H3.out hM).mono ?_); rintro e w4 ⟨rfl, h4, hF4⟩; have H4 := Lib.hid h4; have k1 := h4.num; have c4 := h4.fail; have f4 := h4.free 2; have z4 := h4.lt; clear h4))
  go_ret
  exact ⟨ret_i (by unfold whN; rw [if_pos Hmo.out, if_pos Hz.out]; simp), by unfold whR whB; rw [if_pos Hmo.out]; simpa [He.out, Hmo.out, Hz.out] using H4.out.bad, ((((hF1.trans (frm_at _ _ _ _)).trans hF2).trans hF3).trans hF4).trans (frm_at _ _ _ _)⟩
theorem what_c (B : Nat) (ws : List (List UInt8)) (N : Nat) (b : Bool) (w : World) (h : WS B ws N b w) (hN : (N : Int) ≤ 4611686018427387904) :
    Calls Tryz.prog 164 #[.pointer (some ⟨B, 0, none⟩)] w fun e w' => e = .returned (.int .i64 (whN N ws : Nat)) ∧ WS B (whR ws) N (b && whB ws) w' ∧ Frm (At B) w w' := by
  by_cases he : hd1 ws = wN
  · by_cases hmo : (tl1 ws).head? = some wMod
    · by_cases hz : numN (hd1 (tl1 (tl1 ws))) = 0
      · exact what_yz B ws N b w h hN he hmo hz
      · exact what_ym B ws N b w h hN he hmo hz
    · exact what_yl B ws N b w h hN he hmo
  · by_cases hmo : (tl1 ws).head? = some wMod
    · by_cases hz : numN (hd1 (tl1 (tl1 ws))) = 0
      · exact what_nz B ws N b w h hN he hmo hz
      · exact what_nm B ws N b w h hN he hmo hz
    · exact what_nl B ws N b w h hN he hmo
end Go.Proofs.YtlmoibmmjonjoaaGreatDoor
/- The walks of the reader of words: tests, groups, rules. -/
namespace Go.Proofs.YtlmoibmmjonjoaaGreatDoor
set_option linter.unusedVariables false
set_option linter.unusedSimpArgs false
open Go.RowKit

theorem lm_at {B : Nat} {w w' : World} (h : Lm w) (hF : Frm (At B) w w') (hG : 0 ≠ B) : Lm w' := h.frm hF hG
set_option maxRecDepth 100000 in
set_option maxHeartbeats 1000000 in
theorem test_is (B : Nat) (ws : List (List UInt8)) (N : Nat) (b : Bool) (w : World) (h : WS B ws N b w) (hN : (N : Int) ≤ 4611686018427387904) (hm : Lm w) (hG : 0 ≠ B) (he : hd1 (whR ws) = wIs) (ho : hd1 (whR ws) ≠ wNot) :
    Calls Tryz.prog 152 #[.pointer (some ⟨B, 0, none⟩)] w fun e w' => e = .returned (.bool (teH N ws)) ∧ WS B (teR ws) N (b && teB ws) w' ∧ Frm (At B) w w' := by
  have H := Lib.hid h
  have Hm := Lib.hid hm
  have t1 : (hd1 (whR ws) == [105, 115]) = true := by rw [Bool.eq_iff_iff, beq_iff_eq]; exact ⟨fun q => by first | rfl | exact absurd q he, fun q => by first | exact he | cases q⟩
  have t2 : (hd1 (whR ws) != [105, 115]) = !true := by rw [bne, t1]
  have t3 : (hd1 (whR ws) == [110, 111, 116]) = false := by rw [Bool.eq_iff_iff, beq_iff_eq]; exact ⟨fun q => by first | rfl | exact absurd q ho, fun q => by first | exact ho | cases q⟩
  have t4 : (hd1 (whR ws) != [110, 111, 116]) = !false := by rw [bne, t3]
  have He := Lib.hid he
  have Ho := Lib.hid ho
  have hB := h.lt
  clear h he ho hm
  go_enter Tryz.func152, Tryz.ntmps152
  go_wp2_with (first
    | (go_at_call 164; (with_reducible refine (what_c B ws N b _ H.out hN).mono ?_); rintro e w1 ⟨rfl, h1, hF1⟩; have H1 := Lib.hid h1; clear h1)
    | (go_at_call 165; (with_reducible refine (next_c B (whR ws) N (b && whB ws) _ H1.out).mono ?_); rintro e w2 ⟨rfl, h2, hF2⟩; have H2 := Lib.hid h2; have c2 := h2.fail; have f2 := h2.free 2; have z2 := h2.lt; clear h2; have Hm2 := Lib.hid (Hm.out.frm (hF1.trans hF2) hG))
    | (go_at_call 166; (with_reducible refine (list_c B (tl1 (whR ws)) N (b && whB ws) (whN N ws) _ H2.out Hm2.out hG).mono ?_); rintro e w3 ⟨rfl, h3, hF3⟩))
  go_ret
  exact ⟨ret_b (by unfold teH; simp [He.out]), by unfold teR teB; simpa [He.out, Bool.and_assoc] using h3, (hF1.trans hF2).trans hF3⟩
set_option maxRecDepth 100000 in
set_option maxHeartbeats 1000000 in
theorem test_not (B : Nat) (ws : List (List UInt8)) (N : Nat) (b : Bool) (w : World) (h : WS B ws N b w) (hN : (N : Int) ≤ 4611686018427387904) (hm : Lm w) (hG : 0 ≠ B) (he : hd1 (whR ws) ≠ wIs) (ho : hd1 (whR ws) = wNot) :
    Calls Tryz.prog 152 #[.pointer (some ⟨B, 0, none⟩)] w fun e w' => e = .returned (.bool (teH N ws)) ∧ WS B (teR ws) N (b && teB ws) w' ∧ Frm (At B) w w' := by
  have H := Lib.hid h
  have Hm := Lib.hid hm
  have t1 : (hd1 (whR ws) == [105, 115]) = false := by rw [Bool.eq_iff_iff, beq_iff_eq]; exact ⟨fun q => by first | rfl | exact absurd q he, fun q => by first | exact he | cases q⟩
  have t2 : (hd1 (whR ws) != [105, 115]) = !false := by rw [bne, t1]
  have t3 : (hd1 (whR ws) == [110, 111, 116]) = true := by rw [Bool.eq_iff_iff, beq_iff_eq]; exact ⟨fun q => by first | rfl | exact absurd q ho, fun q => by first | exact ho | cases q⟩
  have t4 : (hd1 (whR ws) != [110, 111, 116]) = !true := by rw [bne, t3]
  have He := Lib.hid he
  have Ho := Lib.hid ho
  have hB := h.lt
  clear h he ho hm
  go_enter Tryz.func152, Tryz.ntmps152
  go_wp2_with (first
    | (go_at_call 164; (with_reducible refine (what_c B ws N b _ H.out hN).mono ?_); rintro e w1 ⟨rfl, h1, hF1⟩; have H1 := Lib.hid h1; clear h1)
    | (go_at_call 165; (with_reducible refine (next_c B (whR ws) N (b && whB ws) _ H1.out).mono ?_); rintro e w2 ⟨rfl, h2, hF2⟩; have H2 := Lib.hid h2; have c2 := h2.fail; have f2 := h2.free 2; have z2 := h2.lt; clear h2; have Hm2 := Lib.hid (Hm.out.frm (hF1.trans hF2) hG))
    | (go_at_call 166; (with_reducible refine (list_c B (tl1 (whR ws)) N (b && whB ws) (whN N ws) _ H2.out Hm2.out hG).mono ?_); rintro e w3 ⟨rfl, h3, hF3⟩))
  go_ret
  exact ⟨ret_b (by unfold teH; simp [He.out]), by unfold teR teB; simpa [Ho.out, Bool.and_assoc] using h3, (hF1.trans hF2).trans hF3⟩
set_option maxRecDepth 100000 in
set_option maxHeartbeats 1000000 in
theorem test_no (B : Nat) (ws : List (List UInt8)) (N : Nat) (b : Bool) (w : World) (h : WS B ws N b w) (hN : (N : Int) ≤ 4611686018427387904) (hm : Lm w) (hG : 0 ≠ B) (he : hd1 (whR ws) ≠ wIs) (ho : hd1 (whR ws) ≠ wNot) :
    Calls Tryz.prog 152 #[.pointer (some ⟨B, 0, none⟩)] w fun e w' => e = .returned (.bool (teH N ws)) ∧ WS B (teR ws) N (b && teB ws) w' ∧ Frm (At B) w w' := by
  have H := Lib.hid h
  have Hm := Lib.hid hm
  have t1 : (hd1 (whR ws) == [105, 115]) = false := by rw [Bool.eq_iff_iff, beq_iff_eq]; exact ⟨fun q => by first | rfl | exact absurd q he, fun q => by first | exact he | cases q⟩
  have t2 : (hd1 (whR ws) != [105, 115]) = !false := by rw [bne, t1]
  have t3 : (hd1 (whR ws) == [110, 111, 116]) = false := by rw [Bool.eq_iff_iff, beq_iff_eq]; exact ⟨fun q => by first | rfl | exact absurd q ho, fun q => by first | exact ho | cases q⟩
  have t4 : (hd1 (whR ws) != [110, 111, 116]) = !false := by rw [bne, t3]
  have He := Lib.hid he
  have Ho := Lib.hid ho
  have hB := h.lt
  clear h he ho hm
  go_enter Tryz.func152, Tryz.ntmps152
  go_wp2_with (first
    | (go_at_call 164; (with_reducible refine (what_c B ws N b _ H.out hN).mono ?_); rintro e w1 ⟨rfl, h1, hF1⟩; have H1 := Lib.hid h1; clear h1)
    | (go_at_call 165; (with_reducible refine (next_c B (whR ws) N (b && whB ws) _ H1.out).mono ?_); rintro e w2 ⟨rfl, h2, hF2⟩; have H2 := Lib.hid h2; have c2 := h2.fail; have f2 := h2.free 2; have z2 := h2.lt; clear h2; have Hm2 := Lib.hid (Hm.out.frm (hF1.trans hF2) hG))
    | (go_at_call 166; (with_reducible refine (list_c B (tl1 (whR ws)) N false (whN N ws) _ H2.out.bad (lm_at Hm2.out (frm_at _ _ _ _) hG) hG).mono ?_); rintro e w3 ⟨rfl, h3, hF3⟩))
  go_ret
  exact ⟨ret_b (by unfold teH; simp [He.out]), by unfold teR teB; simpa [He.out, Ho.out, Bool.and_assoc] using h3, ((hF1.trans hF2).trans (frm_at _ _ _ _)).trans hF3⟩
theorem is_not : wIs ≠ wNot := by decide
theorem test_c (B : Nat) (ws : List (List UInt8)) (N : Nat) (b : Bool) (w : World) (h : WS B ws N b w) (hN : (N : Int) ≤ 4611686018427387904) (hm : Lm w) (hG : 0 ≠ B) :
    Calls Tryz.prog 152 #[.pointer (some ⟨B, 0, none⟩)] w fun e w' => e = .returned (.bool (teH N ws)) ∧ WS B (teR ws) N (b && teB ws) w' ∧ Frm (At B) w w' := by
  by_cases he : hd1 (whR ws) = wIs
  · exact test_is B ws N b w h hN hm hG he (by rw [he]; exact is_not)
  · by_cases ho : hd1 (whR ws) = wNot
    · exact test_not B ws N b w h hN hm hG he ho
    · exact test_no B ws N b w h hN hm hG he ho
def wlen (B : Nat) (w : World) : Nat := match w.cell? ⟨B, 0, none⟩ with | some (.slice _ l _) => l | _ => 0
theorem wlen_eq {B : Nat} {ws : List (List UInt8)} {n : Int} {b : Bool} {w : World} (h : WS B ws n b w) : wlen B w = ws.length := by
  obtain ⟨R, off, c0, _⟩ := h.cells
  unfold wlen
  rw [c0]
set_option maxRecDepth 100000 in
set_option maxHeartbeats 1000000 in
theorem group_c (B : Nat) (ws : List (List UInt8)) (N : Nat) (b : Bool) (w : World) (h : WS B ws N b w) (hN : (N : Int) ≤ 4611686018427387904) (hm : Lm w) (hG : 0 ≠ B) :
    Calls Tryz.prog 119 #[.pointer (some ⟨B, 0, none⟩)] w fun e w' => e = .returned (.bool (grp N ws b).1) ∧ WS B (grp N ws b).2.1 N (grp N ws b).2.2 w' ∧ Frm (At B) w w' := by
  have H := Lib.hid h
  have Hm := Lib.hid hm
  clear h hm
  obtain ⟨T, hT⟩ : ∃ T, T = grp N ws b := ⟨_, rfl⟩
  have HT : Hid (grL N (teH N ws) (teR ws) (b && teB ws) = T) := by rw [Hid, hT]; rfl
  rw [← hT]
  clear hT
  go_enter Tryz.func119, Tryz.ntmps119
  go_wp2_with (go_at_call 152; (with_reducible refine (test_c B ws N b _ H.out hN Hm.out hG).mono ?_); rintro e w1 ⟨rfl, h1, hF1⟩; have H1 := Lib.hid h1; clear h1; have Hm1 := Lib.hid (lm_at Hm.out hF1 hG))
  go_loopw [3] (fun hv wr => ∃ (hb b' : Bool) (ws' : List (List UInt8)), hv = .bool hb ∧ Hid (WS B ws' N b' wr) ∧ Hid (grL N hb ws' b' = T) ∧ Frm (At B) w wr ∧ Hid (Lm wr)) (fun _ wr => wlen B wr)
  case atStart => exact ⟨teH N ws, b && teB ws, teR ws, rfl, H1, HT, hF1, Hm1⟩
  case round =>
    obtain ⟨hb, b', ws', rfl, hr, HTr, hFr, Hmr⟩ := hrel
    by_cases ha : ws'.head? = some wAnd
    · obtain ⟨e1, e2⟩ := isB_true ha
      obtain ⟨r, hr2⟩ : ∃ r, ws' = wAnd :: r := by
        cases ws' with
        | nil => cases ha
        | cons x r => exact ⟨r, by rw [Option.some.inj ha]⟩
      have HT2 : Hid (grL N (teH N r && hb) (teR r) (b' && teB r) = T) := by
        have := HTr.out
        rw [hr2, grL_and] at this
        exact this
      have e3 : tl1 ws' = r := by rw [hr2]; rfl
      rw [e3] at e2
      have E1 := Lib.hid e1
      have E2 := Lib.hid e2
      have Hlen : Hid (wlen B wr = r.length + 1) := by rw [Hid, wlen_eq hr.out, hr2]; rfl
      clear ha e1 e2 e3 hr2 HT H H1 Hm Hm1 HTr
      obtain ⟨tv, htv⟩ : ∃ tv, tv = teH N r := ⟨_, rfl⟩
      have Htv := Lib.hid htv
      rw [← htv] at HT2
      clear htv
      cases tv
      all_goals
        go_wp2_with (first
          | (go_at_call 120; (with_reducible refine (is_and B ws' N b' _ hr.out).mono ?_); (with_reducible rw [E1.out, E2.out]); rintro e w2 ⟨rfl, h2, hF2⟩; have H2 := Lib.hid h2; clear h2; have Hm2 := Lib.hid (lm_at Hmr.out hF2 hG))
          | (go_at_call 152; (with_reducible refine (test_c B r N b' _ H2.out hN Hm2.out hG).mono ?_); (with_reducible rw [← Htv.out]); rintro e w3 ⟨rfl, h3, hF3⟩))
        go_roundw
        case rel => exact ⟨_, b' && teB r, teR r, rfl, h3, HT2, (hFr.trans hF2).trans hF3, lm_at Hm2.out hF3 hG⟩
        case measure =>
          rw [wlen_eq h3, Hlen.out]
          have := teR_len r
          omega
    · obtain ⟨e1, e2⟩ := isB_false ha
      have HT2 : Hid (T = (hb, ws', b')) := by
        rw [Hid, ← HTr.out]
        cases ws' with
        | nil => rw [grL_nil]
        | cons x r => rw [grL_no _ _ _ _ _ (fun q => ha (by rw [q]; rfl))]
      have E1 := Lib.hid e1
      have E2 := Lib.hid e2
      clear ha e1 e2 HT H H1 Hm Hm1 HTr
      go_wp2_with (go_at_call 120; (with_reducible refine (is_and B ws' N b' _ hr.out).mono ?_); (with_reducible rw [E1.out, E2.out]); rintro e w2 ⟨rfl, h2, hF2⟩)
      go_ret
      exact ⟨ret_b (by rw [HT2.out]), by rw [HT2.out]; exact h2, hFr.trans hF2⟩
end Go.Proofs.YtlmoibmmjonjoaaGreatDoor
