/- Rules for numbers, plainly: as the program reads them, and what they say. No program in sight. -/
import Derived.Test.YtbagbnceiadpdaaDoorStr
import Derived.Lib.SlTrimSet
namespace Go.Proofs.YtbagbnceiadpdaaDoor
set_option linter.unusedVariables false
set_option linter.unusedSimpArgs false

def wN : List UInt8 := [110]
def wMod : List UInt8 := [109, 111, 100]
def wIs : List UInt8 := [105, 115]
def wNot : List UInt8 := [110, 111, 116]
def wOr : List UInt8 := [111, 114]
def wAnd : List UInt8 := [97, 110, 100]
/-- A NUMBER. -/
def numB (s : List UInt8) : Bool := decide (1 ≤ s.length) && decide (s.length ≤ 9) && !(s.head? == some 48 && decide (1 < s.length)) && s.all isDg
def numN (s : List UInt8) : Nat := if numB s then val s else 0
/-- The next word and what follows. -/
def hd1 (ws : List (List UInt8)) : List UInt8 := ws.headD []
def tl1 (ws : List (List UInt8)) : List (List UInt8) := ws.tail
/-- An item: its two numbers. -/
def itLo (s : List UInt8) : Nat := numN (Lib.cut s [46, 46]).1
def itHi (s : List UInt8) : Nat := if (Lib.cut s [46, 46]).2.2 then numN (Lib.cut s [46, 46]).2.1 else itLo s
def itB (s : List UInt8) : Bool := numB (Lib.cut s [46, 46]).1 && (!(Lib.cut s [46, 46]).2.2 || numB (Lib.cut s [46, 46]).2.1)
def inIt (n : Nat) (s : List UInt8) : Bool := decide (itLo s ≤ n ∧ n ≤ itHi s)
/-- A list of items. -/
def inList (n : Nat) (w : List UInt8) : Bool := (spl 44 w).any (inIt n)
def listB (w : List UInt8) : Bool := (spl 44 w).all itB
/-- What is tested: the number, what is left, whether it is well formed. -/
def whN (n : Nat) (ws : List (List UInt8)) : Nat :=
  if (tl1 ws).head? = some wMod then (if numN (hd1 (tl1 (tl1 ws))) = 0 then 0 else n % numN (hd1 (tl1 (tl1 ws)))) else n
def whR (ws : List (List UInt8)) : List (List UInt8) := if (tl1 ws).head? = some wMod then tl1 (tl1 (tl1 ws)) else tl1 ws
def whB (ws : List (List UInt8)) : Bool := decide (hd1 ws = wN) && (decide ((tl1 ws).head? ≠ some wMod) || (numB (hd1 (tl1 (tl1 ws))) && decide (numN (hd1 (tl1 (tl1 ws))) ≠ 0)))
/-- A test. -/
def teH (n : Nat) (ws : List (List UInt8)) : Bool := inList (whN n ws) (hd1 (tl1 (whR ws))) == decide (hd1 (whR ws) = wIs)
def teR (ws : List (List UInt8)) : List (List UInt8) := tl1 (tl1 (whR ws))
def teB (ws : List (List UInt8)) : Bool := whB ws && decide (hd1 (whR ws) = wIs ∨ hd1 (whR ws) = wNot) && listB (hd1 (tl1 (whR ws)))
theorem teR_len (ws : List (List UInt8)) : (teR ws).length ≤ ws.length := by
  unfold teR whR tl1
  split <;> simp <;> omega
/-- The tests of a group behind the first one. -/
def grL (n : Nat) (h : Bool) (ws : List (List UInt8)) (b : Bool) : Bool × List (List UInt8) × Bool :=
  match _e : ws with
  | [] => (h, [], b)
  | w :: r => if w = wAnd then grL n (teH n r && h) (teR r) (b && teB r) else (h, w :: r, b)
termination_by ws.length
decreasing_by
  have := teR_len r
  simp; omega
def grp (n : Nat) (ws : List (List UInt8)) (b : Bool) : Bool × List (List UInt8) × Bool := grL n (teH n ws) (teR ws) (b && teB ws)
theorem grL_len (n : Nat) (h : Bool) (ws : List (List UInt8)) (b : Bool) : (grL n h ws b).2.1.length ≤ ws.length := by
  induction hn : ws.length using Nat.strongRecOn generalizing h ws b with
  | ind k ih =>
    unfold grL
    split
    · simp
    · rename_i w r
      split
      · have := teR_len r
        have := ih (teR r).length (by simp at hn; omega) (teH n r && h) (teR r) (b && teB r) rfl
        simp at hn; omega
      · simp at hn ⊢; omega
theorem grp_len (n : Nat) (ws : List (List UInt8)) (b : Bool) : (grp n ws b).2.1.length ≤ ws.length := by
  unfold grp
  have := grL_len n (teH n ws) (teR ws) (b && teB ws)
  have := teR_len ws
  omega
/-- The groups behind the first one. -/
def ruL (n : Nat) (h : Bool) (ws : List (List UInt8)) (b : Bool) : Bool × List (List UInt8) × Bool :=
  match _e : ws with
  | [] => (h, [], b)
  | w :: r => if w = wOr then ruL n ((grp n r b).1 || h) (grp n r b).2.1 (grp n r b).2.2 else (h, w :: r, b)
termination_by ws.length
decreasing_by
  have := grp_len n r b
  simp; omega
/-- A rule: whether it holds, whether it is one. -/
def rul (n : Nat) (ws : List (List UInt8)) : Bool × Bool :=
  let g := grp n ws true
  let q := ruL n g.1 g.2.1 g.2.2
  (q.1, q.2.2 && q.2.1.isEmpty)
end Go.Proofs.YtbagbnceiadpdaaDoor
