/- Plain Lean: a program, its file, its pages. No program in sight. -/
import Derived.Test.YtmmnkoeajdeldaaGreatDoorNumPlain
namespace Go.Proofs.YtmmnkoeajdeldaaGreatDoor.Pl

/-- A program: its words, the bytes behind them, how many bytes of nothing, where it begins. -/
structure Exe where
  text : List Nat
  data : List UInt8
  room : Int
  entry : Nat

def pagesN (n : Int) : Int := (n + 127) / 128
/-- Why a program may not be. -/
def chkB (x : Exe) : Bool := decide (x.text.length < 1 ∨ 448 < x.text.length ∨ x.room < 0 ∨ x.entry % 4 ≠ 0 ∨ 4 * x.text.length ≤ x.entry ∨ 1792 < x.data.length ∨ 1792 < x.room ∨ 14 < pagesN (4 * x.text.length) + pagesN (x.data.length + x.room))
def chk (x : Exe) : Nat := if chkB x then 1 else 0
/-- Words as bytes. -/
def wordsB : List Nat → List UInt8
  | [] => []
  | w :: l => putB w 4 ++ wordsB l
/-- The file. -/
def fileB (x : Exe) : List UInt8 := [104, 105, 98, 120] ++ (putB x.entry 4 ++ (putB x.text.length 2 ++ (putB x.data.length 2 ++ (putB x.room.toNat 2 ++ (wordsB x.text ++ x.data)))))

theorem wordsB_snoc (l : List Nat) (w : Nat) : wordsB (l ++ [w]) = wordsB l ++ putB w 4 := by
  induction l with
  | nil => simp [wordsB]
  | cons x l ih => simp [wordsB, ih]
theorem wordsB_take (l : List Nat) (j : Nat) (h : j < l.length) : wordsB (l.take (j + 1)) = wordsB (l.take j) ++ putB l[j] 4 := by
  rw [List.take_succ_eq_append_getElem h, wordsB_snoc]
theorem wordsB_len (l : List Nat) : (wordsB l).length = 4 * l.length := by
  induction l with
  | nil => rfl
  | cons x l ih => simp [wordsB, putB_len, ih]; omega
end Go.Proofs.YtmmnkoeajdeldaaGreatDoor.Pl
