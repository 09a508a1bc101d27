/- Plain Lean: parts of bytes (chapter 7): five parts, of which any three tell all. No program in sight. -/
import Derived.Test.YtdnebgilkfafhaaGreatDoorFdPl
namespace Go.Proofs.YtdnebgilkfafhaaGreatDoor.Pl
set_option linter.unusedVariables false
set_option linter.unusedSimpArgs false
/-- How many bytes a part has. -/
def rowsN (n : Nat) : Nat := (n + 2) / 3
/-- A row of a text, zeros behind it. -/
def rowAt (d : List UInt8) (n r : Nat) : List UInt8 := (List.range n).map fun i => d.getD (r * n + i) 0
/-- Part p of a text: its byte number i is the polynomial's value at p. -/
def partP (d : List UInt8) (p : UInt8) : List UInt8 := (List.range (rowsN d.length)).map fun i => atB 1 2 3 (d.getD i 0) (d.getD (rowsN d.length + i) 0) (d.getD (2 * rowsN d.length + i) 0) p
theorem partP_len (d : List UInt8) (p : UInt8) : (partP d p).length = rowsN d.length := by simp [partP]
/-- What three parts tell of one row. -/
def lineP (w : UInt8 × UInt8 × UInt8) (a b c : List UInt8) (n : Nat) (r : UInt8) : List UInt8 := (List.range n).map fun i => atB w.1 w.2.1 w.2.2 (a.getD i 0) (b.getD i 0) (c.getD i 0) r
/-- What three parts tell. -/
def joinP (w : UInt8 × UInt8 × UInt8) (a b c : List UInt8) (size : Nat) : List UInt8 := (lineP w a b c (rowsN size) 1 ++ (lineP w a b c (rowsN size) 2 ++ lineP w a b c (rowsN size) 3)).take size
theorem part_get (d : List UInt8) (p : UInt8) (i : Nat) (h : i < rowsN d.length) : (partP d p).getD i 0 = atB 1 2 3 (d.getD i 0) (d.getD (rowsN d.length + i) 0) (d.getD (2 * rowsN d.length + i) 0) p := by
  unfold partP
  rw [List.getD_eq_getElem?_getD, List.getElem?_map, List.getElem?_range h]
  rfl
theorem line_part (d : List UInt8) {w : UInt8 × UInt8 × UInt8} (hw : w ∈ ways) :
    lineP w (partP d w.1) (partP d w.2.1) (partP d w.2.2) (rowsN d.length) 1 = rowAt d (rowsN d.length) 0 ∧ lineP w (partP d w.1) (partP d w.2.1) (partP d w.2.2) (rowsN d.length) 2 = rowAt d (rowsN d.length) 1 ∧ lineP w (partP d w.1) (partP d w.2.1) (partP d w.2.2) (rowsN d.length) 3 = rowAt d (rowsN d.length) 2 := by
  refine ⟨?_, ?_, ?_⟩
  all_goals
    unfold lineP rowAt
    refine List.map_congr_left fun i hi => ?_
    have hi := List.mem_range.1 hi
    rw [part_get d _ i hi, part_get d _ i hi, part_get d _ i hi]
    have h := three_rows hw (d.getD i 0) (d.getD (rowsN d.length + i) 0) (d.getD (2 * rowsN d.length + i) 0)
  · rw [h.1, Nat.zero_mul, Nat.zero_add]
  · rw [h.2.1, Nat.one_mul]
  · rw [h.2.2]
theorem getD_append_left' (a b : List UInt8) (i : Nat) (h : i < a.length) : (a ++ b).getD i 0 = a.getD i 0 := by
  rw [List.getD_eq_getElem?_getD, List.getD_eq_getElem?_getD, List.getElem?_append_left h]
theorem rows_take (d : List UInt8) (n : Nat) (h : d.length ≤ 3 * n) : (rowAt d n 0 ++ (rowAt d n 1 ++ rowAt d n 2)).take d.length = d := by
  have l : ∀ r, (rowAt d n r).length = n := fun r => by simp [rowAt]
  apply List.ext_getElem?
  intro i
  rcases Nat.lt_or_ge i d.length with hi | hi
  · rw [List.getElem?_take, if_pos hi]
    have g : ∀ r j, j < n → r * n + j = i → (rowAt d n r)[j]? = d[i]? := fun r j hj he => by
      unfold rowAt
      rw [List.getElem?_map, List.getElem?_range hj]
      simp only [Option.map_some]
      rw [he, List.getD_eq_getElem?_getD, List.getElem?_eq_getElem hi]
      rfl
    rcases Nat.lt_or_ge i n with h1 | h1
    · rw [List.getElem?_append_left (by rw [l]; exact h1)]
      exact g 0 i h1 (by omega)
    rcases Nat.lt_or_ge i (2 * n) with h2 | h2
    · rw [List.getElem?_append_right (by rw [l]; exact h1), l, List.getElem?_append_left (by rw [l]; omega)]
      exact g 1 (i - n) (by omega) (by omega)
    · rw [List.getElem?_append_right (by rw [l]; exact h1), l, List.getElem?_append_right (by rw [l]; omega), l]
      exact g 2 (i - n - n) (by omega) (by omega)
  · rw [List.getElem?_eq_none (by rw [List.length_take]; omega), List.getElem?_eq_none hi]
/-- ANY THREE OF FIVE PARTS TELL ALL. -/
theorem join_cut (d : List UInt8) {w : UInt8 × UInt8 × UInt8} (hw : w ∈ ways) : joinP w (partP d w.1) (partP d w.2.1) (partP d w.2.2) d.length = d := by
  have h := line_part d hw
  unfold joinP
  rw [h.1, h.2.1, h.2.2]
  exact rows_take d (rowsN d.length) (by unfold rowsN; omega)
end Go.Proofs.YtdnebgilkfafhaaGreatDoor.Pl
