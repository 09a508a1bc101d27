/- The walks of slices.Grow and slices.Concat at texts, and of manifest's Names. -/
import Derived.Test.YtadoplgmeoghmaaDoorMf3W
import Derived.Test.YtadoplgmeoghmaaDoorOpen
import Derived.Test.YtadoplgmeoghmaaDoorLib
import Derived.Lib.OwnBridge
import Derived.Lib.AppendZeros
import Derived.Sort.OwnSorted
namespace Go.Proofs.YtadoplgmeoghmaaDoor
open Go.RowKit
set_option linter.unusedVariables false
set_option linter.unusedSimpArgs false
attribute [local go_sem] ba_get ba_cut ba_add
/-- append of n zeros to nil: a row of its own, n elements, with room. -/
theorem append_zeros_nil (n : Nat) (h0 : 0 < n) (h47 : n * 16 ≤ 140737488355328) (w : World) : ∃ (c : Nat) (W : World), (Builtin.append_ #[27, 3] 27 #[.slice none 0 0, .int .i64 (n : Int)]).run Tryd.prog w = .ok (.slice (some ⟨w.heap.size, 0, none⟩) n c) W ∧ n ≤ c ∧ W.ownsRow w.heap.size 9 1 (.slice (some ⟨w.heap.size, 0, none⟩) 0 c) 0 [] ∧ Below w.heap.size w W := by
  obtain ⟨i0, hi0, hz0, hz1, hz2⟩ := info_parts info_str
  have hn : n ≠ 0 := by omega
  have hw : IntKind.i64.wrap (n : Int) = n := by rw [IntKind.wrap_i64]; omega
  have h63' : ¬ (9223372036854775807 < (n : Int)) := by omega
  have h48' : ¬ (281474976710656 < Builtin.nextslicecap n 0 * i0.bytes) := by
    have := growslice_fits (need := n) (old := 0) (bytes := i0.bytes) (by omega) (by rw [hz2]; omega)
    omega
  have h48i : ¬ (281474976710656 < (n : Int) * (i0.bytes : Int)) := by rw [hz2]; omega
  have hneg : ¬ ((n : Int) < 0) := by omega
  have hns : ¬ (n * i0.size = 0) := by rw [hz1]; omega
  have hfit : ¬ (n = 0) := by omega
  refine ⟨grownCap w n 0 9, w.drew.alloc (.cells (Builtin.zeroCells (Value.string ⟨#[]⟩).cells n ++ Builtin.zeroCells (Value.string ⟨#[]⟩).cells (grownCap w n 0 9 - n)) 9), ?_, grownCap_ge w _ _ _, ?_, ?_⟩
  · simp [Builtin.append_, run_underlying Tryd.underlying27, run_underlying Tryd.underlying3, sizeOf, typeInfo, zeroValue, hi0, hz0, asInt, asIntOf, hw, hneg, hns, h63', h48', h48i, hfit, Question.forced, newRow, grownCap, Builtin.firstCells]
  · have h1 := grownCap_le_maxLen w n 0 9 (by unfold maxLen; omega)
    have h2 := grownCap_ge w n 0 9
    refine World.ownsRow_made (base := w.heap.size) (e := 9) (size := 1) w.drew _ _ (by simp) h1 ?_
    rw [Array.size_append, size_zeroCells, size_zeroCells]; show n * 1 + _ * 1 = _; omega
  · exact ((Below.refl _ _).drew).alloc (by simp) _
/-- A slice of its own, of no element yet. -/
def Own0 (base : Nat) (v : Value) (w' : World) : Prop := ∃ A c, v = .slice A 0 c ∧ w'.ownsRow base 9 1 (.slice A 0 c) 0 []
def sumTo (ss : List SlS) (k : Nat) : Nat := ((ss.map (·.n)).take k).sum
def catTo (ss : List SlS) (k : Nat) : List (List UInt8) := ((ss.map (·.l)).take k).flatten
theorem sumTo_succ (ss : List SlS) (k : Nat) (h : k < ss.length) : sumTo ss (k + 1) = sumTo ss k + ss[k].n := by
  have h' : k < (ss.map (·.n)).length := by simpa using h
  have e : (ss.map (·.n)).take (k + 1) = (ss.map (·.n)).take k ++ [(ss.map (·.n))[k]] := List.take_succ_eq_append_getElem h'
  unfold sumTo; rw [e, List.sum_append]; simp
theorem catTo_succ (ss : List SlS) (k : Nat) (h : k < ss.length) : catTo ss (k + 1) = catTo ss k ++ ss[k].l := by
  have h' : k < (ss.map (·.l)).length := by simpa using h
  have e : (ss.map (·.l)).take (k + 1) = (ss.map (·.l)).take k ++ [(ss.map (·.l))[k]] := List.take_succ_eq_append_getElem h'
  unfold catTo; rw [e, List.flatten_append]; simp
theorem sum_take_le (l : List Nat) (k : Nat) : (l.take k).sum ≤ l.sum := by
  induction l generalizing k with
  | nil => simp
  | cons x l ih =>
    cases k with
    | zero => simp
    | succ k => have := ih k; simp; omega
theorem sumTo_le (ss : List SlS) (k : Nat) : sumTo ss k ≤ sumTo ss ss.length := by
  unfold sumTo
  rw [List.take_of_length_le (l := ss.map (·.n)) (i := ss.length) (by simp)]
  exact sum_take_le _ _
end Go.Proofs.YtadoplgmeoghmaaDoor
