/- The walk of the statements' manifestAlive: true. -/
import Derived.Test.YtadoplgmeoghmaaDoorMfByW
import Derived.Test.YtadoplgmeoghmaaDoorConcatW
namespace Go.Proofs.YtadoplgmeoghmaaDoor
open Go.RowKit
set_option linter.unusedVariables false
set_option linter.unusedSimpArgs false
attribute [local go_sem] ba_get ba_cut ba_add
def snap1 : Pl.Snap := ⟨[109], 1, 0, 0, 1, 1, [], [], [], List.replicate 32 0⟩
def cx0 : Cx := ⟨none, 0, 0, none, 0, 0, none, 0, 0⟩
theorem sl_nil (w : World) : SlAt w 1 none 0 0 (strs []) := ⟨Rd.nil, by omega, by omega, fun _ => rfl⟩
theorem ok_one (w : World) : SnOk w snap1 cx0 := ⟨sl_nil w, sl_nil w, sl_nil w, by decide⟩
theorem ok_zero (w : World) : SnOk w Pl.zeroS cx0 := ⟨sl_nil w, sl_nil w, sl_nil w, by decide⟩
theorem fit_one : SnFit snap1 := ⟨by decide, by simp [snap1], by simp [snap1], by simp [snap1], by decide, by decide, by decide⟩
theorem fit_zero : SnFit Pl.zeroS := ⟨by decide, by simp [Pl.zeroS], by simp [Pl.zeroS], by simp [Pl.zeroS], by decide, by decide, by decide⟩
theorem chk_one : Pl.mchk snap1 = 0 := by decide +kernel
theorem chk_zero7 : Pl.mchk Pl.zeroS = 7 := by decide +kernel
theorem by_zero : Pl.mbytes Pl.zeroS = ([], 7) := by rw [Pl.mbytes_no (by rw [chk_zero7]; omega), chk_zero7]
theorem by_one : ∃ b : List UInt8, Pl.mbytes snap1 = (b, 0) ∧ 7 < b.length ∧ b.take 7 = [4, 104, 105, 98, 109, 1, 109] := by
  rw [Pl.mbytes_ok chk_one]
  have e : Pl.rowB (Pl.sheet snap1) = [4, 104, 105, 98, 109, 1, 109] ++ Pl.rowB ((Pl.sheet snap1).drop 2) := by
    have h : Pl.sheet snap1 = [Pl.hibm, [109]] ++ (Pl.sheet snap1).drop 2 := rfl
    rw [h, Pl.rowB_append]
    simp [Pl.rowB, Pl.lenB_lt, Pl.hibm]
  refine ⟨_, rfl, ?_, ?_⟩
  · rw [e]
    have hd : (Pl.sheet snap1).drop 2 ≠ [] := by simp [Pl.sheet]
    have := List.length_pos_iff.2 (fun h => hd (Pl.rowB_nil _ h))
    rw [List.length_append]
    simp only [List.length_cons, List.length_nil]
    omega
  · rw [e]; rfl
end Go.Proofs.YtadoplgmeoghmaaDoor
