/- The walk of wire's bare: the message without what its kind has. -/
import Derived.Test.YtommlolhpaeioaaGreatDoorWireC
import Derived.Test.YtommlolhpaeioaaGreatDoorMfAl
import Derived.Deep.Upon
namespace Go.Proofs.YtommlolhpaeioaaGreatDoor
open Go.RowKit
set_option linter.unusedVariables false
set_option linter.unusedSimpArgs false
attribute [local go_sem] ba_get ba_cut ba_add
theorem range_append {w : World} {b o : Nat} {xs ys : List Value} (h1 : w.rangeAt b o xs) (h2 : w.rangeAt b (o + xs.length) ys) : w.rangeAt b o (xs ++ ys) := fun j v hv => by
  rcases Nat.lt_or_ge j xs.length with hj | hj
  · rw [List.getElem?_append_left hj] at hv; exact h1 j v hv
  · rw [List.getElem?_append_right hj] at hv
    have := h2 (j - xs.length) v hv
    rwa [show o + xs.length + (j - xs.length) = o + j by omega] at this
theorem there_sub {w : World} {b o n m : Nat} (h : w.there b 0 n) (hm : o + m ≤ n) : w.there b o m := fun i hi => by
  have := h (o + i) (by omega)
  rwa [Nat.zero_add] at this
def BareOut (m : Pl.Msg) (v : Value) (w' : World) : Prop := ∃ X', v = .tuple #[.agg (mgL (Pl.bareM m) X').toArray, .bool (Pl.knownM m)] ∧ SnOk w' (Pl.bareM m).snap X'
theorem set_data (m : Pl.Msg) (X : Cx) : (mgL m X).set 1 (.string ⟨#[]⟩) = mgL { m with data := [] } X := rfl
theorem set_n (m : Pl.Msg) (X : Cx) (hs : m.snap.sum.length = 32) : (mgL m X).set 43 (.int .i64 0) = mgL { m with n := 0 } X := by
  have hl : (snL m.snap X).length = 41 := by simp [snL, byC_len, hs]
  unfold mgL
  rw [List.set_append_right _ _ (by simp), List.set_append_right _ _ (by simp [hl])]
  simp [hl]
theorem set_why (m : Pl.Msg) (X : Cx) (hs : m.snap.sum.length = 32) : (mgL m X).set 44 (.int .i64 0) = mgL { m with why := 0 } X := by
  have hl : (snL m.snap X).length = 41 := by simp [snL, byC_len, hs]
  unfold mgL
  rw [List.set_append_right _ _ (by simp), List.set_append_right _ _ (by simp [hl])]
  simp [hl]
theorem snL_one (s : Pl.Snap) (X : Cx) : ∀ v ∈ snL s X, v.oneCell' = true := by
  intro v hv
  unfold snL at hv
  rcases List.mem_append.1 hv with h | h
  · simp only [List.mem_cons, List.not_mem_nil, or_false] at h
    rcases h with rfl | rfl | rfl | rfl | rfl | rfl | rfl | rfl | rfl <;> rfl
  · exact byC_one _ v h
theorem mgL_one (m : Pl.Msg) (X : Cx) : (mgL m X).toArray.all (·.oneCell') = true := all_oneCell_toArray fun v hv => by
  unfold mgL at hv
  rcases List.mem_append.1 hv with h | h
  · simp only [List.mem_cons, List.not_mem_nil, or_false] at h
    rcases h with rfl | rfl <;> rfl
  · rcases List.mem_append.1 h with h | h
    · exact snL_one _ _ v h
    · simp only [List.mem_cons, List.not_mem_nil, or_false] at h
      rcases h with rfl | rfl <;> rfl
theorem wpList_build_snap {ZS : List Value} (hZ : snL Pl.zeroS cx0 = ZS) {ops : Array Oper} {rest : List Oper} {op : Oper} {a : Act} {w : World} {Q : Exit → Act → World → Prop} (hgd : op.guard = none) (ho : op.op = .build 29 #[])
    (h : wpList Tryz.prog ops Q rest (a.put op.dst (.agg ZS.toArray)) w) : wpList Tryz.prog ops Q (op :: rest) a w :=
  wpList_plain hgd fun _ hK => by
    have hb : (Instr.build 29 #[]).run Tryz.prog w = .ok (.agg (snL Pl.zeroS cx0).toArray) w := run_build w 29 _ _ (by kernel_rfl)
    unfold Oper.wp execOp
    simp only [ho, Array.map_empty, Sem.run_bind, hb, Result.andThen_ok, Sem.run_pure]
    rw [hZ]
    exact hK _ _ h
theorem bareM_12 {m : Pl.Msg} (h : m.k = 1 ∨ m.k = 2) : Pl.bareM m = { m with data := [] } := by unfold Pl.bareM; rw [if_pos h]
theorem bareM_3 {m : Pl.Msg} (h : m.k = 3) : Pl.bareM m = { m with snap := Pl.zeroS } := by unfold Pl.bareM; rw [if_neg (by omega), if_pos h]
theorem bareM_4 {m : Pl.Msg} (h : m.k = 4) : Pl.bareM m = { m with n := 0 } := by unfold Pl.bareM; rw [if_neg (by omega), if_neg (by omega), if_pos h]
theorem bareM_5 {m : Pl.Msg} (h : m.k = 5) : Pl.bareM m = { m with why := 0 } := by unfold Pl.bareM; rw [if_neg (by omega), if_neg (by omega), if_neg (by omega), if_pos h]
theorem bareM_no {m : Pl.Msg} (h : ¬ (1 ≤ m.k ∧ m.k ≤ 5)) : Pl.bareM m = m := by unfold Pl.bareM; rw [if_neg (by omega), if_neg (by omega), if_neg (by omega), if_neg (by omega)]
end Go.Proofs.YtommlolhpaeioaaGreatDoor
