/- The walks of wire's empty, bare, Check: why a message may not be. -/
import Derived.Test.YtommlolhpaeioaaGreatDoorWireM
namespace Go.Proofs.YtommlolhpaeioaaGreatDoor
open Go.RowKit
set_option linter.unusedVariables false
set_option linter.unusedSimpArgs false
attribute [local go_sem] ba_get ba_cut ba_add
def rowsNil (s : Pl.Snap) (k : Nat) : Prop := ∀ j, j < k → Pl.ck s j = []
theorem zero_sum : Pl.zeroS.sum = List.replicate 32 0 := rfl
theorem zero32_by : zero32 = byC (List.replicate 32 0) := rfl
theorem wpList_build_Z_g {Z : List Value} (hZ : Z = zero32) {ops : Array Oper} {rest : List Oper} {op : Oper} {a : Act} {w : World} {Q : Exit → Act → World → Prop} (hw : Region.wanted op (yielded ops a.tmps) = true) (ho : op.op = .build 27 #[])
    (h : wpList Tryz.prog ops Q rest (a.put op.dst (.agg Z.toArray)) w) : wpList Tryz.prog ops Q (op :: rest) a w :=
  wpList_step fun K hK => by
    rw [if_pos hw]
    unfold Oper.wp execOp
    simp only [ho, Array.map_empty, Sem.run_bind, build_dig, Result.andThen_ok, Sem.run_pure]
    rw [hZ] at h
    exact hK _ _ h
/-- The nine fields are zero. -/
def loneZ (m : Pl.Msg) : Bool := decide (m.data = []) && (decide (m.snap.m = []) && (decide (m.snap.n = 0) && (decide (m.snap.at_ = 0) && (decide (m.snap.clock = 0) && (decide (m.snap.pages = 0) && (decide (m.snap.blocks = 0) && (decide (m.n = 0) && decide (m.why = 0))))))))
theorem empty_lone {m : Pl.Msg} (h : rowsNil m.snap 3) : Pl.emptyM m = (loneZ m && decide (m.snap.sum = List.replicate 32 0)) := by
  have h0 : m.snap.c0 = [] := h 0 (by omega)
  have h1 : m.snap.c1 = [] := h 1 (by omega)
  have h2 : m.snap.c2 = [] := h 2 (by omega)
  rw [Bool.eq_iff_iff]
  unfold Pl.emptyM Pl.plainS Pl.eqS loneZ Pl.zeroS
  simp only [Bool.and_eq_true, decide_eq_true_eq, h0, h1, h2, true_and]
  constructor
  · rintro ⟨a, ⟨b, c, d, e, f, g, i⟩, j, k⟩; exact ⟨⟨a, b, c, d, e, f, g, j, k⟩, i⟩
  · rintro ⟨⟨a, b, c, d, e, f, g, j, k⟩, i⟩; exact ⟨a, ⟨b, c, d, e, f, g, i⟩, j, k⟩
theorem empty_row {m : Pl.Msg} {k : Nat} (hk : k < 3) (h : Pl.ck m.snap k ≠ []) : Pl.emptyM m = false := by
  cases he : Pl.emptyM m
  · rfl
  · unfold Pl.emptyM at he
    simp only [Bool.and_eq_true, Pl.plainS_iff] at he
    rw [he.2.1] at h
    obtain rfl | rfl | rfl : k = 0 ∨ k = 1 ∨ k = 2 := by omega
    all_goals exact absurd rfl h
def loneZL : List Value := [.string ⟨#[]⟩, .string ⟨#[]⟩, .int .i64 0, .int .i64 0, .int .u64 0, .int .i64 0, .int .i64 0, .int .i64 0, .int .i64 0]
end Go.Proofs.YtommlolhpaeioaaGreatDoor
