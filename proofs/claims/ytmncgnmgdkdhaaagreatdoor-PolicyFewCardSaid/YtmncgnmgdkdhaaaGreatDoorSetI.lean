/- A map[int64]bool that a call makes and keeps as a set. -/
import Derived.Test.YtmncgnmgdkdhaaaGreatDoorBase
import Derived.Maps.OwnSet
import Derived.Maps.OwnOps
namespace Go.Proofs.YtmncgnmgdkdhaaaGreatDoor
open Go.RowKit Go.Maps
set_option linter.unusedVariables false
theorem plainElem_bool_inv {H : Type} {P : Program} {e : TypeId} (he : P.underlying e = some .bool) {v : Value} {z : DataW H × List MemPlace} (h : plainElem P e v = some z) : ∃ b, v = .bool b ∧ z = (.lit (.bool b), []) := by
  unfold plainElem at h
  rw [he] at h
  cases v <;> simp at h
  rename_i b
  exact ⟨b, rfl, h.symm⟩
/-- Block b is a set of just these numbers. -/
def SetI (w : World) (b : Nat) (met : List Int) : Prop :=
  ∃ (D : DataW Unit), w.ownsMap Tryz.prog 2 (plainElem Tryz.prog 4) b met.length D ∧ IsMap D ∧ Tidy D ∧ size D = met.length ∧ (∀ x : Int, has D (.int .i64 x) = decide (x ∈ met)) ∧ ∀ x : Int, D.atKey (.int .i64 x) (.lit (.bool false)) = .lit (.bool (decide (x ∈ met)))
theorem SetI.made (w : World) : SetI (w.alloc (.map #[] 0)) w.heap.size [] :=
  ⟨.map [], World.ownsMap_made _ _ _ _, isMap_empty, tidy_empty, rfl, fun x => rfl, fun x => rfl⟩
theorem SetI.lt {w : World} {b : Nat} {met : List Int} (h : SetI w b met) : b < w.heap.size := by obtain ⟨D, h1, _⟩ := h; exact h1.lt
theorem SetI.kept {w w' : World} {b : Nat} {met : List Int} (h : SetI w b met) (hb : Below w.heap.size w w') : SetI w' b met := by
  obtain ⟨D, h1, h2⟩ := h
  exact ⟨D, h1.kept (row := none) ⟨hb.os, hb.tape, hb.output, hb.size, fun k hk _ => hb.block k hk⟩ (by simp), h2⟩
theorem SetI.grown {w w' : World} {b c : Nat} {met : List Int} (h : SetI w b met) (hg : w.grownBy w' (some c)) (hne : b ≠ c) : SetI w' b met := by
  obtain ⟨D, h1, h2⟩ := h
  exact ⟨D, h1.kept hg (by simp [hne]), h2⟩
theorem wf_i64' {x : Int} (h0 : -9223372036854775808 ≤ x) (h1 : x ≤ 9223372036854775807) : (Lit.int .i64 x).wf = true := WalkArith.wf_i64 (by omega)
set_option maxRecDepth 100000 in
theorem SetI.look {w : World} {b : Nat} {met : List Int} (h : SetI w b met) {x : Int} (h0 : -9223372036854775808 ≤ x) (h1 : x ≤ 9223372036854775807) :
    (Instr.lookup 95 (.map (some b)) (.int .i64 x) false).run Tryz.prog w = .ok (.bool (decide (x ∈ met))) w := by
  obtain ⟨D, g1, g2, g3, g4, g5, g6⟩ := h
  obtain ⟨v, ps, hrun, hv⟩ := g1.lookup (int_keyed Tryz.underlying2) Tryz.underlying95 (z := .bool false) (Tryz.zeroValue4 w) (plainElem_bool Tryz.underlying4 false) (keyOf_int_mk Tryz.underlying2 (wf_i64' h0 h1))
  rw [g6] at hv
  obtain ⟨c, rfl, hc⟩ := plainElem_bool_inv Tryz.underlying4 hv
  rw [hrun]
  injection hc with hc _
  injection hc with hc
  injection hc with hc
  rw [hc]
theorem SetI.len {w : World} {b : Nat} {met : List Int} (h : SetI w b met) (ty : TypeId) : (Builtin.len_ #[95] ty #[.map (some b)]).run Tryz.prog w = .ok (.int .i64 met.length) w := by
  obtain ⟨D, g1, g2, g3, g4, g5, g6⟩ := h
  rw [g1.len Tryz.underlying95 ty, g4]
theorem isKey_i64 {x : Int} (h0 : -9223372036854775808 ≤ x) (h1 : x ≤ 9223372036854775807) : WideAt.IsKeyLit (.int .i64 x) := by
  have h : mapKey Tryz.prog 2 (.int .i64 x) = some (.int .i64 x) := by simp [mapKey, Tryz.underlying2, wf_i64' h0 h1]
  obtain ⟨_, _, _, h3⟩ := Go.WideShapes.mapKey_isKey h
  exact h3
theorem SetI.add {w : World} {b : Nat} {met : List Int} (h : SetI w b met) {x : Int} (h0 : -9223372036854775808 ≤ x) (h1 : x ≤ 9223372036854775807) (hx : x ∉ met) (hn : met.length < 1000000000) :
    ∃ w', (Instr.mapUpdate 95 (.map (some b)) (.int .i64 x) (.bool true)).run Tryz.prog w = .ok () w' ∧ SetI w' b (x :: met) ∧ w.grownBy w' (some b) := by
  obtain ⟨D, g1, g2, g3, g4, g5, g6⟩ := h
  obtain ⟨w', hrun, r1, r2⟩ := g1.update (int_keyed Tryz.underlying2) Tryz.underlying95 (by unfold maxLen; omega) (keyOf_int_mk Tryz.underlying2 (wf_i64' h0 h1)) (plainElem_bool Tryz.underlying4 true)
  have hk := isKey_i64 h0 h1
  have hne : ∀ y : Int, y ≠ x → (Lit.int .i64 y) ≠ .int .i64 x := fun y hy e => hy (by injection e)
  refine ⟨w', hrun, ⟨_, r1, g2.put _ _, g3.put hk _, ?_, ?_, ?_⟩, r2⟩
  · rw [size_put g3, g5, decide_eq_false hx, g4]; rfl
  · intro y
    by_cases hy : y = x
    · subst hy; rw [has_put_same g2 hk]; simp
    · rw [has_put_other (hne y hy), g5]; simp [hy]
  · intro y
    by_cases hy : y = x
    · subst hy; rw [atKey_put_same g2 hk]; simp
    · rw [atKey_put_other (hne y hy), g6]; simp [hy]
end Go.Proofs.YtmncgnmgdkdhaaaGreatDoor
