/- The law's honest. -/
import Derived.Test.YtnapokalopcdkaaShL1
namespace Go.Proofs.Ytnapokalopcdkaa
open Go.RowKit
set_option linter.unusedVariables false
set_option linter.unusedSimpArgs false
def HonestOut (A : Option Addr) (n c : Nat) (v : Value) (w : World) : Prop := ∃ A2 c2, v = .agg #[.slice A n c, .slice A2 0 c2] ∧ SlAt w 1 A2 0 c2 (ints [])
set_option maxRecDepth 100000 in
theorem honest_any (A A' : Option Addr) (n c m c' : Nat) (w : World) : Calls Try.prog 15 #[.agg #[.slice A n c, .slice A' m c']] w (RetB (HonestOut A n c) w) := by
  go_enter Try.func15, Try.ntmps15
  go_wp2_with fail
  refine bodyPost_ret (v := .agg #[.slice A n c, .slice (some ⟨w.heap.size + 1 + 1, 0, none⟩) 0 0]) (by simp [results, Try.results15, go_sem]) rfl ⟨_, rfl, ⟨_, _, rfl, ⟨Rd.zero, by omega, by omega, fun h => by cases h⟩⟩, ?_⟩
  repeat first | exact Below.refl _ _ | (refine Below.alloc ?_ (by simp <;> omega) _) | (refine Below.setCell ?_ (by simp <;> omega) _)
end Go.Proofs.Ytnapokalopcdkaa
