/- The walks of the document's Insert and Names, of Great and Same. -/
import Derived.Test.YtadoplgmeoghmaaDoorRawW
namespace Go.Proofs.YtadoplgmeoghmaaDoor
open Go.RowKit
set_option linter.unusedVariables false
set_option linter.unusedSimpArgs false
attribute [local go_sem] ba_get ba_cut ba_add
/-- A slice that the call made, of texts. -/
def OutT (base : Nat) (l : List (List UInt8)) (v : Value) (w' : World) : Prop := ∃ A c, v = .slice A l.length c ∧ w'.ownsRow base 9 1 (.slice A l.length c) l.length (strs l)
theorem insR_done {s x : List UInt8} {o : List (List UInt8)} : Pl.insR s (o, true) x = (if x = s then o else o ++ [x], true) := by simp [Pl.insR]
theorem insR_less {s x : List UInt8} {o : List (List UInt8)} (h : Pl.less x s = true) : Pl.insR s (o, false) x = (o ++ [x], false) := by simp [Pl.insR, h, Pl.less_ne h]
theorem insR_ge {s x : List UInt8} {o : List (List UInt8)} (h : Pl.less x s = false) : Pl.insR s (o, false) x = (if x = s then o ++ [s] else o ++ [s] ++ [x], true) := by simp [Pl.insR, h]
theorem strs_snoc' (l : List (List UInt8)) (s : List UInt8) (n : Nat) (h : l.length = n) : strs l ++ [.string ⟨s.toArray⟩] = strs (l ++ [s]) ∧ (l ++ [s]).length = n + 1 := ⟨(strs_snoc l s).symm, by simp [h]⟩
end Go.Proofs.YtadoplgmeoghmaaDoor
