/- One object of the call's own row is written anew. -/
import Derived.Test.YtnapokalopcdkaaShIns2
namespace Go.Proofs.Ytnapokalopcdkaa
open Go.RowKit
set_option linter.unusedVariables false

theorem set4 (L : List Value) (a : Nat) (v0 v1 v2 v3 : Value) (h : a + 4 ≤ L.length) : (((L.set a v0).set (a + 1) v1).set (a + 2) v2).set (a + 3) v3 = splice L a [v0, v1, v2, v3] := by
  apply List.ext_getElem?
  intro j
  unfold splice
  simp only [List.getElem?_set, List.length_set, List.getElem?_append, List.length_take, List.getElem?_take, List.length_cons, List.length_nil, List.getElem?_drop]
  have hm : min a L.length = a := by omega
  rw [hm]
  by_cases h1 : j < a
  · rw [if_pos h1, if_neg (by omega), if_neg (by omega), if_neg (by omega), if_neg (by omega), if_pos h1]
  · rw [if_neg h1]
    by_cases h2 : j < a + 4
    · obtain rfl | rfl | rfl | rfl : j = a ∨ j = a + 1 ∨ j = a + 2 ∨ j = a + 3 := by omega
      all_goals simp
      all_goals omega
    · rw [if_neg (by omega), if_neg (by omega), if_neg (by omega), if_neg (by omega), if_neg (by omega)]
      congr 1
      omega
theorem take_splice (L Y : List Value) (a m : Nat) (h : a + Y.length ≤ m) (hm : m ≤ L.length) : (splice L a Y).take m = splice (L.take m) a Y := by
  unfold splice
  rw [List.take_append, List.take_append, List.take_take, List.take_take, List.length_take, List.drop_take]
  rw [show min m a = a by omega, show min a m = a by omega, show min a L.length = a by omega, List.take_of_length_le (l := Y) (by omega)]
  congr 3
  omega
theorem objCs_set (l : List Pl.Obj) (i : Nat) (o : Pl.Obj) (hi : i < l.length) : objCs (l.set i o) = splice (objCs l) (i * 4) (objC o) := by
  rw [List.set_eq_take_append_cons_drop, if_pos hi, objCs_app, show objCs (o :: l.drop (i + 1)) = objC o ++ objCs (l.drop (i + 1)) from rfl]
  unfold splice
  rw [objCs_take, show i * 4 + (objC o).length = (i + 1) * 4 by simp [objC]; omega, objCs_drop]
theorem own_obj_set {base n c g : Nat} {l : List Pl.Obj} {w : World} (h : w.ownsRow base 50 4 (.slice (some ⟨g, 0, none⟩) n c) n (objCs l)) (hl : l.length = n) {i : Nat} (hi : i < n) (o : Pl.Obj) :
    ((((w.setCell ⟨g, i * 4, none⟩ (.string ⟨o.name.toArray⟩)).setCell ⟨g, i * 4 + 1, none⟩ (.string ⟨o.data.toArray⟩)).setCell ⟨g, i * 4 + 2, none⟩ (.string ⟨o.was.toArray⟩)).setCell ⟨g, i * 4 + 3, none⟩ (.bool o.had)).ownsRow base 50 4 (.slice (some ⟨g, 0, none⟩) n c) n (objCs (l.set i o)) := by
  rcases h.2 with ⟨h1, -⟩ | ⟨g', cap, cur, h1, h2, h3, h4, h5, h6, h7⟩
  · injection h1 with h1; cases h1
  · injection h1 with h1 _ hc
    injection h1 with h1
    injection h1 with h1 _
    subst h1 hc
    refine ⟨by rw [objCs_len, List.length_set, hl], .inr ⟨g, c, _, rfl, h2, set_at _ _ _ _ _ _ (set_at _ _ _ _ _ _ (set_at _ _ _ _ _ _ (set_at _ _ _ _ _ _ h3))), h4, h5, by simp [h6], ?_⟩⟩
    have hcl : cur.toList.length = c * 4 := by simpa using h6
    have e := set4 cur.toList (i * 4) (.string ⟨o.name.toArray⟩) (.string ⟨o.data.toArray⟩) (.string ⟨o.was.toArray⟩) (.bool o.had) (by omega)
    simp only [Array.toList_setIfInBounds]
    rw [e, take_splice _ _ _ _ (by simp; omega) (by omega), h7, objCs_set l i o (by omega)]
    rfl
end Go.Proofs.Ytnapokalopcdkaa
