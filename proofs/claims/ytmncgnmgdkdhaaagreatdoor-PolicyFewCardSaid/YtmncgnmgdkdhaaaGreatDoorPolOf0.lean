/- Plain Lean: the policy of a text, word by word; how long the pieces of a text are. No program in sight. -/
import Derived.Test.YtmncgnmgdkdhaaaGreatDoorPolTx
namespace Go.Proofs.YtmncgnmgdkdhaaaGreatDoor.Pl
open Go.RowKit
set_option linter.unusedVariables false
set_option linter.unusedSimpArgs false
theorem splitK_len (sep : List UInt8) : ∀ (k : Nat) (s x : List UInt8), x ∈ Lib.splitK sep 0 k s → x.length ≤ s.length
  | 0, s, x, h => by rw [Lib.splitK, List.mem_singleton] at h; rw [h]; exact Nat.le_refl _
  | k + 1, s, x, h => by
    rw [Lib.splitK] at h
    split at h
    · rw [List.mem_singleton] at h; rw [h]; exact Nat.le_refl _
    · rw [List.mem_cons] at h
      rcases h with h | h
      · rw [h, List.length_take]; omega
      · have := splitK_len sep k _ x h
        rw [List.length_drop] at this; omega
theorem split_len {s x : List UInt8} (h : x ∈ Lib.split s [32]) : x.length ≤ s.length := splitK_len _ _ _ _ h
def unL : List UInt8 := [100, 119, 109, 121]
theorem ofW_short {s : List UInt8} (h : (Lib.split s [32]).length ≠ 4) : ofW s = none := by
  unfold ofW
  split
  · next e => rw [e] at h; simp at h
  · rfl
theorem four_of {α : Type} {l : List α} (h : l.length = 4) : ∃ a b c d, l = [a, b, c, d] := by
  rcases l with _ | ⟨a, _ | ⟨b, _ | ⟨c, _ | ⟨d, _ | ⟨e, l⟩⟩⟩⟩⟩ <;> simp at h
  exact ⟨a, b, c, d, rfl⟩
theorem ofW_bad {s : List UInt8} {ws : List (List UInt8)} (hw : Lib.split s [32] = ws) (h4 : ws.length = 4) {k : Nat} (hk : k < 4) (h : wordP (unL.getD k 0) (ws.getD k []) = none) : ofW s = none := by
  obtain ⟨a, b, c, d, rfl⟩ := four_of h4
  unfold ofW
  rw [hw]
  have : k = 0 ∨ k = 1 ∨ k = 2 ∨ k = 3 := by omega
  rcases this with rfl | rfl | rfl | rfl <;> simp only [unL, List.getD_cons_zero, List.getD_cons_succ] at h
  · simp [h]
  · dsimp only; rw [h]; cases wordP 100 a <;> rfl
  · dsimp only; rw [h]; cases wordP 100 a <;> cases wordP 119 b <;> rfl
  · dsimp only; rw [h]; cases wordP 100 a <;> cases wordP 119 b <;> cases wordP 109 c <;> rfl
/-- The first k numbers of a text's words. -/
def Words (ws : List (List UInt8)) (ns : List Int) (k : Nat) : Prop := ns.length = k ∧ ∀ j, j < k → wordP (unL.getD j 0) (ws.getD j []) = some (ns.getD j 0)
theorem Words.zero (ws : List (List UInt8)) : Words ws [] 0 := ⟨rfl, fun j h => by omega⟩
theorem Words.next {ws : List (List UInt8)} {ns : List Int} {k : Nat} {n : Int} (h : Words ws ns k) (hn : wordP (unL.getD k 0) (ws.getD k []) = some n) : Words ws (ns ++ [n]) (k + 1) := by
  refine ⟨by rw [List.length_append, h.1]; rfl, fun j hj => ?_⟩
  rcases Nat.lt_or_ge j k with h1 | h1
  · rw [h.2 j h1, List.getD_eq_getElem?_getD, List.getD_eq_getElem?_getD, List.getElem?_append_left (by rw [h.1]; exact h1)]
  · obtain rfl : j = k := by omega
    rw [hn, List.getD_eq_getElem?_getD, List.getElem?_append_right (by rw [h.1]; exact Nat.le_refl _), h.1, Nat.sub_self]; rfl
/-- The row of four numbers while the words are read. -/
def lay4 (ns : List Int) : List Int := ns ++ List.replicate (4 - ns.length) 0
theorem lay4_nil : lay4 [] = [0, 0, 0, 0] := rfl
theorem lay4_len {ns : List Int} (h : ns.length ≤ 4) : (lay4 ns).length = 4 := by unfold lay4; rw [List.length_append, List.length_replicate]; omega
theorem lay4_set {ns : List Int} {k : Nat} (h : ns.length = k) (hk : k < 4) (n : Int) : (lay4 ns).set k n = lay4 (ns ++ [n]) := by
  unfold lay4
  subst h
  rw [List.set_append_right _ _ (Nat.le_refl _), Nat.sub_self, List.length_append, List.length_singleton, show 4 - ns.length = (4 - (ns.length + 1)) + 1 by omega, List.replicate_succ, List.set_cons_zero]
  simp
theorem lay4_full {ns : List Int} (h : ns.length = 4) : lay4 ns = ns := by unfold lay4; rw [h]; simp
theorem ofW_all {s : List UInt8} {ws : List (List UInt8)} (hw : Lib.split s [32] = ws) (h4 : ws.length = 4) {a b c d : Int} (h : Words ws [a, b, c, d] 4) : ofW s = if txP ⟨a, b, c, d⟩ = s ∧ s ≠ [] then some ⟨a, b, c, d⟩ else none := by
  obtain ⟨x, y, z, t, rfl⟩ := four_of h4
  have h0 := h.2 0 (by omega)
  have h1 := h.2 1 (by omega)
  have h2 := h.2 2 (by omega)
  have h3 := h.2 3 (by omega)
  simp only [unL, List.getD_cons_zero, List.getD_cons_succ] at h0 h1 h2 h3
  unfold ofW
  rw [hw]
  simp only [h0, h1, h2, h3]
theorem wordP_no {u : UInt8} {w : List UInt8} (h : Lib.hasSuffix w [u] = false) : wordP u w = none := by unfold wordP; rw [if_neg (by rw [h]; simp)]
theorem wordP_yes {u : UInt8} {w : List UInt8} (h : Lib.hasSuffix w [u] = true) : wordP u w = match intQ (Lib.trimSuffix w [u]) with | some n => if 0 ≤ n ∧ n ≤ 1000 then some n else none | none => none := by unfold wordP; rw [if_pos h]; cases intQ (Lib.trimSuffix w [u]) <;> rfl
/-- One word by the tests as the program asks them. -/
theorem wordP_tests (u : UInt8) (w : List UInt8) : wordP u w = if Lib.hasSuffix w [u] = true ∧ (intQ (Lib.trimSuffix w [u])).isSome = true ∧ 0 ≤ (intQ (Lib.trimSuffix w [u])).getD 0 ∧ (intQ (Lib.trimSuffix w [u])).getD 0 ≤ 1000 then some ((intQ (Lib.trimSuffix w [u])).getD 0) else none := by
  cases h : Lib.hasSuffix w [u]
  · rw [wordP_no h, if_neg (by simp)]
  · rw [wordP_yes h]
    cases intQ (Lib.trimSuffix w [u]) <;> simp
theorem trim_len (u : UInt8) (w : List UInt8) : (Lib.trimSuffix w [u]).length ≤ w.length := by
  unfold Lib.trimSuffix
  split
  · rw [List.length_take]; omega
  · exact Nat.le_refl _
theorem wordP_fit {u : UInt8} {w : List UInt8} {n : Int} (h : wordP u w = some n) : 0 ≤ n ∧ n ≤ 1000 := by
  unfold wordP at h
  split at h
  · split at h
    · split at h
      · next hc => injection h with h; rw [← h]; exact hc
      · cases h
    · cases h
  · cases h
end Go.Proofs.YtmncgnmgdkdhaaaGreatDoor.Pl
