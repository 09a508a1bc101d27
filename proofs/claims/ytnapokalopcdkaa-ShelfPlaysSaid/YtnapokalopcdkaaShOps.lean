/- Plain Lean: what the calls of a shelf answer. No program in sight. -/
import Derived.Test.YtnapokalopcdkaaShOrd
namespace Go.Proofs.Ytnapokalopcdkaa.Pl
def askE (l : List Obj) (nm : List UInt8) : Nat := if chk l ≠ 0 then chk l else if okName nm = false then 7 else 0
theorem askE_ok {l : List Obj} {nm : List UInt8} (h : askE l nm = 0) : chk l = 0 ∧ okName nm = true := by
  unfold askE at h
  split at h
  · next h1 => exact absurd h h1
  · next h1 =>
    split at h
    · omega
    · next h2 => exact ⟨by omega, by simpa using h2⟩
def findO (l : List Obj) (nm : List UInt8) : Option Obj := l.find? (fun o => o.name == nm)
def getR (l : List Obj) (f : Int) (nm : List UInt8) : List UInt8 × Nat :=
  if f = 4 then ([], 17) else match findO l nm with
  | none => ([], 9)
  | some o => if f = 1 ∨ (f = 3 ∧ o.had = false) then ([], 9) else if f = 3 then (o.was, 0) else if f = 2 then (flip o.data, 0) else (o.data, 0)
theorem rising_inj {l : List Obj} (h : Rising l) {i j : Nat} (hi : i < l.length) (hj : j < l.length) (he : l[i].name = l[j].name) : i = j := by
  rcases Nat.lt_trichotomy i j with h1 | h1 | h1
  · have := h i j hi hj h1; rw [he, less_irrefl] at this; cases this
  · exact h1
  · have := h j i hj hi h1; rw [he, less_irrefl] at this; cases this
theorem found_yes {l : List Obj} {nm : List UInt8} {i : Nat} (h : Found l nm i true) : ∃ hi : i < l.length, l[i].name = nm ∧ findO l nm = some l[i] := by
  have h1 := h.is
  obtain ⟨hi, he⟩ := of_decide_eq_true h1.symm
  refine ⟨hi, he, ?_⟩
  unfold findO
  rw [List.find?_eq_some_iff_getElem]
  refine ⟨by simpa using he, i, hi, rfl, fun j hj => ?_⟩
  have := h.lo j (by omega) hj
  simp only [Bool.not_eq_true', beq_eq_false_iff_ne]
  intro e
  rw [e, less_irrefl] at this
  cases this
theorem found_no {l : List Obj} {nm : List UInt8} {i : Nat} (h : Found l nm i false) (hs : Rising l) : findO l nm = none := by
  have h1 := of_decide_eq_false h.is.symm
  unfold findO
  rw [List.find?_eq_none]
  intro o ho
  obtain ⟨k, hk, rfl⟩ := List.getElem_of_mem ho
  simp only [beq_iff_eq]
  intro e
  rcases Nat.lt_trichotomy k i with h2 | h2 | h2
  · have := h.lo k hk h2; rw [e, less_irrefl] at this; cases this
  · subst h2; exact h1 ⟨hk, e⟩
  · have h3 := hs i k (by omega) hk h2
    have h4 := h.hi i (by omega) (Nat.le_refl _)
    rw [e, h4] at h3; cases h3
end Go.Proofs.Ytnapokalopcdkaa.Pl
