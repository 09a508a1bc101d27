/- Plain Lean: Put and Drop of a shelf. No program in sight. -/
import Derived.Test.YtnapokalopcdkaaShOps
namespace Go.Proofs.Ytnapokalopcdkaa.Pl
def below (l : List Obj) (nm : List UInt8) : List Obj := l.filter (fun o => less o.name nm)
def above (l : List Obj) (nm : List UInt8) : List Obj := l.filter (fun o => less nm o.name)
def newO (l : List Obj) (nm d : List UInt8) : Obj := ⟨nm, d, (findO l nm).elim [] (·.data), (findO l nm).isSome⟩
def putL (l : List Obj) (nm d : List UInt8) : List Obj := below l nm ++ (newO l nm d :: above l nm)
def dropL (l : List Obj) (nm : List UInt8) : List Obj := below l nm ++ above l nm
/-- What Put answers: the objects, the error. -/
def putR (l : List Obj) (f : Int) (nm d : List UInt8) : List Obj × Nat :=
  if f = 4 then (l, 17) else if f = 1 ∨ f = 3 then (l, 0) else (putL l nm (if f = 2 then flip d else d), 0)
def dropR (l : List Obj) (f : Int) (nm : List UInt8) : List Obj × Nat :=
  if f = 4 then (l, 17) else if f = 1 ∨ f = 3 then (l, 0) else if (findO l nm).isSome then (dropL l nm, 0) else (l, 9)
theorem filter_split {α : Type} (p : α → Bool) (l : List α) (i : Nat) (h1 : ∀ k (h : k < l.length), k < i → p l[k] = true) (h2 : ∀ k (h : k < l.length), i ≤ k → p l[k] = false) : l.filter p = l.take i := by
  rw [← List.take_append_drop i l, List.filter_append]
  have e1 : (l.take i).filter p = l.take i := by
    rw [List.filter_eq_self]
    intro a ha
    obtain ⟨k, hk, rfl⟩ := List.getElem_of_mem ha
    rw [List.length_take] at hk
    rw [List.getElem_take]
    exact h1 k (by omega) (by omega)
  have e2 : (l.drop i).filter p = [] := by
    rw [List.filter_eq_nil_iff]
    intro a ha
    obtain ⟨k, hk, rfl⟩ := List.getElem_of_mem ha
    rw [List.length_drop] at hk
    rw [List.getElem_drop, h2 (i + k) (by omega) (by omega)]
    simp
  rw [e1, e2, List.take_append_drop]; simp
theorem filter_split2 {α : Type} (p : α → Bool) (l : List α) (i : Nat) (h1 : ∀ k (h : k < l.length), k < i → p l[k] = false) (h2 : ∀ k (h : k < l.length), i ≤ k → p l[k] = true) : l.filter p = l.drop i := by
  rw [← List.take_append_drop i l, List.filter_append]
  have e1 : (l.take i).filter p = [] := by
    rw [List.filter_eq_nil_iff]
    intro a ha
    obtain ⟨k, hk, rfl⟩ := List.getElem_of_mem ha
    rw [List.length_take] at hk
    rw [List.getElem_take, h1 k (by omega) (by omega)]
    simp
  have e2 : (l.drop i).filter p = l.drop i := by
    rw [List.filter_eq_self]
    intro a ha
    obtain ⟨k, hk, rfl⟩ := List.getElem_of_mem ha
    rw [List.length_drop] at hk
    rw [List.getElem_drop]
    exact h2 (i + k) (by omega) (by omega)
  rw [e1, e2, List.take_append_drop]; simp
theorem less_asymm {a b : List UInt8} (h : less a b = true) : less b a = false := by
  cases h' : less b a
  · rfl
  · have := less_trans h h'; rw [less_irrefl] at this; cases this
section
variable {l : List Obj} {nm : List UInt8} {i : Nat}
theorem below_found {f : Bool} (h : Found l nm i f) : below l nm = l.take i := filter_split _ l i h.lo h.hi
theorem above_yes (h : Found l nm i true) (hs : Rising l) : above l nm = l.drop (i + 1) := by
  obtain ⟨hi, he, -⟩ := found_yes h
  refine filter_split2 _ l (i + 1) (fun k hk hki => ?_) (fun k hk hki => ?_)
  · rcases Nat.lt_or_ge k i with h1 | h1
    · exact less_asymm (h.lo k hk h1)
    · obtain rfl : k = i := by omega
      show less nm l[k].name = false
      rw [he, less_irrefl]
  · have := hs i k hi hk hki
    rwa [he] at this
theorem above_no (h : Found l nm i false) (hs : Rising l) : above l nm = l.drop i := by
  have hno := found_no h hs
  refine filter_split2 _ l i (fun k hk hki => less_asymm (h.lo k hk hki)) (fun k hk hki => ?_)
  have h1 := h.hi k hk hki
  rcases less_tri nm l[k].name with h2 | h2 | h2
  · exact h2
  · exfalso
    unfold findO at hno
    rw [List.find?_eq_none] at hno
    exact hno l[k] (List.getElem_mem hk) (by simp [h2])
  · rw [h2] at h1; cases h1
theorem put_yes (h : Found l nm i true) (hs : Rising l) (d : List UInt8) : ∃ hi : i < l.length, putL l nm d = l.set i ⟨nm, d, l[i].data, true⟩ := by
  obtain ⟨hi, he, hf⟩ := found_yes h
  refine ⟨hi, ?_⟩
  unfold putL newO
  rw [below_found h, above_yes h hs, hf, List.set_eq_take_append_cons_drop, if_pos hi]
  rfl
theorem put_no (h : Found l nm i false) (hs : Rising l) (d : List UInt8) : putL l nm d = l.take i ++ (⟨nm, d, [], false⟩ :: l.drop i) := by
  unfold putL newO
  rw [below_found h, above_no h hs, found_no h hs]
  rfl
theorem drop_yes (h : Found l nm i true) (hs : Rising l) : dropL l nm = l.take i ++ l.drop (i + 1) := by
  unfold dropL; rw [below_found h, above_yes h hs]
end
end Go.Proofs.Ytnapokalopcdkaa.Pl
