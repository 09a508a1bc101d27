/- Plain Lean: a hold that is set, set again. -/
import Derived.Test.YteamkiblogbfmaaHoldBx
namespace Go.Proofs.Yteamkiblogbfmaa
open Go.RowKit
set_option linter.unusedVariables false
set_option linter.unusedSimpArgs false
theorem fi_map (l : List Pl.Rf) (m : List UInt8) (n : Int) : Pl.fi l m n = (l.map fun x => (x.m, x.n)).findIdx (fun q => decide (q.1 = m ∧ q.2 = n)) := by
  unfold Pl.fi
  rw [List.findIdx_map]; rfl
theorem hold1_getE (l : List Pl.Rf) (i : Nat) (til : Int) (j : Nat) : (Pl.hold1 l i til)[j]? = if j = i then (l[j]?).map fun x => { x with til := til } else l[j]? := by
  unfold Pl.hold1
  rw [List.getElem?_set]
  by_cases h : i = j
  · subst h
    rw [if_pos rfl, if_pos rfl]
    by_cases hi : i < l.length
    · rw [if_pos hi, List.getElem?_eq_getElem hi, List.getD_eq_getElem?_getD, List.getElem?_eq_getElem hi]; rfl
    · rw [if_neg hi, List.getElem?_eq_none (by omega)]; rfl
  · rw [if_neg h, if_neg (fun e => h e.symm)]
theorem hold1_map {α : Type} (f : Pl.Rf → α) (hf : ∀ x til, f { x with til := til } = f x) (l : List Pl.Rf) (i : Nat) (til : Int) : (Pl.hold1 l i til).map f = l.map f := by
  refine List.ext_getElem? fun j => ?_
  rw [List.getElem?_map, List.getElem?_map, hold1_getE]
  split
  · cases l[j]? with
    | none => rfl
    | some x => simp [hf]
  · rfl
theorem hold1_fi (l : List Pl.Rf) (i : Nat) (til : Int) (m : List UInt8) (n : Int) : Pl.fi (Pl.hold1 l i til) m n = Pl.fi l m n := by
  rw [fi_map, fi_map, hold1_map (fun x => (x.m, x.n)) (fun _ _ => rfl)]
theorem hold1_til (l : List Pl.Rf) (i : Nat) (til : Int) (hi : i < l.length) : ((Pl.hold1 l i til).getD i default).til = til := by
  rw [List.getD_eq_getElem?_getD, hold1_getE, if_pos rfl, List.getElem?_eq_getElem hi]; rfl
theorem hold1_twice (l : List Pl.Rf) (i : Nat) (til : Int) : Pl.hold1 (Pl.hold1 l i til) i til = Pl.hold1 l i til := by
  refine List.ext_getElem? fun j => ?_
  rw [hold1_getE, hold1_getE]
  split
  · cases l[j]? with
    | none => rfl
    | some x => rfl
  · rfl
theorem setR_yes {R : Pl.Rt} {m : List UInt8} {n til : Int} (h : Pl.setE R m n til = 0) : Pl.setR R m n til = { R with l := Pl.hold1 R.l (Pl.fi R.l m n) til } := by unfold Pl.setR; rw [if_pos h]
/-- Set again for as long: OK, and nothing else. -/
theorem set_again {R : Pl.Rt} {m : List UInt8} {n til : Int} (h : Pl.setE R m n til = 0) : Pl.setE (Pl.setR R m n til) m n til = 0 ∧ (Pl.setR (Pl.setR R m n til) m n til).l = (Pl.setR R m n til).l := by
  obtain ⟨h1, h2, h3⟩ := setE_0 h
  have e : Pl.setR R m n til = { R with l := Pl.hold1 R.l (Pl.fi R.l m n) til } := by unfold Pl.setR; rw [if_pos h]
  have h0 : Pl.setE (Pl.setR R m n til) m n til = 0 := by
    rw [e]
    unfold Pl.setE
    simp only [hold1_fi, hold1_len]
    rw [if_neg (by omega), if_neg (by omega), hold1_til _ _ _ h1, if_neg (by omega)]
  refine ⟨h0, ?_⟩
  rw [setR_yes h0, e]
  simp only [hold1_fi, hold1_twice]
/-- Set again for another time. -/
theorem set_other {R : Pl.Rt} {m : List UInt8} {n til : Int} (h : Pl.setE R m n til = 0) (o : Int) : Pl.setE (Pl.setR R m n til) m n o = if o ≤ R.now then 1 else if o < til then 20 else 0 := by
  obtain ⟨h1, h2, h3⟩ := setE_0 h
  have e : Pl.setR R m n til = { R with l := Pl.hold1 R.l (Pl.fi R.l m n) til } := by unfold Pl.setR; rw [if_pos h]
  rw [e]
  unfold Pl.setE
  simp only [hold1_fi, hold1_len]
  rw [if_neg (by omega), hold1_til _ _ _ h1]
theorem setR_no {R : Pl.Rt} {m : List UInt8} {n til : Int} (h : ¬ Pl.setE R m n til = 0) : Pl.setR R m n til = Pl.Rt.zero := by unfold Pl.setR; rw [if_neg h]
theorem fi_here {l : List Pl.Rf} {x : Pl.Rf} (h : x ∈ l) : Pl.fi l x.m x.n < l.length := by
  unfold Pl.fi
  exact List.findIdx_lt_length_of_exists ⟨x, h, by simp⟩
end Go.Proofs.Yteamkiblogbfmaa
