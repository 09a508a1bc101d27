/- How one field of a struct that came in is read. -/
import Derived.Test.YtommlolhpaeioaaDoorOpen2
namespace Go.Proofs.YtommlolhpaeioaaDoor
open Go.ChangeShapes Go.WideShapes Go.ChangeAt Go.RowKit Go.Deep
section
variable {H : Type} {enc : TypeId × Value → H} {W : World} {base : Nat} {sp : Nat → Bool} {held : Bool} {P : Program}
/-- One field of a struct. -/
theorem struct_field {t : TypeId} {fs : Array Field} {fuel : Nat} {cs : List Value} {x : DataW H × List MemPlace} (ht : P.underlying t = some (.struct fs)) (h : DataW.trod enc P W base sp held fuel t cs = some x)
    (hz : ∀ m ∈ x.1.weights P t, m ≤ reachBytes) (i : Nat) (f : Field) (hf : fs[i]? = some f) :
    ∃ n y, DataW.trod enc P W base sp held n f.type ((cs.drop f.offset).take (P.cellsOf f.type)) = some y ∧ ∀ m ∈ y.1.weights P f.type, m ≤ reachBytes := by
  obtain ⟨xs, n, -, rfl, hl, hlen, hff⟩ := DataW.trod_struct ht h
  have hi : i < fs.size := by
    rcases Nat.lt_or_ge i fs.size with h | h
    · exact h
    · rw [Array.getElem?_eq_none h] at hf; cases hf
  have h1 := hff i f hf
  rw [List.getElem?_eq_getElem (by omega)] at h1
  refine ⟨n, _, h1, fun m hm => hz m ?_⟩
  simp only [DataW.weights, ht]
  refine DataW.weights_mem_each (j := i) (t := f.type) ?_ (d := (xs[i]'(by omega)).1) ?_ m hm
  · rw [List.getElem?_map, Array.getElem?_toList, hf]; rfl
  · rw [List.getElem?_map, List.getElem?_eq_getElem (by omega)]; rfl
theorem struct_len {t : TypeId} {fs : Array Field} {fuel : Nat} {cs : List Value} {x : DataW H × List MemPlace} (ht : P.underlying t = some (.struct fs)) (h : DataW.trod enc P W base sp held fuel t cs = some x) : cs.length = P.cellsOf t := by
  obtain ⟨xs, n, -, rfl, hl, -⟩ := DataW.trod_struct ht h
  exact hl
/-- A slice's value, out of the one cell that it is. -/
theorem bool_cell {t : TypeId} (ht : P.underlying t = some .bool) {fuel : Nat} {cs : List Value} {x : DataW H × List MemPlace} (h : DataW.trod enc P W base sp held fuel t cs = some x) : ∃ b, cs = [.bool b] := by
  obtain ⟨b, hb, -⟩ := DataW.trod_bool ht h
  exact ⟨b, hb⟩
end
end Go.Proofs.YtommlolhpaeioaaDoor
