/- Small facts on blocks; a slice in memory, with its capacity. No condition. -/
import Derived.Test.YtommlolhpaeioaaDoorPush
import Derived.Deep.RegionHeld3
namespace Go.Proofs.YtommlolhpaeioaaDoor
open Go.RowKit
set_option linter.unusedVariables false
theorem frozen_of (w : World) (g j : Nat) (cs : Array Value) (t : TypeId) (h : w.heap[g]? = some (.cells cs t (0, 0))) : w.frozen? ⟨g, j, none⟩ = false := by simp [World.frozen?, h]
theorem cell_row (w : World) (b i : Nat) (C : Array Value) (t : TypeId) (h : w.heap[b]? = some (.cells C t (0, 0))) : w.cell? ⟨b, i, none⟩ = C[i]? := cell_of_row w b i C t (0, 0) h
/-- A slice in memory, with its capacity. -/
def SlAt (w : World) (k : Nat) (A : Option Addr) (n c : Nat) (xs : List Value) : Prop := Rd w k A n xs ∧ n ≤ c ∧ c ≤ 9223372036854775807 ∧ (A = none → c = 0)
theorem SlAt.below {w w' : World} {k : Nat} {A : Option Addr} {n c : Nat} {xs : List Value} (h : SlAt w k A n c xs) (hb : Below w.heap.size w w') : SlAt w' k A n c xs := ⟨h.1.below hb, h.2⟩
theorem SlAt.alloc {w : World} {k : Nat} {A : Option Addr} {n c : Nat} {xs : List Value} (h : SlAt w k A n c xs) (o : Obj) : SlAt (w.alloc o) k A n c xs := ⟨h.1.alloc o, h.2⟩
/-- A store into a block where the slice doesn't lie. -/
theorem Rd.set {w : World} {k : Nat} {A : Option Addr} {n : Nat} {xs : List Value} (h : Rd w k A n xs) {B : Nat} (hA : A.map Addr.block ≠ some B) (i : Nat) (u : Value) : Rd (w.setCell ⟨B, i, none⟩ u) k A n xs := by
  refine ⟨h.1, fun hn => ?_⟩
  obtain ⟨b, off, rfl, hb, hc⟩ := h.2 hn
  refine ⟨b, off, rfl, by simpa [World.size_setCell] using hb, fun j hj => ?_⟩
  rw [World.cell?_setCell_far _ _ _ _ (by simpa using Ne.symm hA)]
  exact hc j hj
theorem SlAt.set {w : World} {k : Nat} {A : Option Addr} {n c : Nat} {xs : List Value} (h : SlAt w k A n c xs) {B : Nat} (hA : A.map Addr.block ≠ some B) (i : Nat) (u : Value) : SlAt (w.setCell ⟨B, i, none⟩ u) k A n c xs := ⟨h.1.set hA i u, h.2⟩
theorem heap_alloc_2 (w : World) (o1 o2 : Obj) : ((w.alloc o1).alloc o2).heap[w.heap.size + 1]? = some o2 := by
  have := heap_alloc_new (w.alloc o1) o2
  simpa using this
theorem set_at (w : World) (g j : Nat) (cs : Array Value) (y : Value) (t : TypeId) (h : w.heap[g]? = some (.cells cs t (0, 0))) : (w.setCell ⟨g, j, none⟩ y).heap[g]? = some (.cells (cs.setIfInBounds j y) t (0, 0)) := by
  simp [World.setCell, Array.getElem?_modify, h]
theorem blk_lt {w : World} {g : Nat} {o : Obj} (h : w.heap[g]? = some o) : g < w.heap.size := by
  rcases Nat.lt_or_ge g w.heap.size with hlt | hge
  · exact hlt
  · rw [Array.getElem?_eq_none hge] at h; cases h
end Go.Proofs.YtommlolhpaeioaaDoor
