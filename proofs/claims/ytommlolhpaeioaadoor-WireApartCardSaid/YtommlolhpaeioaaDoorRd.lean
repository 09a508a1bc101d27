/- A slice that reads as a list of cells, nil let in; kept over draws, new blocks, stores elsewhere. No condition. -/
import Derived.Test.YtommlolhpaeioaaDoorBase
import Derived.Laws.OwnMore
import Derived.Deep.Draws
namespace Go.Proofs.YtommlolhpaeioaaDoor
open Go.RowKit

theorem addr_add (b off j : Nat) : (⟨b, off, none⟩ : Addr).add j = ⟨b, off + j, none⟩ := by
  unfold Addr.add; split
  · next h => rw [h]; rfl
  · rfl

/-- The slice at A, of n elements, k cells each, holds the cells xs. -/
def Rd (w : World) (k : Nat) (A : Option Addr) (n : Nat) (xs : List Value) : Prop :=
  xs.length = n * k ∧ (0 < n → ∃ b off, A = some ⟨b, off, none⟩ ∧ b < w.heap.size ∧ ∀ j, j < xs.length → w.cell? ⟨b, off + j, none⟩ = xs[j]?)

section
variable {w w' : World} {k n : Nat} {A : Option Addr} {xs : List Value}
theorem Rd.nil : Rd w k none 0 [] := ⟨by simp, fun h => absurd h (by omega)⟩
theorem Rd.zero : Rd w k A 0 [] := ⟨by simp, fun h => absurd h (by omega)⟩
theorem Rd.len (h : Rd w k A n xs) : xs.length = n * k := h.1
theorem Rd.len1 (h : Rd w 1 A n xs) : xs.length = n := by have := h.1; omega
theorem Rd.keep (h : Rd w k A n xs) {B : Nat} (hb : Below B w w') (hB : w.heap.size ≤ B) : Rd w' k A n xs :=
  ⟨h.1, fun hn => by
    obtain ⟨b, off, e, hb', hc⟩ := h.2 hn
    exact ⟨b, off, e, Nat.lt_of_lt_of_le hb' hb.size, fun j hj => (hb.cell (p := ⟨b, off + j, none⟩) (Nat.lt_of_lt_of_le hb' hB)).trans (hc j hj)⟩⟩
theorem Rd.below (h : Rd w k A n xs) (hb : Below w.heap.size w w') : Rd w' k A n xs := h.keep hb (Nat.le_refl _)
theorem Rd.drewN (h : Rd w k A n xs) (m : Nat) : Rd (w.drewN m) k A n xs := h
theorem Rd.drew (h : Rd w k A n xs) : Rd w.drew k A n xs := h
theorem Rd.alloc (h : Rd w k A n xs) (o : Obj) : Rd (w.alloc o) k A n xs := h.below ((Below.refl _ _).alloc (Nat.le_refl _) o)
/-- The address and the cells of element i (k cells). -/
theorem Rd.at1 (h : Rd w 1 A n xs) {i : Nat} (hi : i < n) : ∃ b off, A = some ⟨b, off, none⟩ ∧ b < w.heap.size ∧ w.cell? ⟨b, off + i, none⟩ = xs[i]? := by
  obtain ⟨b, off, e, hb, hc⟩ := h.2 (by omega)
  exact ⟨b, off, e, hb, hc i (by have := h.1; omega)⟩
theorem Rd.all (h : Rd w k A n xs) (hn : 0 < n) : ∃ b off, A = some ⟨b, off, none⟩ ∧ b < w.heap.size ∧ ∀ j, j < xs.length → w.cell? ⟨b, off + j, none⟩ = xs[j]? := h.2 hn
/-- A block just made, read whole. -/
theorem Rd.new (w : World) (xs : List Value) (t : TypeId) : Rd (w.alloc (.cells xs.toArray t)) 1 (some ⟨w.heap.size, 0, none⟩) xs.length xs :=
  ⟨by simp, fun _ => ⟨w.heap.size, 0, rfl, by simp, fun j hj => by simp [go_sem, hj]⟩⟩
/-- What the call's own row reads as. -/
theorem Rd.own {base : Nat} {e : TypeId} {c : Nat} (h : w.ownsRow base e k (.slice A n c) n xs) : Rd w k A n xs := by
  refine ⟨h.1, fun hn => ?_⟩
  obtain ⟨g, hA, hlt⟩ : ∃ g, A = some ⟨g, 0, none⟩ ∧ g < w.heap.size := by
    rcases h.2 with ⟨_, h0⟩ | ⟨g, cap, cur, hv, _, hh, _⟩
    · omega
    · refine ⟨g, by injection hv, ?_⟩
      rcases Nat.lt_or_ge g w.heap.size with hlt | hge
      · exact hlt
      · rw [Array.getElem?_eq_none hge] at hh; cases hh
  subst hA
  refine ⟨g, 0, rfl, hlt, fun j hj => ?_⟩
  have := h.cells (g := g) rfl j xs[j] (List.getElem?_eq_getElem hj)
  rw [addr_add] at this
  rw [this, List.getElem?_eq_getElem hj]
end

/-- Texts as cells. -/
def strs (l : List (List UInt8)) : List Value := l.map fun s => .string ⟨s.toArray⟩
theorem strs_get (l : List (List UInt8)) (i : Nat) (h : i < l.length) : (strs l)[i]? = some (.string ⟨l[i].toArray⟩) := by simp [strs, h]
theorem strs_len (l : List (List UInt8)) : (strs l).length = l.length := by simp [strs]
theorem strs_snoc (l : List (List UInt8)) (s : List UInt8) : strs (l ++ [s]) = strs l ++ [.string ⟨s.toArray⟩] := by simp [strs]
end Go.Proofs.YtommlolhpaeioaaDoor
