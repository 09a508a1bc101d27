/- How snapshots lie in memory: five cells each. -/
import Derived.Test.YtmncgnmgdkdhaaaGreatDoorBase
import Derived.Test.YtmncgnmgdkdhaaaGreatDoorPolPl
namespace Go.Proofs.YtmncgnmgdkdhaaaGreatDoor
open Go.RowKit
set_option linter.unusedVariables false
def rfC (x : Pl.Rf) : List Value := [.string ⟨x.m.toArray⟩, .int .i64 x.n, .int .i64 x.t, .string ⟨x.nm.toArray⟩, .int .i64 x.til]
def rfCs (l : List Pl.Rf) : List Value := l.flatMap rfC
def rfV (x : Pl.Rf) : Value := .agg (rfC x).toArray
theorem rf_flat {α : Type} (k : Nat) : ∀ (L : List (List α)), (∀ x ∈ L, x.length = k) → ∀ (i j : Nat) (h : i < L.length), j < k → L.flatten[i * k + j]? = L[i][j]?
  | [], _, i, _, h, _ => absurd h (by simp)
  | x :: L, hx, 0, j, _, hj => by
    have h1 := hx x (List.mem_cons_self ..)
    rw [List.flatten_cons, List.getElem?_append_left (by omega)]; simp
  | x :: L, hx, i + 1, j, h, hj => by
    have h1 := hx x (List.mem_cons_self ..)
    rw [List.flatten_cons, List.getElem?_append_right (by rw [h1, Nat.add_mul]; omega), h1, show (i + 1) * k + j - k = i * k + j by rw [Nat.add_mul]; omega]
    exact rf_flat k L (fun y hy => hx y (List.mem_cons_of_mem _ hy)) i j (by simpa using h) hj
theorem rfCs_get (l : List Pl.Rf) (i j : Nat) (h : i < l.length) (hj : j < 5) : (rfCs l)[i * 5 + j]? = (rfC l[i])[j]? := by
  have e : rfCs l = (l.map rfC).flatten := by simp [rfCs, List.flatMap_def]
  have hk : ∀ x ∈ l.map rfC, x.length = 5 := by
    intro x hx
    obtain ⟨y, _, rfl⟩ := List.mem_map.1 hx
    rfl
  rw [e, rf_flat 5 (l.map rfC) hk i j (by simpa using h) hj]
  simp
theorem rfCs_len (l : List Pl.Rf) : (rfCs l).length = l.length * 5 := by
  induction l with
  | nil => rfl
  | cons x l ih => show (rfC x ++ rfCs l).length = _; rw [List.length_append, ih, List.length_cons, Nat.add_mul]; show 5 + _ = _; omega
theorem rfCs_one (l : List Pl.Rf) : ∀ v ∈ rfCs l, v.oneCell' = true := by
  intro v hv
  unfold rfCs at hv
  obtain ⟨x, _, hv⟩ := List.mem_flatMap.1 hv
  simp only [rfC, List.mem_cons, List.not_mem_nil, or_false] at hv
  rcases hv with rfl | rfl | rfl | rfl | rfl <;> rfl
theorem rfCs_append (a b : List Pl.Rf) : rfCs (a ++ b) = rfCs a ++ rfCs b := by simp [rfCs]
/-- The five cells of snapshot i. -/
theorem Rd.rf {w : World} {A : Option Addr} {n : Nat} {l : List Pl.Rf} (h : Rd w 5 A n (rfCs l)) (hn : l.length = n) {i : Nat} (hi : i < n) :
    ∃ b off, A = some ⟨b, off, none⟩ ∧ b < w.heap.size ∧ ∀ x, l.getD i default = x → w.cell? ⟨b, off + i * 5, none⟩ = some (.string ⟨x.m.toArray⟩) ∧ w.cell? ⟨b, off + i * 5 + 1, none⟩ = some (.int .i64 x.n) ∧
      w.cell? ⟨b, off + i * 5 + 2, none⟩ = some (.int .i64 x.t) ∧ w.cell? ⟨b, off + i * 5 + 3, none⟩ = some (.string ⟨x.nm.toArray⟩) ∧ w.cell? ⟨b, off + i * 5 + 4, none⟩ = some (.int .i64 x.til) := by
  obtain ⟨b, off, rfl, hb, hc⟩ := h.all (by omega)
  have hl := h.len
  have g := fun j hj => rfCs_get l i j (by omega) hj
  refine ⟨b, off, rfl, hb, ?_⟩
  rintro x rfl
  rw [List.getD_eq_getElem?_getD, List.getElem?_eq_getElem (by omega)]
  refine ⟨?_, ?_, ?_, ?_, ?_⟩
  · rw [hc (i * 5) (by omega)]; exact g 0 (by omega)
  · rw [Nat.add_assoc, hc (i * 5 + 1) (by omega)]; exact g 1 (by omega)
  · rw [Nat.add_assoc, hc (i * 5 + 2) (by omega)]; exact g 2 (by omega)
  · rw [Nat.add_assoc, hc (i * 5 + 3) (by omega)]; exact g 3 (by omega)
  · rw [Nat.add_assoc, hc (i * 5 + 4) (by omega)]; exact g 4 (by omega)
theorem rf_agg (x : Pl.Rf) : (Value.agg #[.string ⟨x.m.toArray⟩, .int .i64 x.n, .int .i64 x.t, .string ⟨x.nm.toArray⟩, .int .i64 x.til]) = rfV x := rfl
/-- A policy as a value. -/
def polV (p : Pl.Pol) : Value := .agg #[.int .i64 p.d, .int .i64 p.w, .int .i64 p.mo, .int .i64 p.y]
/-- Numbers that an int may be. -/
def Pl.Pol.fits (p : Pl.Pol) : Prop := ∀ k, -9223372036854775808 ≤ p.num k ∧ p.num k ≤ 9223372036854775807
end Go.Proofs.YtmncgnmgdkdhaaaGreatDoor
