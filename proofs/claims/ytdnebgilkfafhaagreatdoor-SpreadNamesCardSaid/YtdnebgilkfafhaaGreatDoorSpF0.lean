/- What fits, as cells. -/
import Derived.Test.YtdnebgilkfafhaaGreatDoorSpW5
import Derived.Test.YtdnebgilkfafhaaGreatDoorNumW1
import Derived.Test.YtdnebgilkfafhaaGreatDoorPaC
import Derived.Test.YtdnebgilkfafhaaGreatDoorSpPl
namespace Go.Proofs.YtdnebgilkfafhaaGreatDoor
open Go.RowKit
set_option linter.unusedVariables false
set_option linter.unusedSimpArgs false
attribute [local go_sem] ba_get ba_cut ba_add
def fitC (x : Pl.Fit5) : List Value := [.int .i64 (x.size : Int), .string ⟨x.sum.toArray⟩, .int .i64 (x.i : Int), .string ⟨x.data.toArray⟩]
def fitV : Option Pl.Fit5 → Value
  | none => .tuple #[.agg #[.int .i64 0, .string ⟨#[]⟩, .int .i64 0, .string ⟨#[]⟩], .bool false]
  | some x => .tuple #[.agg (fitC x).toArray, .bool true]
theorem mem_rowB {s : List UInt8} : ∀ {l : List (List UInt8)}, s ∈ l → s.length ≤ (Pl.rowB l).length
  | x :: r, h => by
    simp only [Pl.rowB, List.length_append]
    rcases List.mem_cons.1 h with rfl | h
    · omega
    · have := mem_rowB h
      omega
theorem seven {α : Type} {l : List α} (h : l.length = 7) : ∃ a b c d e f g, l = [a, b, c, d, e, f, g] := by
  match l, h with
  | [a, b, c, d, e, f, g], _ => exact ⟨a, b, c, d, e, f, g, rfl⟩
/-- A block holds something that fits, or nothing yet. -/
def FitBx (N : Nat) (L : List Value) (W : World) : Prop := W.heap[N]? = some (.cells L.toArray 83 (0, 0))
theorem FitBx.zero {N : Nat} {W : World} (h : FitBx N [.int .i64 0, .string ⟨#[]⟩, .int .i64 0, .string ⟨#[]⟩] W) : W.cell? ⟨N, 0, none⟩ = some (.int .i64 0) ∧ W.cell? ⟨N, 1, none⟩ = some (.string ⟨#[]⟩) ∧ W.cell? ⟨N, 2, none⟩ = some (.int .i64 0) ∧ W.cell? ⟨N, 3, none⟩ = some (.string ⟨#[]⟩) ∧ ∀ j, W.frozen? ⟨N, j, none⟩ = false :=
  ⟨by rw [cell_row W N 0 _ _ h]; rfl, by rw [cell_row W N 1 _ _ h]; rfl, by rw [cell_row W N 2 _ _ h]; rfl, by rw [cell_row W N 3 _ _ h]; rfl, fun j => frozen_of W N j _ _ h⟩
theorem FitBx.drewF {N : Nat} {L : List Value} {W : World} (h : FitBx N L W) : FitBx N L W.drew := h
theorem info_fit : (Tryz.prog.info? 83).map (·.size) = some 4 := by kernel_rfl
theorem results_fit {fn : Func} {tmps : Array Value} {w : World} {a b B : Nat} {L : List Value} {v : Value} (hf : fn.results = #[.cell a 83, .tmp b]) (ha : tmps[a]?.getD undef = .pointer (some ⟨B, 0, none⟩)) (hv : tmps.getD b undef = v) (hc : FitBx B L w) (hl : L.length = 4) :
    (results fn tmps).run Tryz.prog w = .ok (.tuple #[.agg L.toArray, v]) w := by
  have h := run_loadVar_mid (P := Tryz.prog) w B 0 83 L _ (rangeL hc) Tryz.underlying83 rfl (by rw [hl]; exact info_fit)
  rw [← hv]
  simp [results, hf, ha, asAddr, h, Sem.run_bind]
theorem FitBx.set {N : Nat} {L : List Value} {W : World} (h : FitBx N L W) (hl : L.length = 4) (x0 x1 x2 x3 : Value) : FitBx N [x0, x1, x2, x3] ((((W.setCell ⟨N, 0, none⟩ x0).setCell ⟨N, 1, none⟩ x1).setCell ⟨N, 2, none⟩ x2).setCell ⟨N, 3, none⟩ x3) := by
  have h1 := set_at _ _ 3 _ x3 _ (set_at _ _ 2 _ x2 _ (set_at _ _ 1 _ x1 _ (set_at _ _ 0 _ x0 _ h)))
  unfold FitBx
  rw [h1]
  match L, hl with
  | [a, b, c, d], _ => rfl
end Go.Proofs.YtdnebgilkfafhaaGreatDoor
