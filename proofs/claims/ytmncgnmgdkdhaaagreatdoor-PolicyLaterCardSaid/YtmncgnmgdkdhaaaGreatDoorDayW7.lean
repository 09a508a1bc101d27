/- The walks of the document's calendar: date, Month, Year. -/
import Derived.Test.YtmncgnmgdkdhaaaGreatDoorDayW6
namespace Go.Proofs.YtmncgnmgdkdhaaaGreatDoor
open Go.RowKit
set_option linter.unusedVariables false
set_option linter.unusedSimpArgs false
def RdateR (D : Int) (w : World) (y l m : Value) (wr : World) : Prop := ∃ (Y L : Int) (k : Nat), y = .int .i64 Y ∧ l = .int .i64 L ∧ m = .int .i64 ((k : Int) + 1) ∧ k < 12 ∧ -1000000000000000 ≤ Y ∧ Y ≤ 1000000000000000 ∧ 0 ≤ L ∧ L ≤ 146097 ∧ Pl.yearB Y + Pl.cum Y k + L = D ∧ Below w.heap.size w wr
theorem yearB_up {Y D : Int} (h1 : D ≤ 100000000000000000) (h : Pl.yearB Y ≤ D) : Y ≤ 999999999999999 := by unfold Pl.yearB at h; omega
end Go.Proofs.YtmncgnmgdkdhaaaGreatDoor
