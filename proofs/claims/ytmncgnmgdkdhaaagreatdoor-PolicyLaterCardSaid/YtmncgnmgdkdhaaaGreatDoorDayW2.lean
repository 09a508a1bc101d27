/- The walks of day's Day, Week. -/
import Derived.Test.YtmncgnmgdkdhaaaGreatDoorDayW
namespace Go.Proofs.YtmncgnmgdkdhaaaGreatDoor
open Go.RowKit
set_option linter.unusedVariables false
set_option linter.unusedSimpArgs false
set_option maxRecDepth 100000 in
theorem day_any (a : Int) (h0 : -9223372036854775808 ≤ a) (h1 : a ≤ 9223372036854775807) (w : World) : Calls Tryz.prog 31 #[.int .i64 a] w (fun e w' => e = .returned (.int .i64 (Pl.dayN a)) ∧ ∃ n, w' = w.drewN n) := by
  go_enter Tryz.func31, Tryz.ntmps31
  go_wp2_with fail
  with_reducible refine (by_any a 1440 (by omega) (by omega) h0 h1 _).mono ?_
  rintro e w' ⟨rfl, n, rfl⟩
  go_wp2_with fail
  go_ret
  exact ⟨rfl, n, rfl⟩
set_option maxRecDepth 100000 in
theorem week_any (a : Int) (h0 : -9223372036854775808 ≤ a) (h1 : a ≤ 9223372036854775807) (w : World) : Calls Tryz.prog 32 #[.int .i64 a] w (fun e w' => e = .returned (.int .i64 (Pl.weekN a)) ∧ ∃ n, w' = w.drewN n) := by
  have hD : -9223372036854775808 ≤ Pl.dayN a + 5 ∧ Pl.dayN a + 5 ≤ 9223372036854775807 := by unfold Pl.dayN; omega
  have hw : IntKind.i64.wrap (Pl.dayN a + 5) = Pl.dayN a + 5 := IntWalk.i64_in _ hD
  go_enter Tryz.func32, Tryz.ntmps32
  go_wp2_with fail
  with_reducible refine (day_any a h0 h1 _).mono ?_
  rintro e w' ⟨rfl, n, rfl⟩
  go_wp2_with fail
  with_reducible refine (by_any (Pl.dayN a + 5) 7 (by omega) (by omega) hD.1 hD.2 _).mono ?_
  rintro e w' ⟨rfl, n2, rfl⟩
  go_wp2_with fail
  go_ret
  exact ⟨rfl, n + n2, rfl⟩
end Go.Proofs.YtmncgnmgdkdhaaaGreatDoor
