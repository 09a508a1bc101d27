/- The walks of day's leap, yearDays. -/
import Derived.Test.YtmncgnmgdkdhaaaGreatDoorDayW2
namespace Go.Proofs.YtmncgnmgdkdhaaaGreatDoor
open Go.RowKit
set_option linter.unusedVariables false
set_option linter.unusedSimpArgs false
theorem Pl.tmod_zero (a b : Int) : a.tmod b = 0 ↔ a % b = 0 :=
  ⟨fun h => Int.emod_eq_zero_of_dvd (Int.dvd_of_tmod_eq_zero h), fun h => Int.tmod_eq_zero_of_dvd (Int.dvd_of_emod_eq_zero h)⟩
theorem Pl.tmod_in (a b : Int) (hb : 0 < b) : -b < a.tmod b ∧ a.tmod b < b := by
  have h6 : a.tmod b < b := Int.tmod_lt_of_pos a (by omega)
  have h8 : (-a).tmod b < b := Int.tmod_lt_of_pos (-a) (by omega)
  rw [Int.neg_tmod] at h8; omega
set_option maxRecDepth 100000 in
theorem leap_any (y : Int) (w : World) : Calls Tryz.prog 97 #[.int .i64 y] w (fun e w' => e = .returned (.bool (Pl.leapY y)) ∧ ∃ n, w' = w.drewN n) := by
  have b4 := Pl.tmod_in y 4 (by omega)
  have b1 := Pl.tmod_in y 100 (by omega)
  have b0 := Pl.tmod_in y 400 (by omega)
  have e : Pl.leapY y = ((decide (y.tmod 4 = 0)) && ((!(decide (y.tmod 100 = 0))) || decide (y.tmod 400 = 0))) := by
    unfold Pl.leapY
    simp only [Pl.tmod_zero]
  rw [e]; clear e
  obtain ⟨r4, h4⟩ : ∃ r, y.tmod 4 = r := ⟨_, rfl⟩
  obtain ⟨r1, h5⟩ : ∃ r, y.tmod 100 = r := ⟨_, rfl⟩
  obtain ⟨r0, h6⟩ : ∃ r, y.tmod 400 = r := ⟨_, rfl⟩
  rw [h4] at b4
  rw [h5] at b1
  rw [h6] at b0
  rw [h4, h5, h6]
  have w4 : IntKind.i64.wrap r4 = r4 := IntWalk.i64_in _ (by omega)
  have w1 : IntKind.i64.wrap r1 = r1 := IntWalk.i64_in _ (by omega)
  have w0 : IntKind.i64.wrap r0 = r0 := IntWalk.i64_in _ (by omega)
  go_enter Tryz.func97, Tryz.ntmps97
  go_wp2_with fail
  all_goals
    go_ret
    refine ⟨?_, 0, rfl⟩
    clear w4 w1 w0 h4 h5 h6 b4 b1 b0
    by_cases c0 : r0 = 0 <;> simp_all
set_option maxRecDepth 100000 in
theorem yearDays_any (y : Int) (w : World) : Calls Tryz.prog 75 #[.int .i64 y] w (fun e w' => e = .returned (.int .i64 (Pl.yearL y)) ∧ ∃ n, w' = w.drewN n) := by
  unfold Pl.yearL
  go_enter Tryz.func75, Tryz.ntmps75
  go_wp2_with fail
  with_reducible refine (leap_any y _).mono ?_
  rintro e w' ⟨rfl, n, rfl⟩
  go_wp2_with fail
  all_goals
    go_ret
    exact ⟨by simp_all, n, rfl⟩
end Go.Proofs.YtmncgnmgdkdhaaaGreatDoor
