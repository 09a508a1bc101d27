/- The walks of the document's calendar: floor, Day, Week, leap, days. -/
import Derived.Test.YteamkiblogbfmaaDayW5
namespace Go.Proofs.Yteamkiblogbfmaa
open Go.RowKit
set_option linter.unusedVariables false
set_option linter.unusedSimpArgs false
set_option maxRecDepth 100000 in
theorem floor_any (a b : Int) (hb : 2 ≤ b) (hb2 : b ≤ 1000000) (h0 : -9223372036854775808 ≤ a) (h1 : a ≤ 9223372036854775807) (w : World) : Calls Try.prog 81 #[.int .i64 a, .int .i64 b] w (fun e w' => e = .returned (.int .i64 (a / b)) ∧ ∃ n, w' = w.drewN n) := by
  have hd := (Pl.by_down a b (by omega)).1
  have hne : (b == 0) = false := by rw [beq_eq_false_iff_ne]; omega
  obtain ⟨q, hq⟩ : ∃ q, a.tdiv b = q := ⟨_, rfl⟩
  obtain ⟨r, hr⟩ : ∃ r, a.tmod b = r := ⟨_, rfl⟩
  have hqb : -4611686018427387904 ≤ q ∧ q ≤ 4611686018427387904 := by
    have e := Int.tmod_add_tdiv_mul a b
    have h6 : a.tmod b < b := Int.tmod_lt_of_pos a (by omega)
    have h7 : -b < a.tmod b := by
      have h8 : (-a).tmod b < b := Int.tmod_lt_of_pos (-a) (by omega)
      rw [Int.neg_tmod] at h8; omega
    have e2 := hd
    have e3 : a / b ≤ a.tdiv b := by rw [← e2]; split <;> omega
    have e4 : a.tdiv b ≤ a / b + 1 := by rw [← e2]; split <;> omega
    have l1 : -4611686018427387904 ≤ a / b := (Int.le_ediv_iff_mul_le (by omega)).2 (by omega)
    have l2 : a / b < 4611686018427387904 := Int.ediv_lt_of_lt_mul (by omega) (by omega)
    omega
  have hrb : -b < r ∧ r < b := by
    rw [← hr]
    have h6 : a.tmod b < b := Int.tmod_lt_of_pos a (by omega)
    have h8 : (-a).tmod b < b := Int.tmod_lt_of_pos (-a) (by omega)
    rw [Int.neg_tmod] at h8; omega
  rw [hq, hr] at hd
  rw [← hd]
  have hb0 : ¬ b = 0 := by omega
  have hwq : IntKind.i64.wrap q = q := IntWalk.i64_in _ (by omega)
  have hwr : IntKind.i64.wrap r = r := IntWalk.i64_in _ (by omega)
  have HD := Lib.hid hd; clear hd
  by_cases h : r < 0
  · have hd : decide (r < 0) = true := decide_eq_true h
    go_enter Try.func81, Try.ntmps81
    go_wp2_with fail
    go_ret
    exact ⟨rfl, 0, rfl⟩
  · have hd : decide (r < 0) = false := decide_eq_false h
    go_enter Try.func81, Try.ntmps81
    go_wp2_with fail
    go_ret
    exact ⟨rfl, 0, rfl⟩
set_option maxRecDepth 100000 in
theorem rday_any (a : Int) (h0 : -9223372036854775808 ≤ a) (h1 : a ≤ 9223372036854775807) (w : World) : Calls Try.prog 76 #[.int .i64 a] w (fun e w' => e = .returned (.int .i64 (Pl.dayN a)) ∧ ∃ n, w' = w.drewN n) := by
  go_enter Try.func76, Try.ntmps76
  go_wp2_with fail
  with_reducible refine (floor_any a 1440 (by omega) (by omega) h0 h1 _).mono ?_
  rintro e w' ⟨rfl, n, rfl⟩
  go_wp2_with fail
  go_ret
  exact ⟨rfl, n, rfl⟩
set_option maxRecDepth 100000 in
theorem rweek_any (a : Int) (h0 : -9223372036854775808 ≤ a) (h1 : a ≤ 9223372036854775807) (w : World) : Calls Try.prog 77 #[.int .i64 a] w (fun e w' => e = .returned (.int .i64 (Pl.weekN a)) ∧ ∃ n, w' = w.drewN n) := by
  have hD : -9223372036854775808 ≤ Pl.dayN a + 5 ∧ Pl.dayN a + 5 ≤ 9223372036854775807 := by unfold Pl.dayN; omega
  have hw : IntKind.i64.wrap (Pl.dayN a + 5) = Pl.dayN a + 5 := IntWalk.i64_in _ hD
  go_enter Try.func77, Try.ntmps77
  go_wp2_with fail
  with_reducible refine (rday_any a h0 h1 _).mono ?_
  rintro e w' ⟨rfl, n, rfl⟩
  go_wp2_with fail
  with_reducible refine (floor_any (Pl.dayN a + 5) 7 (by omega) (by omega) hD.1 hD.2 _).mono ?_
  rintro e w' ⟨rfl, n2, rfl⟩
  go_wp2_with fail
  go_ret
  exact ⟨rfl, n + n2, rfl⟩
set_option maxRecDepth 100000 in
theorem rleap_any (y : Int) (w : World) : Calls Try.prog 84 #[.int .i64 y] w (fun e w' => e = .returned (.bool (Pl.leapY y)) ∧ ∃ n, w' = w.drewN n) := by
  have b4 := Pl.tmod_in y 4 (by omega)
  have b1 := Pl.tmod_in y 100 (by omega)
  have b0 := Pl.tmod_in y 400 (by omega)
  have e : Pl.leapY y = ((decide (y.tmod 4 = 0)) && ((!(decide (y.tmod 100 = 0))) || decide (y.tmod 400 = 0))) := by
    unfold Pl.leapY
    simp only [Pl.tmod_zero]
  rw [e]; clear e
  obtain ⟨r4, h4⟩ : ∃ r, y.tmod 4 = r := ⟨_, rfl⟩
  obtain ⟨r1, h5⟩ : ∃ r, y.tmod 100 = r := ⟨_, rfl⟩
  obtain ⟨r0, h6⟩ : ∃ r, y.tmod 400 = r := ⟨_, rfl⟩
  rw [h4] at b4
  rw [h5] at b1
  rw [h6] at b0
  rw [h4, h5, h6]
  have w4 : IntKind.i64.wrap r4 = r4 := IntWalk.i64_in _ (by omega)
  have w1 : IntKind.i64.wrap r1 = r1 := IntWalk.i64_in _ (by omega)
  have w0 : IntKind.i64.wrap r0 = r0 := IntWalk.i64_in _ (by omega)
  go_enter Try.func84, Try.ntmps84
  go_wp2_with fail
  all_goals
    go_ret
    refine ⟨?_, 0, rfl⟩
    clear w4 w1 w0 h4 h5 h6 b4 b1 b0
    by_cases c0 : r0 = 0 <;> simp_all
set_option maxRecDepth 100000 in
theorem days_any (y : Int) (m : Nat) (hm : m < 12) (w : World) : Calls Try.prog 83 #[.int .i64 y, .int .i64 ((m : Int) + 1)] w (fun e w' => e = .returned (.int .i64 (Pl.monthL y m)) ∧ ∃ n, w' = w.drewN n) := by
  by_cases h1 : m = 1
  · subst h1
    unfold Pl.monthL
    rw [if_pos rfl]
    show Calls Try.prog 83 #[.int .i64 y, .int .i64 2] w _
    go_enter Try.func83, Try.ntmps83
    go_wp2_with fail
    with_reducible refine (rleap_any y _).mono ?_
    rintro e w' ⟨rfl, n, rfl⟩
    go_wp2_with fail
    all_goals
      go_ret
      exact ⟨by simp_all, n, rfl⟩
  · obtain ⟨M, hM⟩ : ∃ M : Int, M = (m : Int) + 1 := ⟨_, rfl⟩
    have hM1 : M = 1 ∨ M = 3 ∨ M = 4 ∨ M = 5 ∨ M = 6 ∨ M = 7 ∨ M = 8 ∨ M = 9 ∨ M = 10 ∨ M = 11 ∨ M = 12 := by omega
    have hq : Pl.monthL y m = if M = 4 ∨ M = 6 ∨ M = 9 ∨ M = 11 then 30 else 31 := by
      unfold Pl.monthL; rw [if_neg h1]
      by_cases h3 : m = 3 ∨ m = 5 ∨ m = 8 ∨ m = 10
      · rw [if_pos h3, if_pos (by omega)]
      · rw [if_neg h3, if_neg (by omega)]
    rw [hq, ← hM]
    clear hq hM h1 hm
    rcases hM1 with rfl | rfl | rfl | rfl | rfl | rfl | rfl | rfl | rfl | rfl | rfl
    all_goals
      go_enter Try.func83, Try.ntmps83
      go_wp2_with fail
      go_ret
      exact ⟨by simp, 0, rfl⟩
end Go.Proofs.Yteamkiblogbfmaa
