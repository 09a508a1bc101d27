/- The walks of the document's calendar: date, Month, Year. -/
import Derived.Test.YteamkiblogbfmaaDayW6
namespace Go.Proofs.Yteamkiblogbfmaa
open Go.RowKit
set_option linter.unusedVariables false
set_option linter.unusedSimpArgs false
def RdateR (D : Int) (w : World) (y l m : Value) (wr : World) : Prop := ∃ (Y L : Int) (k : Nat), y = .int .i64 Y ∧ l = .int .i64 L ∧ m = .int .i64 ((k : Int) + 1) ∧ k < 12 ∧ -1000000000000000 ≤ Y ∧ Y ≤ 1000000000000000 ∧ 0 ≤ L ∧ L ≤ 146097 ∧ Pl.yearB Y + Pl.cum Y k + L = D ∧ Below w.heap.size w wr
theorem yearB_up {Y D : Int} (h1 : D ≤ 100000000000000000) (h : Pl.yearB Y ≤ D) : Y ≤ 999999999999999 := by unfold Pl.yearB at h; omega
set_option maxRecDepth 100000 in
theorem rdate_any (D : Int) (h0 : -100000000000000000 ≤ D) (h1 : D ≤ 100000000000000000) (w : World) : Calls Try.prog 82 #[.int .i64 D] w (fun e w' => ∃ (y : Int) (m : Nat) (r : Int), e = .returned (.tuple #[.int .i64 y, .int .i64 ((m : Int) + 1), .int .i64 (r + 1)]) ∧ Pl.IsDate D y m r ∧ Below w.heap.size w w') := by
  obtain ⟨C, hC⟩ : ∃ C, C = D / 146097 := ⟨_, rfl⟩
  have hC0 : -1000000000000 ≤ C ∧ C ≤ 1000000000000 := by omega
  have hC1 : 0 ≤ D - 146097 * C ∧ D - 146097 * C < 146097 := by omega
  have hfl := fun w => floor_any D 146097 (by omega) (by omega) (by omega) (by omega) w
  rw [← hC] at hfl
  have hyb : Pl.yearB (2000 + 400 * C) = 146097 * C := by rw [Pl.yearB_cycle]; simp [Pl.yearB]
  have HE := Lib.hid (And.intro hC hyb); clear hC hyb
  go_enter Try.func82, Try.ntmps82
  go_wp2_with fail
  refine (hfl _).mono ?_
  rintro e w' ⟨rfl, n, rfl⟩
  go_wp2_with fail
  refine (hfl _).mono ?_
  rintro e w' ⟨rfl, n2, rfl⟩
  clear hfl
  go_wp2_with fail
  go_loopw [5, 6, 7] (RdateR D w) (fun _ l _ _ => (intOf l).toNat)
  case atStart => exact ⟨2000 + 400 * C, D - 146097 * C, 0, rfl, rfl, rfl, by omega, by omega, by omega, by omega, by omega, by have := HE.out.2; simp [Pl.cum]; omega, below_drewN (Below.refl _ _) _⟩
  case round =>
    obtain ⟨Y, L, k, rfl, rfl, rfl, g1, g2, g3, g4, g5, g6, g7⟩ := hrel
    have hm := Pl.monthL_ge Y k
    have hdays := fun w => days_any Y k g1 w
    obtain ⟨M, hM⟩ : ∃ M, M = Pl.monthL Y k := ⟨_, rfl⟩
    rw [← hM] at hm hdays
    have G := Lib.hid (And.intro g6 hM); clear g6 hM
    by_cases hc : M ≤ L
    · by_cases hk : k = 11
      · subst hk
        have hy9 : Y ≤ 999999999999999 := yearB_up (D := D) h1 (by have := G.out.1; have := Pl.cum_ge Y 11; omega)
        go_wp2_with fail
        refine (hdays _).mono ?_
        rintro e w' ⟨rfl, n, rfl⟩
        go_wp2_with fail
        refine (hdays _).mono ?_
        rintro e w' ⟨rfl, n2, rfl⟩
        clear hdays
        go_wp2_with fail
        refine ⟨⟨Y + 1, L - M, 0, rfl, rfl, rfl, by omega, by omega, by omega, by omega, by omega, ?_, below_drewN g7 _⟩, by simp [intOf]; omega⟩
        have e1 := Pl.yearB_succ Y
        have e2 := Pl.cum_12 Y
        have e3 : Pl.cum Y 12 = Pl.cum Y 11 + Pl.monthL Y 11 := rfl
        have e4 := G.out
        rw [← e4.2] at e3
        show Pl.yearB (Y + 1) + 0 + (L - M) = D
        omega
      · have hk2 : ((k : Int) + 1 + 1 == 13) = false := by rw [beq_eq_false_iff_ne]; omega
        have hk3 : ((k : Int) + 2 == 13) = false := by rw [beq_eq_false_iff_ne]; omega
        go_wp2_with fail
        refine (hdays _).mono ?_
        rintro e w' ⟨rfl, n, rfl⟩
        go_wp2_with fail
        refine (hdays _).mono ?_
        rintro e w' ⟨rfl, n2, rfl⟩
        clear hdays
        go_wp2_with fail
        refine ⟨⟨Y, L - M, k + 1, rfl, rfl, ?_, by omega, by omega, by omega, by omega, by omega, ?_, below_drewN g7 _⟩, by simp [intOf]; omega⟩
        · congr 1
        · have e3 := Pl.cum_succ Y k
          have e4 := G.out
          omega
    · go_wp2_with fail
      refine (hdays _).mono ?_
      rintro e w' ⟨rfl, n, rfl⟩
      go_wp2_with fail
      go_ret3
      exact ⟨Y, k, L, rfl, ⟨by have := G.out.1; omega, g4, by have := G.out.2; omega, g1⟩, below_drewN g7 _⟩
set_option maxRecDepth 100000 in
theorem rmonth_any (a : Int) (h0 : -9223372036854775808 ≤ a) (h1 : a ≤ 9223372036854775807) (w : World) : Calls Try.prog 78 #[.int .i64 a] w (fun e w' => e = .returned (.int .i64 (Pl.monthD (Pl.dayN a))) ∧ Below w.heap.size w w') := by
  have hd := dayN_in a h0 h1
  go_enter Try.func78, Try.ntmps78
  go_wp2_with fail
  with_reducible refine (rday_any a h0 h1 _).mono ?_
  rintro e w' ⟨rfl, n, rfl⟩
  go_wp2_with fail
  with_reducible refine (rdate_any (Pl.dayN a) hd.1 hd.2 _).mono ?_
  rintro e w' ⟨y, m, r, rfl, hI, hb⟩
  have hy := isDate_y hI hd.1 hd.2
  have hm := hI.2.2.2
  have e := hI.monthD
  have HI := Lib.hid (And.intro hI e); clear hI e
  go_wp2_with fail
  go_ret
  refine ⟨?_, (below_drewN (Below.refl _ _) n).trans hb⟩
  rw [HI.out.2]
  refine congrArg Ending.returned (ret_i ?_)
  omega
set_option maxRecDepth 100000 in
theorem ryear_any (a : Int) (h0 : -9223372036854775808 ≤ a) (h1 : a ≤ 9223372036854775807) (w : World) : Calls Try.prog 79 #[.int .i64 a] w (fun e w' => e = .returned (.int .i64 (Pl.yearD (Pl.dayN a))) ∧ Below w.heap.size w w') := by
  have hd := dayN_in a h0 h1
  go_enter Try.func79, Try.ntmps79
  go_wp2_with fail
  with_reducible refine (rday_any a h0 h1 _).mono ?_
  rintro e w' ⟨rfl, n, rfl⟩
  go_wp2_with fail
  with_reducible refine (rdate_any (Pl.dayN a) hd.1 hd.2 _).mono ?_
  rintro e w' ⟨y, m, r, rfl, hI, hb⟩
  have e := hI.yearD
  have HI := Lib.hid (And.intro hI e); clear hI e
  go_wp2_with fail
  go_ret
  exact ⟨by rw [HI.out.2]; rfl, (below_drewN (Below.refl _ _) n).trans hb⟩
end Go.Proofs.Yteamkiblogbfmaa
