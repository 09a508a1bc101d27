/- The walk of day's date: the year and the month of a day. -/
import Derived.Test.YtmncgnmgdkdhaaaGreatDoorDayW4
import Derived.Test.YtmncgnmgdkdhaaaGreatDoorDatePl
import Derived.LoopTactic
import Derived.IntWalk
namespace Go.Proofs.YtmncgnmgdkdhaaaGreatDoor
open Go.RowKit
set_option linter.unusedVariables false
set_option linter.unusedSimpArgs false
theorem Pl.yearB_ge {y : Int} (h : 2000 ≤ y) : 365 * (y - 2000) ≤ Pl.yearB y := by unfold Pl.yearB; omega
theorem Pl.cum_ge (y : Int) (k : Nat) : 0 ≤ Pl.cum y k := by
  induction k with
  | zero => exact Int.le_refl _
  | succ k ih => rw [Pl.cum_succ]; have := Pl.monthL_ge y k; omega
def YearsR (E : Int) (w : World) (l y : Value) (wr : World) : Prop := ∃ L Y : Int, l = .int .i64 L ∧ y = .int .i64 Y ∧ 2000 ≤ Y ∧ Y ≤ 2400 ∧ 0 ≤ L ∧ L ≤ 146097 ∧ Pl.yearB Y + L = E ∧ Below w.heap.size w wr
theorem yearsR_go {E L Y : Int} {w wr : World} (hE : E < 146097) (h2 : 2000 ≤ Y) (h3 : Y ≤ 2400) (h5 : L ≤ 146097) (h6 : Pl.yearB Y + L = E) (h7 : Below w.heap.size w wr) (hb : Pl.yearL Y ≤ L) : YearsR E w (.int .i64 (L - Pl.yearL Y)) (.int .i64 (Y + 1)) wr := by
  have := Pl.yearL_ge Y
  have := Pl.yearB_succ Y
  have := @Pl.yearB_lt Y (by omega)
  exact ⟨_, _, rfl, rfl, by omega, by omega, by omega, by omega, by omega, h7⟩
def MonthsR (Y E : Int) (w : World) (l m i : Value) (wr : World) : Prop := ∃ (L : Int) (k : Nat), l = .int .i64 L ∧ m = .int .i64 k ∧ i = .int .i64 k ∧ k ≤ 12 ∧ 0 ≤ L ∧ L ≤ 400 ∧ Pl.cum Y k + L = E ∧ Below w.heap.size w wr
theorem monthsR_go {Y E L : Int} {k : Nat} {w wr : World} (hk : k < 12) (h5 : L ≤ 400) (h6 : Pl.cum Y k + L = E) (h7 : Below w.heap.size w wr) (hb : Pl.monthL Y k ≤ L) : MonthsR Y E w (.int .i64 (L - Pl.monthL Y k)) (.int .i64 ((k + 1 : Nat) : Int)) (.int .i64 ((k + 1 : Nat) : Int)) wr := by
  have := Pl.monthL_ge Y k
  exact ⟨_, k + 1, rfl, rfl, rfl, by omega, by omega, by omega, by rw [Pl.cum_succ]; omega, h7⟩
theorem index_lens (y : Int) (k : Nat) (hk : k < 12) (w : World) : (Instr.index 115 (.agg (i64s (Pl.lens y)).toArray) (.int .i64 (k : Int))).run Tryz.prog w = .ok (.int .i64 (Pl.monthL y k)) w := by
  have h := Pl.lens_get y k hk
  have h2 : (i64s (Pl.lens y))[k]? = some (.int .i64 (Pl.monthL y k)) := by simp [i64s, h]
  simp only [Instr.index, asIntOf, Sem.run_bind, Sem.run_pure, Result.andThen_ok, run_underlying Tryz.underlying115]
  rw [if_pos (by omega)]
  simp [part, Sem.run_bind, Tryz.sizeOf2, Tryz.isAgg2, h2]
set_option maxRecDepth 100000 in
theorem date_any (D : Int) (h0 : -100000000000000000 ≤ D) (h1 : D ≤ 100000000000000000) (w : World) : Calls Tryz.prog 52 #[.int .i64 D] w (fun e w' => ∃ (y : Int) (m : Nat) (r : Int), e = .returned (.tuple #[.int .i64 y, .int .i64 m, .int .i64 r]) ∧ Pl.IsDate D y m r ∧ Below w.heap.size w w') := by
  obtain ⟨E, hE⟩ : ∃ E, E = D % 146097 := ⟨_, rfl⟩
  obtain ⟨C, hC⟩ : ∃ C, C = D / 146097 := ⟨_, rfl⟩
  have hE0 : 0 ≤ E := by omega
  have hE1 : E < 146097 := by omega
  have hC0 : -1000000000000 ≤ C ∧ C ≤ 1000000000000 := by omega
  go_enter Tryz.func52, Tryz.ntmps52
  go_wp2_with fail
  with_reducible refine (by_any D 146097 (by omega) (by omega) (by omega) (by omega) _).mono ?_
  rintro e w' ⟨rfl, n, rfl⟩
  rw [← hE, ← hC]
  have HE := Lib.hid (And.intro hE hC); clear hE hC
  go_wp2_with fail
  go_loopw [6, 7] (YearsR E w) (fun l _ _ => (intOf l).toNat)
  case atStart => exact ⟨E, 2000, rfl, rfl, by omega, by omega, hE0, by omega, by simp [Pl.yearB], below_drewN (Below.refl _ _) _⟩
  case round =>
    obtain ⟨L, Y, rfl, rfl, h2, h3, h4, h5, h6, h7⟩ := hrel
    have hy := Pl.yearL_ge Y
    by_cases hb : Pl.yearL Y ≤ L
    · have hg := yearsR_go hE1 h2 h3 h5 h6 h7 hb
      have H6 := Lib.hid h6; clear h6
      go_wp2_with ((with_reducible refine (yearDays_any Y _).mono ?_); rintro e w' ⟨rfl, n, rfl⟩)
      exact ⟨⟨_, _, rfl, rfl, by omega, by have := @Pl.yearB_lt Y (by have := H6.out; omega); omega, by omega, by omega, by have := H6.out; have := Pl.yearB_succ Y; omega, below_drewN h7 _⟩, by simp [intOf]; omega⟩
    · go_wp2_with ((with_reducible refine (yearDays_any Y _).mono ?_); rintro e w' ⟨rfl, n, rfl⟩)
      (with_reducible refine (lengths_any Y _).mono ?_)
      rintro e w1 ⟨v, rfl, rfl, hb1⟩
      have hb2 := (below_drewN h7 n).trans (hb1.mono (by simpa using h7.size))
      clear hb1 h7
      have hL : L ≤ 365 := by omega
      have H6 := Lib.hid h6; clear h6
      have HB := Lib.hid hb; clear hb
      go_wp2_with fail
      obtain ⟨F, hF⟩ : ∃ F, F = L := ⟨_, rfl⟩
      rw [← hF]
      have HF := Lib.hid hF; clear hF
      have h4' : 0 ≤ F := by rw [HF.out]; exact h4
      have hL' : F ≤ 365 := by rw [HF.out]; exact hL
      clear h4 hL h5
      go_loopw [6, 8, 28] (MonthsR Y F w) (fun l _ _ _ => (intOf l).toNat)
      case atStart => exact ⟨F, 0, rfl, rfl, rfl, by omega, h4', by omega, by simp [Pl.cum], hb2⟩
      case round =>
        obtain ⟨K, k, rfl, rfl, rfl, g1, g2, g3, g4, g5⟩ := hrel
        have hx := index_lens Y k
        have hm := Pl.monthL_ge Y k
        by_cases hk : k < 12
        · replace hx := hx hk
          obtain ⟨M, hM⟩ : ∃ M, M = Pl.monthL Y k := ⟨_, rfl⟩
          rw [← hM] at hx hm
          by_cases hc : K < M
          · have G := Lib.hid (And.intro g4 hM); clear g4 hM
            have hmul : C * 400 = 400 * C := by omega
            have wz : IntKind.i64.wrap (Y + C * 400) = Y + C * 400 := IntWalk.i64_in _ (by omega)
            go_wp2_with fail
            go_ret3
            refine ⟨Y + 400 * C, k, K, rfl, ?_, g5⟩
            have e := HE.out
            have g := G.out
            have hd : Pl.IsDate E Y k K := ⟨by have := H6.out; have := HF.out; omega, g2, by omega, hk⟩
            have := hd.cycle C
            rwa [show E + 146097 * C = D by omega] at this
          · have hg := monthsR_go hk g3 g4 g5 (by omega)
            rw [← hM] at hg
            have G := Lib.hid (And.intro g4 (And.intro hM hg)); clear g4 hM hg
            go_wp2_with fail
            exact ⟨G.out.2.2, by simp [intOf]; omega⟩
        · obtain rfl : k = 12 := by omega
          exfalso
          have := Pl.cum_12 Y
          have := HF.out
          have := HB.out
          omega
theorem dayN_in (a : Int) (h0 : -9223372036854775808 ≤ a) (h1 : a ≤ 9223372036854775807) : -100000000000000000 ≤ Pl.dayN a ∧ Pl.dayN a ≤ 100000000000000000 := by unfold Pl.dayN; omega
theorem isDate_y {D y r : Int} {m : Nat} (h : Pl.IsDate D y m r) (h0 : -100000000000000000 ≤ D) (h1 : D ≤ 100000000000000000) : -1000000000000000 ≤ y ∧ y ≤ 1000000000000000 := by
  have hc : ∀ k, k ≤ 12 → Pl.cum y k ≤ 31 * k := by
    intro k
    induction k with
    | zero => intro _; exact Int.le_refl _
    | succ k ih => intro hk; rw [Pl.cum_succ]; have := Pl.monthL_ge y k; have := ih (by omega); omega
  have h2 := h.1
  have h3 := hc m (by have := h.2.2.2; omega)
  have h4 := Pl.cum_ge y m
  have h5 := Pl.monthL_ge y m
  have h6 := h.2
  unfold Pl.yearB at h2
  omega
set_option maxRecDepth 100000 in
theorem month_any (a : Int) (h0 : -9223372036854775808 ≤ a) (h1 : a ≤ 9223372036854775807) (w : World) : Calls Tryz.prog 33 #[.int .i64 a] w (fun e w' => e = .returned (.int .i64 (Pl.monthD (Pl.dayN a))) ∧ Below w.heap.size w w') := by
  have hd := dayN_in a h0 h1
  go_enter Tryz.func33, Tryz.ntmps33
  go_wp2_with fail
  with_reducible refine (day_any a h0 h1 _).mono ?_
  rintro e w' ⟨rfl, n, rfl⟩
  go_wp2_with fail
  with_reducible refine (date_any (Pl.dayN a) hd.1 hd.2 _).mono ?_
  rintro e w' ⟨y, m, r, rfl, hI, hb⟩
  have hy := isDate_y hI hd.1 hd.2
  have hm := hI.2.2.2
  have e := hI.monthD
  have HI := Lib.hid (And.intro hI e); clear hI e
  go_wp2_with fail
  go_ret
  refine ⟨?_, (below_drewN (Below.refl _ _) n).trans hb⟩
  show Ending.returned (.int .i64 ((y - 2000) * 12 + (m : Int))) = _
  rw [HI.out.2, Int.mul_comm]
set_option maxRecDepth 100000 in
theorem year_any (a : Int) (h0 : -9223372036854775808 ≤ a) (h1 : a ≤ 9223372036854775807) (w : World) : Calls Tryz.prog 34 #[.int .i64 a] w (fun e w' => e = .returned (.int .i64 (Pl.yearD (Pl.dayN a))) ∧ Below w.heap.size w w') := by
  have hd := dayN_in a h0 h1
  go_enter Tryz.func34, Tryz.ntmps34
  go_wp2_with fail
  with_reducible refine (day_any a h0 h1 _).mono ?_
  rintro e w' ⟨rfl, n, rfl⟩
  go_wp2_with fail
  with_reducible refine (date_any (Pl.dayN a) hd.1 hd.2 _).mono ?_
  rintro e w' ⟨y, m, r, rfl, hI, hb⟩
  have e := hI.yearD
  have HI := Lib.hid (And.intro hI e); clear hI e
  go_wp2_with fail
  go_ret
  exact ⟨by rw [HI.out.2]; rfl, (below_drewN (Below.refl _ _) n).trans hb⟩
end Go.Proofs.YtmncgnmgdkdhaaaGreatDoor
