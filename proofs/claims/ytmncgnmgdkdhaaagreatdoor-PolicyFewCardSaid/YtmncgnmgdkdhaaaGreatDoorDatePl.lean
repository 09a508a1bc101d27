/- Plain Lean: the calendar. Of each day's number there is one year and one month; both go up with the day. No program in sight. -/
import Derived.Test.YtmncgnmgdkdhaaaGreatDoorDayPl
set_option linter.unusedVariables false
namespace Go.Proofs.YtmncgnmgdkdhaaaGreatDoor.Pl
/-- The number of days from the year 2000 on to a year's begin. -/
def yearB (y : Int) : Int := 365 * (y - 2000) + (y - 2000 + 3) / 4 - (y - 2000 + 99) / 100 + (y - 2000 + 399) / 400
theorem leapY_iff (y : Int) : leapY y = true ↔ (y % 4 = 0 ∧ (y % 100 ≠ 0 ∨ y % 400 = 0)) := by unfold leapY; simp
theorem yearB_succ (y : Int) : yearB (y + 1) = yearB y + yearL y := by
  unfold yearB yearL
  by_cases h : leapY y = true
  · rw [if_pos h]
    have := (leapY_iff y).1 h
    omega
  · rw [if_neg h]
    have := mt (leapY_iff y).2 h
    omega
theorem yearB_cycle (y q : Int) : yearB (y + 400 * q) = yearB y + 146097 * q := by unfold yearB; omega
theorem leapY_cycle (y q : Int) : leapY (y + 400 * q) = leapY y := by
  rw [Bool.eq_iff_iff, leapY_iff, leapY_iff]; omega
/-- The days of a year ahead of its month m. -/
def cum (y : Int) : Nat → Int
  | 0 => 0
  | m + 1 => cum y m + monthL y m
theorem cum_succ (y : Int) (m : Nat) : cum y (m + 1) = cum y m + monthL y m := rfl
theorem cum_12 (y : Int) : cum y 12 = yearL y := by
  simp only [cum, monthL, yearL]
  by_cases h : leapY y = true <;> simp [h]
theorem monthL_ge (y : Int) (m : Nat) : 28 ≤ monthL y m ∧ monthL y m ≤ 31 := by
  unfold monthL
  split
  · split <;> omega
  · split <;> omega
theorem monthL_cycle (y q : Int) (m : Nat) : monthL (y + 400 * q) m = monthL y m := by unfold monthL; rw [leapY_cycle]
theorem cum_cycle (y q : Int) (m : Nat) : cum (y + 400 * q) m = cum y m := by
  induction m with
  | zero => rfl
  | succ m ih => rw [cum_succ, cum_succ, ih, monthL_cycle]
/-- The day D is day r of month m of year y. -/
def IsDate (D y : Int) (m : Nat) (r : Int) : Prop := yearB y + cum y m + r = D ∧ 0 ≤ r ∧ r < monthL y m ∧ m < 12
theorem IsDate.cycle {D y r : Int} {m : Nat} (h : IsDate D y m r) (q : Int) : IsDate (D + 146097 * q) (y + 400 * q) m r := by
  obtain ⟨h1, h2, h3, h4⟩ := h
  refine ⟨?_, h2, ?_, h4⟩
  · rw [yearB_cycle, cum_cycle]; omega
  · rw [monthL_cycle]; exact h3
/-- The first day of the month whose number is M. -/
def monthB (M : Int) : Int := yearB (2000 + M / 12) + cum (2000 + M / 12) (M % 12).toNat
def lenM (M : Int) : Int := monthL (2000 + M / 12) (M % 12).toNat
theorem monthB_succ (M : Int) : monthB (M + 1) = monthB M + lenM M := by
  unfold monthB lenM
  by_cases h : M % 12 = 11
  · have e1 : (M + 1) / 12 = M / 12 + 1 := by omega
    have e2 : (M + 1) % 12 = 0 := by omega
    rw [e1, e2, h]
    have e3 : 2000 + (M / 12 + 1) = (2000 + M / 12) + 1 := by omega
    rw [e3, yearB_succ]
    have := cum_12 (2000 + M / 12)
    have e4 : cum (2000 + M / 12) 12 = cum (2000 + M / 12) 11 + monthL (2000 + M / 12) 11 := rfl
    show _ + yearL _ + 0 = _ + cum _ 11 + monthL _ 11
    omega
  · have e1 : (M + 1) / 12 = M / 12 := by omega
    have e2 : ((M + 1) % 12).toNat = (M % 12).toNat + 1 := by omega
    rw [e1, e2, cum_succ]; omega
theorem lenM_ge (M : Int) : 28 ≤ lenM M := (monthL_ge _ _).1
theorem monthB_add (M : Int) (k : Nat) : monthB M ≤ monthB (M + k) := by
  induction k with
  | zero => simp
  | succ k ih =>
    have := monthB_succ (M + k)
    have := lenM_ge (M + k)
    have e : M + ((k + 1 : Nat) : Int) = M + k + 1 := by omega
    rw [e]; omega
theorem monthB_mono {M N : Int} (h : M ≤ N) : monthB M ≤ monthB N := by
  have := monthB_add M (N - M).toNat
  have e : M + ((N - M).toNat : Int) = N := by omega
  rwa [e] at this
theorem IsDate.month {D y r : Int} {m : Nat} (h : IsDate D y m r) : monthB (12 * (y - 2000) + m) ≤ D ∧ D < monthB (12 * (y - 2000) + m + 1) := by
  obtain ⟨h1, h2, h3, h4⟩ := h
  have e1 : (12 * (y - 2000) + (m : Int)) / 12 = y - 2000 := by omega
  have e2 : ((12 * (y - 2000) + (m : Int)) % 12).toNat = m := by omega
  rw [monthB_succ]
  unfold monthB lenM
  rw [e1, e2]
  have e3 : 2000 + (y - 2000) = y := by omega
  rw [e3]; omega
theorem month_le {D E M N : Int} (h1 : monthB M ≤ D) (hDE : D ≤ E) (h2 : E < monthB (N + 1)) : M ≤ N := by
  rcases Int.lt_or_le N M with h | h
  · have := monthB_mono (show N + 1 ≤ M by omega); omega
  · exact h
/-- Of later days the month is no earlier. -/
theorem IsDate.mono {D E y z r s : Int} {m n : Nat} (h : IsDate D y m r) (g : IsDate E z n s) (hDE : D ≤ E) : 12 * (y - 2000) + m ≤ 12 * (z - 2000) + n :=
  month_le h.month.1 hDE g.month.2
theorem IsDate.one {D y z r s : Int} {m n : Nat} (h : IsDate D y m r) (g : IsDate D z n s) : y = z ∧ m = n ∧ r = s := by
  have h1 := h.mono g (Int.le_refl _)
  have h2 := g.mono h (Int.le_refl _)
  have hm := h.2.2.2
  have hn := g.2.2.2
  have e1 : y = z := by omega
  have e2 : m = n := by omega
  subst e1; subst e2
  refine ⟨rfl, rfl, ?_⟩
  have := h.1; have := g.1; omega
theorem ex_date0 (k : Nat) : ∃ y m r, IsDate (k : Int) y m r := by
  induction k with
  | zero => exact ⟨2000, 0, 0, by unfold IsDate; decide⟩
  | succ k ih =>
    obtain ⟨y, m, r, h1, h2, h3, h4⟩ := ih
    by_cases hr : r + 1 < monthL y m
    · exact ⟨y, m, r + 1, by omega, by omega, hr, h4⟩
    · by_cases hm : m = 11
      · subst hm
        refine ⟨y + 1, 0, 0, ?_, by omega, ?_, by omega⟩
        · rw [yearB_succ, ← cum_12]
          have e4 : cum y 12 = cum y 11 + monthL y 11 := rfl
          show _ + _ + 0 + 0 = _
          omega
        · have := monthL_ge (y + 1) 0; omega
      · refine ⟨y, m + 1, 0, ?_, by omega, ?_, by omega⟩
        · rw [cum_succ]; omega
        · have := monthL_ge y (m + 1); omega
theorem ex_date (D : Int) : ∃ y m r, IsDate D y m r := by
  obtain ⟨y, m, r, h⟩ := ex_date0 (D % 146097).toNat
  have := h.cycle (D / 146097)
  have e : (((D % 146097).toNat : Nat) : Int) + 146097 * (D / 146097) = D := by omega
  rw [e] at this
  exact ⟨_, _, _, this⟩
/-- The number of the month of a day: the search from its cycle's begin. -/
def monthS : Nat → Int → Int → Int
  | 0, M, _ => M
  | k + 1, M, D => if D < monthB (M + 1) then M else monthS k (M + 1) D
theorem monthS_eq {D N : Int} (hN : monthB N ≤ D) (hN2 : D < monthB (N + 1)) : ∀ (k : Nat) (M : Int), M ≤ N → N ≤ M + k → monthS k M D = N
  | 0, M, h1, h2 => by show M = N; omega
  | k + 1, M, h1, h2 => by
    show (if _ then _ else _) = _
    by_cases h : D < monthB (M + 1)
    · rw [if_pos h]
      rcases Int.lt_or_le M N with h3 | h3
      · have := monthB_mono (show M + 1 ≤ N by omega); omega
      · omega
    · rw [if_neg h]
      refine monthS_eq hN hN2 k (M + 1) ?_ (by omega)
      rcases Int.lt_or_le M N with h3 | h3
      · omega
      · exfalso; have : M = N := by omega
        subst this; omega
theorem yearB_lt {y : Int} (h : yearB y < 146097) : y < 2400 := by
  rcases Int.lt_or_le y 2400 with h1 | h1
  · exact h1
  · exfalso; unfold yearB at h; omega
/-- The months' number of a day. -/
def monthD (D : Int) : Int := 4800 * (D / 146097) + monthS 4800 0 (D % 146097)
theorem IsDate.monthD {D y r : Int} {m : Nat} (h : IsDate D y m r) : monthD D = 12 * (y - 2000) + m := by
  obtain ⟨z, n, s, g⟩ := ex_date (D % 146097)
  have g2 := g.cycle (D / 146097)
  have e : D % 146097 + 146097 * (D / 146097) = D := by omega
  rw [e] at g2
  obtain ⟨rfl, rfl, rfl⟩ := h.one g2
  have hz : 0 ≤ 12 * (z - 2000) + (m : Int) := by
    have h0 : IsDate 0 2000 0 0 := by unfold IsDate; decide
    have := h0.mono g (by omega)
    simpa using this
  have hz2 : z < 2400 := by
    refine yearB_lt ?_
    have := g.1
    have h1 : 0 ≤ cum z m := by
      have : ∀ k, 0 ≤ cum z k := by
        intro k
        induction k with
        | zero => exact Int.le_refl _
        | succ k ih => rw [cum_succ]; have := monthL_ge z k; omega
      exact this m
    have := g.2.1
    omega
  have hm := g.2.2.2
  have hm1 := g.month.1
  have hm2 := g.month.2
  unfold Pl.monthD
  rw [monthS_eq hm1 hm2 4800 0 (by omega) (by omega)]
  omega
def yearD (D : Int) : Int := 2000 + monthD D / 12
theorem IsDate.yearD {D y r : Int} {m : Nat} (h : IsDate D y m r) : yearD D = y := by
  have := h.2.2.2
  unfold Pl.yearD; rw [h.monthD]; omega
theorem monthD_mono {D E : Int} (h : D ≤ E) : monthD D ≤ monthD E := by
  obtain ⟨y, m, r, h1⟩ := ex_date D
  obtain ⟨z, n, s, h2⟩ := ex_date E
  rw [h1.monthD, h2.monthD]
  exact h1.mono h2 h
theorem yearD_mono {D E : Int} (h : D ≤ E) : yearD D ≤ yearD E := by
  have := monthD_mono h
  unfold yearD; omega
theorem dayN_mono {a b : Int} (h : a ≤ b) : dayN a ≤ dayN b := by unfold dayN; omega
theorem weekN_mono {a b : Int} (h : a ≤ b) : weekN a ≤ weekN b := by have := dayN_mono h; unfold weekN; omega
/-- A minute's period: of a day (0), a week (1), a month (2), a year. -/
def per (k : Nat) (a : Int) : Int := match k with | 0 => dayN a | 1 => weekN a | 2 => monthD (dayN a) | _ => yearD (dayN a)
theorem per_mono (k : Nat) {a b : Int} (h : a ≤ b) : per k a ≤ per k b := by
  unfold per
  split
  · exact dayN_mono h
  · exact weekN_mono h
  · exact monthD_mono (dayN_mono h)
  · exact yearD_mono (dayN_mono h)
end Go.Proofs.YtmncgnmgdkdhaaaGreatDoor.Pl
