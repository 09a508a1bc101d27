/- Plain Lean: days, weeks, months and years of a minute. No program in sight. -/
import Derived.WalkKit
set_option linter.unusedVariables false
namespace Go.Proofs.YtmncgnmgdkdhaaaGreatDoor.Pl
/-- A divided by b, rounded down (b above 0): Go's two numbers. -/
theorem by_down (a b : Int) (hb : 0 < b) : (if a.tmod b < 0 then a.tdiv b - 1 else a.tdiv b) = a / b ∧ (if a.tmod b < 0 then a.tmod b + b else a.tmod b) = a % b := by
  have h1 := Int.tmod_add_tdiv_mul a b
  have h3 := Int.emod_add_mul_ediv a b
  have h4 := Int.emod_nonneg a (show b ≠ 0 by omega)
  have h5 := Int.emod_lt_of_pos a hb
  have h6 : a.tmod b < b := Int.tmod_lt_of_pos a hb
  have h7 : -b < a.tmod b := by
    have h8 : (-a).tmod b < b := Int.tmod_lt_of_pos (-a) hb
    rw [Int.neg_tmod] at h8; omega
  have key : ∀ q r : Int, 0 ≤ r → r < b → r + q * b = a → q = a / b ∧ r = a % b := by
    intro q r hr0 hrb he
    have e1 : a / b = q := by
      rw [← he, Int.add_mul_ediv_right _ _ (by omega), Int.ediv_eq_zero_of_lt hr0 hrb, Int.zero_add]
    refine ⟨e1.symm, ?_⟩
    rw [← he, Int.add_mul_emod_self_right, Int.emod_eq_of_lt hr0 hrb]
  by_cases h : a.tmod b < 0
  · rw [if_pos h, if_pos h]
    exact key _ _ (by omega) (by omega) (by rw [Int.sub_mul]; omega)
  · rw [if_neg h, if_neg h]
    exact key _ _ (by omega) h6 h1
def dayN (m : Int) : Int := m / 1440
def weekN (m : Int) : Int := (dayN m + 5) / 7
def leapY (y : Int) : Bool := (decide (y % 4 = 0)) && ((!(decide (y % 100 = 0))) || decide (y % 400 = 0))
def yearL (y : Int) : Int := if leapY y then 366 else 365
def monthL (y : Int) (m : Nat) : Int := if m = 1 then (if leapY y then 29 else 28) else if m = 3 ∨ m = 5 ∨ m = 8 ∨ m = 10 then 30 else 31
/-- The months' walk, from month m on, k months at most. -/
def monthsP (y : Int) : Nat → Nat → Int → Nat × Int
  | 0, m, r => (m, r)
  | k + 1, m, r => if r < monthL y m then (m, r) else monthsP y k (m + 1) (r - monthL y m)
/-- The years' walk. -/
def yearsP : Nat → Int → Int → Int × Int
  | 0, y, r => (y, r)
  | k + 1, y, r => if r < yearL y then (y, r) else yearsP k (y + 1) (r - yearL y)
theorem yearL_ge (y : Int) : 365 ≤ yearL y ∧ yearL y ≤ 366 := by unfold yearL; split <;> omega
end Go.Proofs.YtmncgnmgdkdhaaaGreatDoor.Pl
