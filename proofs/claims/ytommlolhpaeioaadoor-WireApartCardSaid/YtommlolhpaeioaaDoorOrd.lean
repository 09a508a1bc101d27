/- Plain Lean: the order of texts. No program in sight. -/
import Derived.Test.YtommlolhpaeioaaDoorBase
import Derived.Lib.Bytealg
namespace Go.Proofs.YtommlolhpaeioaaDoor.Pl
def less (a b : List UInt8) : Bool := Op.bytesLess a b
theorem less_eq (a b : List UInt8) : less a b = Op.bytesLess a b := rfl
theorem u8_lt_irrefl (a : UInt8) : ¬ a < a := by rw [UInt8.lt_iff_toNat_lt]; omega
theorem u8_tri (a b : UInt8) (h1 : ¬ a < b) (h2 : ¬ b < a) : a = b := by
  rw [UInt8.lt_iff_toNat_lt] at h1 h2; exact UInt8.toNat_inj.1 (by omega)
theorem less_cmp : ∀ a b : List UInt8, (less a b = true ↔ Lib.compareBytes a b = -1) ∧ (a = b ↔ Lib.compareBytes a b = 0) ∧ (Lib.compareBytes a b = -1 ∨ Lib.compareBytes a b = 0 ∨ Lib.compareBytes a b = 1)
  | [], [] => by simp [less, Op.bytesLess, Lib.compareBytes]
  | [], _ :: _ => by simp [less, Op.bytesLess, Lib.compareBytes]
  | _ :: _, [] => by simp [less, Op.bytesLess, Lib.compareBytes]
  | a :: x, b :: y => by
    obtain ⟨h1, h2, h3⟩ := less_cmp x y
    unfold less at h1 ⊢
    rw [Op.bytesLess, Lib.compareBytes]
    by_cases e1 : a < b
    · have : a ≠ b := by rintro rfl; exact u8_lt_irrefl _ e1
      simp [e1, this]
    · by_cases e2 : b < a
      · have : a ≠ b := by rintro rfl; exact u8_lt_irrefl _ e2
        simp [e1, e2, this]
      · obtain rfl := u8_tri a b e1 e2
        simp only [e1, decide_false, if_false, Bool.false_or, beq_self_eq_true, Bool.true_and, List.cons.injEq, true_and]
        exact ⟨h1, h2, h3⟩
theorem less_irrefl (a : List UInt8) : less a a = false := by
  cases h : less a a
  · rfl
  · have := (less_cmp a a).1.1 h
    have := (less_cmp a a).2.1.1 rfl
    omega
theorem less_trans : ∀ {a b c : List UInt8}, less a b = true → less b c = true → less a c = true
  | [], [], _, h, _ => by simp [less, Op.bytesLess] at h
  | [], _ :: _, [], _, h => by simp [less, Op.bytesLess] at h
  | [], _ :: _, _ :: _, _, _ => by simp [less, Op.bytesLess]
  | _ :: _, [], _, h, _ => by simp [less, Op.bytesLess] at h
  | _ :: _, _ :: _, [], _, h => by simp [less, Op.bytesLess] at h
  | a :: x, b :: y, c :: z, h1, h2 => by
    unfold less at h1 h2 ⊢
    rw [Op.bytesLess] at h1 h2 ⊢
    simp only [Bool.or_eq_true, Bool.and_eq_true, decide_eq_true_eq, beq_iff_eq] at h1 h2 ⊢
    rcases h1 with h1 | ⟨rfl, h1⟩ <;> rcases h2 with h2 | ⟨rfl, h2⟩
    · left; rw [UInt8.lt_iff_toNat_lt] at h1 h2 ⊢; omega
    · left; exact h1
    · left; exact h2
    · right; exact ⟨rfl, less_trans (a := x) (b := y) (c := z) h1 h2⟩
theorem less_tri (a b : List UInt8) : less a b = true ∨ a = b ∨ less b a = true := by
  induction a generalizing b with
  | nil => cases b <;> simp [less, Op.bytesLess]
  | cons x a ih =>
    cases b with
    | nil => simp [less, Op.bytesLess]
    | cons y b =>
      unfold less at ih ⊢
      rw [Op.bytesLess, Op.bytesLess]
      by_cases e1 : x < y
      · simp [e1]
      · by_cases e2 : y < x
        · simp [e2]
        · obtain rfl := u8_tri x y e1 e2
          rcases ih b with h | h | h
          · simp [h]
          · simp [h]
          · simp [h]
end Go.Proofs.YtommlolhpaeioaaDoor.Pl
