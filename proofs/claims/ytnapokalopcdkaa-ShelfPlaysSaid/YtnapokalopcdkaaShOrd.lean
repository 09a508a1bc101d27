/- Plain Lean: the order of texts; where a name stands among rising names. -/
import Derived.Test.YtnapokalopcdkaaShPlain
import Derived.Lib.Bytealg
namespace Go.Proofs.Ytnapokalopcdkaa.Pl
def less (a b : List UInt8) : Bool := Op.bytesLess a b
theorem less_eq (a b : List UInt8) : less a b = Op.bytesLess a b := rfl
theorem u8_lt_irrefl (a : UInt8) : ¬ a < a := by rw [UInt8.lt_iff_toNat_lt]; omega
theorem u8_tri (a b : UInt8) (h1 : ¬ a < b) (h2 : ¬ b < a) : a = b := by
  rw [UInt8.lt_iff_toNat_lt] at h1 h2; exact UInt8.toNat_inj.1 (by omega)
theorem less_cmp : ∀ a b : List UInt8, (less a b = true ↔ Lib.compareBytes a b = -1) ∧ (a = b ↔ Lib.compareBytes a b = 0) ∧ (Lib.compareBytes a b = -1 ∨ Lib.compareBytes a b = 0 ∨ Lib.compareBytes a b = 1)
  | [], [] => by simp [less, Op.bytesLess, Lib.compareBytes]
  | [], _ :: _ => by simp [less, Op.bytesLess, Lib.compareBytes]
  | _ :: _, [] => by simp [less, Op.bytesLess, Lib.compareBytes]
  | a :: x, b :: y => by
    obtain ⟨h1, h2, h3⟩ := less_cmp x y
    unfold less at h1 ⊢
    rw [Op.bytesLess, Lib.compareBytes]
    by_cases e1 : a < b
    · have : a ≠ b := by rintro rfl; exact u8_lt_irrefl _ e1
      simp [e1, this]
    · by_cases e2 : b < a
      · have : a ≠ b := by rintro rfl; exact u8_lt_irrefl _ e2
        simp [e1, e2, this]
      · obtain rfl := u8_tri a b e1 e2
        simp only [e1, decide_false, if_false, Bool.false_or, beq_self_eq_true, Bool.true_and, List.cons.injEq, true_and]
        exact ⟨h1, h2, h3⟩
theorem less_irrefl (a : List UInt8) : less a a = false := by
  cases h : less a a
  · rfl
  · have := (less_cmp a a).1.1 h
    have := (less_cmp a a).2.1.1 rfl
    omega
theorem less_trans : ∀ {a b c : List UInt8}, less a b = true → less b c = true → less a c = true
  | [], [], _, h, _ => by simp [less, Op.bytesLess] at h
  | [], _ :: _, [], _, h => by simp [less, Op.bytesLess] at h
  | [], _ :: _, _ :: _, _, _ => by simp [less, Op.bytesLess]
  | _ :: _, [], _, h, _ => by simp [less, Op.bytesLess] at h
  | _ :: _, _ :: _, [], _, h => by simp [less, Op.bytesLess] at h
  | a :: x, b :: y, c :: z, h1, h2 => by
    unfold less at h1 h2 ⊢
    rw [Op.bytesLess] at h1 h2 ⊢
    simp only [Bool.or_eq_true, Bool.and_eq_true, decide_eq_true_eq, beq_iff_eq] at h1 h2 ⊢
    rcases h1 with h1 | ⟨rfl, h1⟩ <;> rcases h2 with h2 | ⟨rfl, h2⟩
    · left; rw [UInt8.lt_iff_toNat_lt] at h1 h2 ⊢; omega
    · left; exact h1
    · left; exact h2
    · right; exact ⟨rfl, less_trans (a := x) (b := y) (c := z) h1 h2⟩
theorem less_tri (a b : List UInt8) : less a b = true ∨ a = b ∨ less b a = true := by
  induction a generalizing b with
  | nil => cases b <;> simp [less, Op.bytesLess]
  | cons x a ih =>
    cases b with
    | nil => simp [less, Op.bytesLess]
    | cons y b =>
      unfold less at ih ⊢
      rw [Op.bytesLess, Op.bytesLess]
      by_cases e1 : x < y
      · simp [e1]
      · by_cases e2 : y < x
        · simp [e2]
        · obtain rfl := u8_tri x y e1 e2
          rcases ih b with h | h | h
          · simp [h]
          · simp [h]
          · simp [h]
/-- Rising names. -/
def Rising (l : List Obj) : Prop := ∀ i j (hi : i < l.length) (hj : j < l.length), i < j → less l[i].name l[j].name = true
/-- Where a name stands, or would. -/
structure Found (l : List Obj) (nm : List UInt8) (i : Nat) (f : Bool) : Prop where
  le : i ≤ l.length
  lo : ∀ k (h : k < l.length), k < i → less l[k].name nm = true
  hi : ∀ k (h : k < l.length), i ≤ k → less l[k].name nm = false
  is : f = decide (∃ h : i < l.length, l[i].name = nm)
theorem objE_zero {prev : Option (List UInt8)} {o : Obj} (h : objE prev o = 0) : okName o.name = true ∧ prev.elim true (fun p => less p o.name) = true ∧ o.data.length ≤ 65536 ∧ o.was.length ≤ 65536 ∧ (o.had = true ∨ o.was = []) := by
  unfold objE at h
  split at h
  · omega
  split at h
  · omega
  split at h
  · omega
  split at h
  · omega
  split at h
  · omega
  · next h1 h2 h3 h4 h5 =>
    refine ⟨by simpa using h1, ?_, by omega, by omega, ?_⟩
    · cases prev with
      | none => rfl
      | some p =>
        simp only [Option.elim] at h2 h3 ⊢
        rcases less_tri p o.name with h | h | h
        · exact h
        · subst h; simp at h2
        · exact absurd h h3
    · by_cases hh : o.had = true
      · exact .inl hh
      · refine .inr ?_
        by_cases hw : o.was = []
        · exact hw
        · exact absurd ⟨by simpa using hh, hw⟩ h5
theorem chkFrom_zero (l : List Obj) : ∀ (k i : Nat), i + k = l.length → chkFrom l k i = 0 → ∀ j (h : j < l.length), i ≤ j → objE (prevOf l j) l[j] = 0
  | 0, i, hk, _, j, hj, hij => by omega
  | k + 1, i, hk, h0, j, hj, hij => by
    rw [chkFrom_step l k i (by omega)] at h0
    by_cases he : objE (prevOf l i) (l[i]'(by omega)) = 0
    · rw [if_pos he] at h0
      rcases Nat.eq_or_lt_of_le hij with rfl | hlt
      · exact he
      · exact chkFrom_zero l k (i + 1) (by omega) h0 j hj hlt
    · rw [if_neg he] at h0; exact absurd h0 he
theorem chk_zero {l : List Obj} (h : chk l = 0) (j : Nat) (hj : j < l.length) : objE (prevOf l j) l[j] = 0 := chkFrom_zero l l.length 0 (by omega) h j hj (Nat.zero_le _)
theorem chk_rising {l : List Obj} (h : chk l = 0) : Rising l := by
  have step : ∀ j (hj : j + 1 < l.length), less l[j].name l[j + 1].name = true := by
    intro j hj
    have h1 := (objE_zero (chk_zero h (j + 1) hj)).2.1
    unfold prevOf at h1
    rw [if_neg (by omega), Nat.add_sub_cancel, List.getElem?_eq_getElem (by omega)] at h1
    exact h1
  intro i j hi hj hij
  obtain ⟨d, rfl⟩ : ∃ d, j = i + 1 + d := ⟨j - (i + 1), by omega⟩
  clear hij
  induction d with
  | zero => exact step i hj
  | succ d ih => exact less_trans (ih (by omega)) (step (i + 1 + d) hj)
/-- What is known behind i and j. -/
theorem found_of {l : List Obj} {nm : List UInt8} {i : Nat} (hle : i ≤ l.length) (h1 : ∀ k (h : k < l.length), k < i → less l[k].name nm = true) (h2 : ∀ k (h : k < l.length), i ≤ k → less l[k].name nm = false) {f : Bool} (hf : f = decide (∃ h : i < l.length, l[i].name = nm)) : Found l nm i f := ⟨hle, h1, h2, hf⟩
end Go.Proofs.Ytnapokalopcdkaa.Pl
