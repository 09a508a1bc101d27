/- Plain Lean: rows of texts come apart again; one form alone. No program in sight. -/
import Derived.Test.YtommlolhpaeioaaDoorNumPlain
namespace Go.Proofs.YtommlolhpaeioaaDoor.Pl

theorem lenOf_lenB (n : Nat) : ∀ (i m : Nat) (rest : List UInt8), i ≤ 3 → n < 128 ^ (4 - i) → (0 < i → 0 < n) → lenOf (lenB n ++ rest) i m = (m + n * 128 ^ i, i + (lenB n).length, 0) := by
  induction n using Nat.strongRecOn with
  | _ n ih =>
    intro i m rest hi hn h0
    by_cases h : n < 128
    · rw [lenB_lt n h]
      have e : (UInt8.ofNat n).toNat = n := by simp; omega
      simp only [List.cons_append, List.nil_append, lenOf, e]
      rw [if_neg (by omega), if_neg (by omega), if_neg (by omega), Nat.mod_eq_of_lt h]; rfl
    · have hi3 : i ≠ 3 := by rintro rfl; simp at hn; omega
      rw [lenB_ge n (by omega)]
      have e : (UInt8.ofNat (n % 128 + 128)).toNat = n % 128 + 128 := by simp; omega
      simp only [List.cons_append, lenOf, e]
      rw [if_neg (by omega), if_pos (by omega)]
      have hp : 128 ^ (4 - i) = 128 ^ (4 - (i + 1)) * 128 := by rw [← Nat.pow_succ]; congr 1; omega
      rw [ih (n / 128) (by omega) (i + 1) _ rest (by omega) (by omega) (by omega)]
      have e2 : (n % 128 + 128) % 128 = n % 128 := by omega
      rw [e2]
      have e3 : m + n % 128 * 128 ^ i + n / 128 * 128 ^ (i + 1) = m + n * 128 ^ i := by
        rw [Nat.pow_succ, Nat.add_assoc]
        congr 1
        rw [Nat.mul_comm (128 ^ i) 128, ← Nat.mul_assoc, ← Nat.add_mul]
        congr 1
        omega
      rw [e3, List.length_cons]
      simp; omega
theorem lenB_ne (n : Nat) : lenB n ≠ [] := by
  by_cases h : n < 128
  · rw [lenB_lt n h]; simp
  · rw [lenB_ge n (by omega)]; simp
/-- What was made of texts is read as them. -/
theorem textsA_rowB : ∀ (l : List (List UInt8)) (k : Nat) (acc : List (List UInt8)), (∀ s ∈ l, s.length < 268435456) → (rowB l).length ≤ k → textsA k (rowB l) acc = (acc ++ l, 0)
  | [], k, acc, _, _ => by simp [rowB, textsA_nil]
  | s :: l, k, acc, hs, hk => by
    have h1 := lenOf_lenB s.length 0 0 (s ++ rowB l) (by omega) (by have := hs s (by simp); omega) (by omega)
    simp only [Nat.zero_add, Nat.pow_zero, Nat.mul_one] at h1
    have hd : (rowB (s :: l)).drop (lenB s.length).length = s ++ rowB l := by simp [rowB]
    have hne : rowB (s :: l) ≠ [] := by
      rw [rowB]; intro h; exact lenB_ne _ (List.append_eq_nil_iff.1 h).1
    rw [textsA_more k (rowB (s :: l)) acc s.length (lenB s.length).length hne hk h1 (by rw [hd]; simp), hd]
    have hl := List.length_pos_iff.2 (lenB_ne s.length)
    rw [List.drop_left, List.take_left, textsA_rowB l (k - 1) _ (fun x hx => hs x (by simp [hx])) (by
      simp [rowB] at hk; omega)]
    simp
theorem texts_rowB (l : List (List UInt8)) (h : ∀ s ∈ l, s.length < 268435456) : texts (rowB l) = (l, 0) := by
  rw [texts, textsA_rowB l _ [] h (Nat.le_refl _)]; simp

/-- A length that was read is written as it was. -/
theorem lenB_of_lenOf : ∀ (b : List UInt8) (i m n u : Nat), i ≤ 3 → lenOf b i m = (n, u, 0) → ∃ v, n = m + v * 128 ^ i ∧ i < u ∧ b.take (u - i) = lenB v ∧ u - i ≤ b.length ∧ (0 < i → 0 < v) ∧ v < 128 ^ (4 - i)
  | [], i, m, n, u, _, h => by simp [lenOf] at h
  | c :: b, i, m, n, u, hi, h => by
    unfold lenOf at h
    have hc := byte_lt c
    split at h
    · simp at h
    · next h3 =>
      split at h
      · next h4 =>
        obtain ⟨v, hv1, hv2, hv3, hv4, hv5, hv6⟩ := lenB_of_lenOf b (i + 1) _ n u (by omega) h
        have hv := hv5 (by omega)
        refine ⟨c.toNat % 128 + 128 * v, ?_, by omega, ?_, ?_, by omega, ?_⟩
        · rw [hv1, Nat.pow_succ, Nat.add_assoc]
          congr 1
          rw [Nat.add_mul, Nat.mul_comm (128 ^ i) 128, ← Nat.mul_assoc, Nat.mul_comm v 128]
        · rw [lenB_ge _ (by omega), show u - i = (u - (i + 1)) + 1 by omega, List.take_succ_cons, hv3,
            show (c.toNat % 128 + 128 * v) / 128 = v by omega]
          congr 1
          apply UInt8.toNat.inj
          simp; omega
        · simp; omega
        · have : 128 ^ (4 - i) = 128 ^ (4 - (i + 1)) * 128 := by rw [← Nat.pow_succ]; congr 1; omega
          omega
      · split at h
        · simp at h
        · next h4 h5 =>
          simp only [Prod.mk.injEq] at h
          obtain ⟨rfl, rfl, -⟩ := h
          refine ⟨c.toNat, by rw [Nat.mod_eq_of_lt (by omega)], by omega, ?_, by simp, by omega, ?_⟩
          · rw [show i + 1 - i = 1 by omega, lenB_lt _ (by omega)]
            simp
          · have : 128 ^ 1 ≤ 128 ^ (4 - i) := Nat.pow_le_pow_right (by omega) (by omega)
            omega
/-- What is read is written as it was. -/
theorem rowB_textsA : ∀ (k : Nat) (b : List UInt8) (acc l : List (List UInt8)), b.length ≤ k → textsA k b acc = (l, 0) → ∃ l', l = acc ++ l' ∧ rowB l' = b ∧ (b ≠ [] → l' ≠ [])
  | 0, b, acc, l, hk, h => by
    obtain rfl : b = [] := List.eq_nil_of_length_eq_zero (by omega)
    simp [textsA] at h
    exact ⟨[], by simp [h], rfl, fun h => absurd rfl h⟩
  | k + 1, b, acc, l, hk, h => by
    by_cases hb : b = []
    · subst hb
      rw [textsA_nil] at h
      simp at h
      exact ⟨[], by simp [h], rfl, fun h => absurd rfl h⟩
    · obtain ⟨⟨n, u, e⟩, hlr⟩ : ∃ x, lenOf b 0 0 = x := ⟨_, rfl⟩
      by_cases he : e = 0
      · subst he
        obtain ⟨v, hv1, hv2, hv3, hv4, -, -⟩ := lenB_of_lenOf b 0 0 n u (by omega) hlr
        simp only [Nat.pow_zero, Nat.mul_one, Nat.zero_add] at hv1
        subst hv1
        by_cases hs : (b.drop u).length < n
        · rw [textsA_short (k + 1) b acc n u hb hk hlr hs] at h; simp at h
        · rw [textsA_more (k + 1) b acc n u hb hk hlr hs] at h
          obtain ⟨l', h1, h2, -⟩ := rowB_textsA k _ _ _ (by simp; omega) h
          refine ⟨(b.drop u).take n :: l', by rw [h1]; simp, ?_, fun _ => by simp⟩
          rw [rowB, h2]
          have hln : ((b.drop u).take n).length = n := by simp at hs ⊢; omega
          rw [hln, List.take_append_drop, ← hv3]
          simp
      · rw [textsA_err (k + 1) b acc n u e hb hk hlr he] at h
        simp at h; omega
theorem rowB_texts (b : List UInt8) (l : List (List UInt8)) (h : texts b = (l, 0)) : rowB l = b := by
  obtain ⟨l', h1, h2, -⟩ := rowB_textsA _ b [] l (Nat.le_refl _) h
  simp at h1; subst h1; exact h2
theorem rowB_inj (l k : List (List UInt8)) (hl : ∀ s ∈ l, s.length < 268435456) (hk : ∀ s ∈ k, s.length < 268435456) (h : rowB l = rowB k) : l = k := by
  have h1 := texts_rowB l hl
  rw [h, texts_rowB k hk] at h1
  simpa using h1.symm

theorem lenOf_cut (n : Nat) : ∀ (i m j : Nat), i ≤ 3 → n < 128 ^ (4 - i) → j < (lenB n).length → lenOf ((lenB n).take j) i m = (0, 0, 4) := by
  induction n using Nat.strongRecOn with
  | _ n ih =>
    intro i m j hi hn hj
    cases j with
    | zero => simp [lenOf]
    | succ j =>
      by_cases h : n < 128
      · rw [lenB_lt n h] at hj; simp at hj
      · have hi3 : i ≠ 3 := by rintro rfl; simp at hn; omega
        rw [lenB_ge n (by omega)] at hj ⊢
        have e : (UInt8.ofNat (n % 128 + 128)).toNat = n % 128 + 128 := by simp; omega
        have hp : 128 ^ (4 - i) = 128 ^ (4 - (i + 1)) * 128 := by rw [← Nat.pow_succ]; congr 1; omega
        rw [List.take_succ_cons, lenOf, e, if_neg (by omega), if_pos (by omega)]
        exact ih (n / 128) (by omega) (i + 1) _ j (by omega) (by omega) (by simpa using hj)
/-- Whatever is cut from the end isn't the row. -/
theorem texts_cut : ∀ (l : List (List UInt8)) (j k : Nat) (acc : List (List UInt8)), (∀ s ∈ l, s.length < 268435456) → j < (rowB l).length → j ≤ k →
    textsA k ((rowB l).take j) acc = ([], 4) ∨ ∃ l', textsA k ((rowB l).take j) acc = (acc ++ l', 0) ∧ l'.length < l.length
  | [], j, k, acc, _, hj, _ => by simp [rowB] at hj
  | s :: l, j, k, acc, hs, hj, hk => by
    have hsl := hs s (by simp)
    by_cases h0 : j = 0
    · subst h0
      right; exact ⟨[], by rw [List.take_zero, textsA_nil]; simp, by simp⟩
    · have hlen : ((rowB (s :: l)).take j).length = j := by rw [List.length_take]; omega
      have hne : (rowB (s :: l)).take j ≠ [] := by
        intro h; rw [h] at hlen; simp at hlen; omega
      by_cases h1 : j < (lenB s.length).length
      · left
        have e : (rowB (s :: l)).take j = (lenB s.length).take j := by rw [rowB, List.take_append_of_le_length (by omega)]
        have h2 := lenOf_cut s.length 0 0 j (by omega) (by omega) h1
        rw [← e] at h2
        exact textsA_err k _ acc 0 0 4 hne (by omega) h2 (by omega)
      · have e : (rowB (s :: l)).take j = lenB s.length ++ (s ++ rowB l).take (j - (lenB s.length).length) := by
          rw [rowB, List.take_append, List.take_of_length_le (by omega)]
        have h2 := lenOf_lenB s.length 0 0 ((s ++ rowB l).take (j - (lenB s.length).length)) (by omega) (by omega) (by omega)
        simp only [Nat.zero_add, Nat.pow_zero, Nat.mul_one] at h2
        rw [← e] at h2
        have hd : ((rowB (s :: l)).take j).drop (lenB s.length).length = (s ++ rowB l).take (j - (lenB s.length).length) := by rw [e]; simp
        have hj' : j < (lenB s.length).length + (s.length + (rowB l).length) := by simpa [rowB] using hj
        by_cases h3 : j - (lenB s.length).length < s.length
        · left
          exact textsA_short k _ acc s.length _ hne (by omega) h2 (by rw [hd, List.length_take]; simp; omega)
        · rw [textsA_more k _ acc s.length _ hne (by omega) h2 (by rw [hd, List.length_take]; simp; omega), hd]
          have e2 : ((s ++ rowB l).take (j - (lenB s.length).length)).drop s.length = (rowB l).take (j - (lenB s.length).length - s.length) := by
            rw [List.drop_take, List.drop_left]
          rw [e2]
          have hl := List.length_pos_iff.2 (lenB_ne s.length)
          rcases texts_cut l (j - (lenB s.length).length - s.length) (k - 1) (acc ++ [((s ++ rowB l).take (j - (lenB s.length).length)).take s.length]) (fun x hx => hs x (by simp [hx])) (by omega) (by omega) with h | ⟨l', h, h'⟩
          · left; exact h
          · right; exact ⟨_ :: l', by rw [h]; simp; rfl, by simp; omega⟩
theorem rowB_nil (l : List (List UInt8)) (h : rowB l = []) : l = [] := by
  cases l with
  | nil => rfl
  | cons s l => rw [rowB] at h; exact absurd (List.append_eq_nil_iff.1 h).1 (lenB_ne _)
end Go.Proofs.YtommlolhpaeioaaDoor.Pl
