/- Plain Lean on bytes: rows of texts as bytes, and back. No program in sight, no condition. -/
import Derived.Laws.BitsAllLaws
import Derived.Laws.BitsLemmas
import Derived.IntWalk
import Derived.WalkKit
namespace Go.Proofs.YtommlolhpaeioaaDoor.Pl
open Go.RowKit

/-- A length as bytes: seven bits a byte, the lowest first. -/
def lenB (n : Nat) : List UInt8 := if n < 128 then [UInt8.ofNat n] else UInt8.ofNat (n % 128 + 128) :: lenB (n / 128)
  termination_by n
  decreasing_by omega

/-- A row of texts as bytes. -/
def rowB : List (List UInt8) → List UInt8
  | [] => []
  | s :: l => lenB s.length ++ (s ++ rowB l)

/-- The length that bytes begin with (at place i, n so far): the length, the bytes it has, the error. -/
def lenOf : List UInt8 → Nat → Nat → Nat × Nat × Nat
  | [], _, _ => (0, 0, 4)
  | c :: l, i, n =>
    if i = 3 ∧ 128 ≤ c.toNat then (0, 0, 3)
    else if 128 ≤ c.toNat then lenOf l (i + 1) (n + c.toNat % 128 * 128 ^ i)
    else if c.toNat = 0 ∧ 0 < i then (0, 0, 3)
    else (n + c.toNat % 128 * 128 ^ i, i + 1, 0)

/-- The texts of bytes, behind those that are there already; the error. -/
def textsA : Nat → List UInt8 → List (List UInt8) → List (List UInt8) × Nat
  | 0, _, acc => (acc, 0)
  | k + 1, b, acc =>
    if b = [] then (acc, 0)
    else if (lenOf b 0 0).2.2 ≠ 0 then ([], (lenOf b 0 0).2.2)
    else if (b.drop (lenOf b 0 0).2.1).length < (lenOf b 0 0).1 then ([], 4)
    else textsA k ((b.drop (lenOf b 0 0).2.1).drop (lenOf b 0 0).1) (acc ++ [(b.drop (lenOf b 0 0).2.1).take (lenOf b 0 0).1])

/-- The texts of bytes; the error. -/
def texts (b : List UInt8) : List (List UInt8) × Nat := textsA b.length b []

theorem lenB_lt (n : Nat) (h : n < 128) : lenB n = [UInt8.ofNat n] := by rw [lenB, if_pos h]
theorem lenB_ge (n : Nat) (h : 128 ≤ n) : lenB n = UInt8.ofNat (n % 128 + 128) :: lenB (n / 128) := by rw [lenB, if_neg (by omega)]
theorem lenB_len (n : Nat) : (lenB n).length ≤ n + 1 := by
  induction n using Nat.strongRecOn with
  | _ n ih =>
    by_cases h : n < 128
    · rw [lenB_lt n h]; simp
    · rw [lenB_ge n (by omega)]
      have := ih (n / 128) (by omega)
      simp; omega
theorem rowB_snoc (l : List (List UInt8)) (s : List UInt8) : rowB (l ++ [s]) = rowB l ++ (lenB s.length ++ s) := by
  induction l with
  | nil => simp [rowB]
  | cons x l ih => simp [rowB, ih]
theorem rowB_take (l : List (List UInt8)) (j : Nat) (h : j < l.length) : rowB (l.take (j + 1)) = rowB (l.take j) ++ (lenB l[j].length ++ l[j]) := by
  rw [List.take_succ_eq_append_getElem h, rowB_snoc]
theorem rowB_append (l k : List (List UInt8)) : rowB (l ++ k) = rowB l ++ rowB k := by
  induction l with
  | nil => simp [rowB]
  | cons x l ih => simp [rowB, ih]
theorem rowB_take_le (l : List (List UInt8)) (j : Nat) : (rowB (l.take j)).length ≤ (rowB l).length := by
  conv => rhs; rw [← List.take_append_drop j l, rowB_append]
  simp
theorem textsA_nil (k : Nat) (acc : List (List UInt8)) : textsA k [] acc = (acc, 0) := by cases k <;> simp [textsA]
theorem textsA_err (k : Nat) (b : List UInt8) (acc : List (List UInt8)) (n u e : Nat) (hb : b ≠ []) (hk : b.length ≤ k) (h : lenOf b 0 0 = (n, u, e)) (he : e ≠ 0) : textsA k b acc = ([], e) := by
  cases k with
  | zero => exact absurd (List.eq_nil_of_length_eq_zero (by omega)) hb
  | succ k => simp [textsA, hb, h, he]
theorem textsA_short (k : Nat) (b : List UInt8) (acc : List (List UInt8)) (n u : Nat) (hb : b ≠ []) (hk : b.length ≤ k) (h : lenOf b 0 0 = (n, u, 0)) (hs : (b.drop u).length < n) : textsA k b acc = ([], 4) := by
  cases k with
  | zero => exact absurd (List.eq_nil_of_length_eq_zero (by omega)) hb
  | succ k => rw [textsA, if_neg hb, h]; simp only [ne_eq, not_true_eq_false, if_false]; rw [if_pos hs]
theorem textsA_more (k : Nat) (b : List UInt8) (acc : List (List UInt8)) (n u : Nat) (hb : b ≠ []) (hk : b.length ≤ k) (h : lenOf b 0 0 = (n, u, 0)) (hs : ¬ (b.drop u).length < n) : textsA k b acc = textsA (k - 1) ((b.drop u).drop n) (acc ++ [(b.drop u).take n]) := by
  cases k with
  | zero => exact absurd (List.eq_nil_of_length_eq_zero (by omega)) hb
  | succ k => rw [textsA, if_neg hb, h]; simp only [ne_eq, not_true_eq_false, if_false]; rw [if_neg hs]; rfl
theorem byte_lt (c : UInt8) : c.toNat < 256 := c.toNat_lt
theorem and127 (c : UInt8) : bits .and .u8 (c.toNat : Int) 127 = ((c.toNat % 128 : Nat) : Int) := by
  have h := u8_and_nat c.toNat 127 (byte_lt c) (by omega)
  rw [nat_mask7] at h; exact h
theorem i64_join (i m x : Nat) (hx : x % 2 ^ i = 0) (hm : m < 2 ^ i) (hx' : x < 2 ^ 63) (hm' : m < 2 ^ 63) : bits .or .i64 (m : Int) (x : Int) = ((m + x : Nat) : Int) := by
  have h := (bits_nat .i64 63 (by decide) (fun n h0 h1 => by rw [IntKind.wrap_i64]; omega) m x hm' hx').2
  rw [h, Nat.or_comm, nat_join i x m hx hm, Nat.add_comm]
theorem pow7 (k : Nat) : (128 : Nat) ^ k = 2 ^ (7 * k) := by rw [Nat.pow_mul]
/-- One byte more of a length. -/
theorem or_len (m k : Nat) (c : UInt8) (hk : k < 4) (hm : m < 128 ^ k) :
    bits .or .i64 (m : Int) (wrap64 (wrap64 (bits .and .u8 (c.toNat : Int) 127) * 2 ^ (7 * k))) = ((m + c.toNat % 128 * 128 ^ k : Nat) : Int) := by
  have hc := byte_lt c
  have hp : 128 ^ k ≤ 128 ^ 3 := Nat.pow_le_pow_right (by omega) (by omega)
  have hb : c.toNat % 128 * 128 ^ k ≤ 127 * 128 ^ 3 := Nat.mul_le_mul (by omega) hp
  rw [and127, show wrap64 ((c.toNat % 128 : Nat) : Int) = ((c.toNat % 128 : Nat) : Int) from IntWalk.wrap64_in _ ⟨by omega, by omega⟩]
  have e : ((c.toNat % 128 : Nat) : Int) * 2 ^ (7 * k) = ((c.toNat % 128 * 128 ^ k : Nat) : Int) := by
    rw [pow7]; simp
  rw [e, IntWalk.wrap64_in _ ⟨by omega, by omega⟩]
  refine i64_join (7 * k) _ _ ?_ ?_ (by omega) (by omega)
  · rw [← pow7]; exact Nat.mul_mod_left _ _
  · rw [← pow7]; exact hm
theorem or_len_lt (m k c : Nat) (hm : m < 128 ^ k) : m + c % 128 * 128 ^ k < 128 ^ (k + 1) := by
  have : c % 128 * 128 ^ k ≤ 127 * 128 ^ k := Nat.mul_le_mul_right _ (by omega)
  rw [Nat.pow_succ]; omega
theorem lenOf_end (l : List UInt8) (k m : Nat) (h : l.length ≤ k) (i : Nat) : lenOf (l.drop k) i m = (0, 0, 4) := by
  rw [List.drop_eq_nil_of_le h]; rfl
theorem lenOf_step (l : List UInt8) (k m : Nat) (h : k < l.length) : lenOf (l.drop k) k m =
    if k = 3 ∧ 128 ≤ l[k].toNat then (0, 0, 3)
    else if 128 ≤ l[k].toNat then lenOf (l.drop (k + 1)) (k + 1) (m + l[k].toNat % 128 * 128 ^ k)
    else if l[k].toNat = 0 ∧ 0 < k then (0, 0, 3)
    else (m + l[k].toNat % 128 * 128 ^ k, k + 1, 0) := by
  rw [List.drop_eq_getElem_cons h]; rfl
theorem lenOf_stepAt (l : List UInt8) (p k m : Nat) (h : p < l.length) : lenOf (l.drop p) k m =
    if k = 3 ∧ 128 ≤ l[p].toNat then (0, 0, 3)
    else if 128 ≤ l[p].toNat then lenOf (l.drop (p + 1)) (k + 1) (m + l[p].toNat % 128 * 128 ^ k)
    else if l[p].toNat = 0 ∧ 0 < k then (0, 0, 3)
    else (m + l[p].toNat % 128 * 128 ^ k, k + 1, 0) := by
  rw [List.drop_eq_getElem_cons h]; rfl
/-- What a length's three numbers may be. -/
theorem lenOf_bd : ∀ (l : List UInt8) (i n : Nat), i ≤ 3 → n < 128 ^ i → (lenOf l i n).1 < 268435456 ∧ (lenOf l i n).2.1 ≤ i + l.length ∧ (lenOf l i n).2.1 ≤ 4 ∧ (lenOf l i n).2.2 ≤ 4 ∧ ((lenOf l i n).2.2 = 0 → i < (lenOf l i n).2.1)
  | [], i, n, _, _ => by simp [lenOf]
  | c :: l, i, n, hi, hn => by
    have h1 := or_len_lt n i c.toNat hn
    have h2 : (128 : Nat) ^ (i + 1) ≤ 128 ^ 4 := Nat.pow_le_pow_right (by omega) (by omega)
    unfold lenOf
    split
    · simp
    · split
      · have := lenOf_bd l (i + 1) _ (by omega) h1
        simp only [List.length_cons]; omega
      · split
        · simp
        · simp only [List.length_cons]; omega
end Go.Proofs.YtommlolhpaeioaaDoor.Pl
