/- Plain Lean: a number's lowest bytes, and the number of bytes. No program in sight. -/
import Derived.Laws.BitsAllLaws
import Derived.Laws.BitsLemmas
import Derived.IntWalk
import Derived.WalkKit
namespace Go.Proofs.YtommlolhpaeioaaDoor.Pl
open Go.RowKit

/-- The lowest k bytes of n, the lowest first. -/
def putB (n k : Nat) : List UInt8 := (List.range k).map fun i => UInt8.ofNat (n / 2 ^ (8 * i))
/-- The number of bytes, the lowest first. -/
def getN : List UInt8 → Nat
  | [] => 0
  | c :: l => c.toNat + 256 * getN l

theorem putB_len (n k : Nat) : (putB n k).length = k := by simp [putB]
theorem putB_get (n k i : Nat) (h : i < k) : (putB n k)[i]? = some (UInt8.ofNat (n / 2 ^ (8 * i))) := by simp [putB, h]
theorem putB_succ (n k : Nat) : putB n (k + 1) = putB n k ++ [UInt8.ofNat (n / 2 ^ (8 * k))] := by simp [putB, List.range_succ]
theorem putB_cons (n k : Nat) : putB n (k + 1) = UInt8.ofNat n :: putB (n / 256) k := by
  unfold putB
  rw [List.range_succ_eq_map, List.map_cons, List.map_map]
  congr 1
  · simp
  · apply List.map_congr_left
    intro i _
    simp only [Function.comp]
    rw [Nat.div_div_eq_div_mul, show 256 = 2 ^ 8 from rfl, ← Nat.pow_add, show 8 * (i + 1) = 8 + 8 * i by omega]
theorem ofNat_mod (n : Nat) : UInt8.ofNat (n % 256) = UInt8.ofNat n := by
  apply UInt8.toNat.inj; simp
theorem getN_lt (l : List UInt8) : getN l < 256 ^ l.length := by
  induction l with
  | nil => simp [getN]
  | cons c l ih =>
    have := c.toNat_lt
    simp only [getN, List.length_cons, Nat.pow_succ]
    simp at this
    omega
theorem getN_lt8 (l : List UInt8) (h : l.length ≤ 8) : getN l < 18446744073709551616 := by
  have h1 := getN_lt l
  have h2 : 256 ^ l.length ≤ 256 ^ 8 := Nat.pow_le_pow_right (by omega) h
  omega
theorem getN_append (l k : List UInt8) : getN (l ++ k) = getN l + 256 ^ l.length * getN k := by
  induction l with
  | nil => simp [getN]
  | cons c l ih =>
    simp only [List.cons_append, getN, ih, List.length_cons, Nat.pow_succ, Nat.mul_add]
    rw [Nat.mul_comm (256 ^ l.length) 256, Nat.mul_assoc, Nat.add_assoc]
theorem getN_take (l : List UInt8) (j : Nat) (h : j < l.length) : getN (l.take (j + 1)) = getN (l.take j) + l[j].toNat * 256 ^ j := by
  rw [List.take_succ_eq_append_getElem h, getN_append]
  simp [getN, Nat.min_eq_left (Nat.le_of_lt h), Nat.mul_comm]
theorem getN_drop (l : List UInt8) (j : Nat) (h : j < l.length) : getN (l.drop j) = l[j].toNat + 256 * getN (l.drop (j + 1)) := by
  rw [List.drop_eq_getElem_cons h]; rfl
theorem getN_putB (k : Nat) : ∀ n, getN (putB n k) = n % 256 ^ k := by
  induction k with
  | zero => intro n; simp [putB, getN, Nat.mod_one]
  | succ k ih =>
    intro n
    rw [putB_cons, getN, ih]
    have e : (UInt8.ofNat n).toNat = n % 256 := by simp
    rw [e, show 256 ^ (k + 1) = 256 * 256 ^ k by rw [Nat.pow_succ, Nat.mul_comm], Nat.mod_mul]
theorem putB_getN (l : List UInt8) : putB (getN l) l.length = l := by
  induction l with
  | nil => rfl
  | cons c l ih =>
    have hc := c.toNat_lt
    simp at hc
    rw [List.length_cons, putB_cons]
    have e1 : UInt8.ofNat (getN (c :: l)) = c := by
      apply UInt8.toNat.inj
      simp only [UInt8.toNat_ofNat', getN]
      omega
    have e2 : getN (c :: l) / 256 = getN l := by simp only [getN]; omega
    rw [e1, e2, ih]
theorem pow8 (k : Nat) : (256 : Nat) ^ k = 2 ^ (8 * k) := by rw [Nat.pow_mul]
theorem u64_join (i m x : Nat) (hx : x % 2 ^ i = 0) (hm : m < 2 ^ i) (hx' : x < 18446744073709551616) (hm' : m < 18446744073709551616) : bits .or .u64 (m : Int) (x : Int) = ((m + x : Nat) : Int) := by
  rw [u64_or_nat m x hm' hx', Nat.or_comm, nat_join i x m hx hm, Nat.add_comm]
theorem byte_lt2 (c : UInt8) : c.toNat < 256 := c.toNat_lt
end Go.Proofs.YtommlolhpaeioaaDoor.Pl
