/- Plain Lean: decimal texts and their numbers. No program in sight. -/
import Derived.WalkKit
import Derived.Lib.ItoaMem
import Derived.Lib.ParseIntBTie
import Derived.Lib.ParseIntBCases
set_option linter.unusedVariables false
namespace Go.Proofs.YtommlolhpaeioaaDoor.Pl
open Go.Lib Go.RowKit Go.IntWalk
set_option linter.unusedSimpArgs false

def I64 (v : Int) : Prop := -9223372036854775808 ≤ v ∧ v ≤ 9223372036854775807
theorem dd_small {u : Nat} (h : u < 10) : decDigits u = [UInt8.ofNat (48 + u)] := by rw [decDigits, dif_pos h]
theorem dd_big {u : Nat} (h : ¬ u < 10) : decDigits u = decDigits (u / 10) ++ [UInt8.ofNat (48 + u % 10)] := by rw [decDigits, dif_neg h]
theorem sign_nat {d : Nat} (h : d < 10) : (UInt8.ofNat (48 + d)).toNat = 48 + d := by simp [UInt8.toNat_ofNat']; omega
theorem parse_dd (M : Nat) (hM : M ≤ 18446744073709551615) : ∀ (u : Nat), u ≤ M → ∀ r, parseUintM M 0 (decDigits u ++ r) = parseUintM M u r := by
  intro u
  induction u using Nat.strongRecOn with
  | ind u ih =>
    intro hu r
    by_cases h : u < 10
    · rw [dd_small h]
      have e := sign_nat h
      show (if _ then _ else _) = _
      rw [e, if_pos (by omega), if_neg (by omega), if_neg (by omega)]
      congr 1; omega
    · rw [dd_big h, List.append_assoc, ih (u / 10) (by omega) (by omega)]
      have e := sign_nat (d := u % 10) (by omega)
      show (if _ then _ else _) = _
      rw [e, if_pos (by omega), if_neg (by omega), if_neg (by omega)]
      congr 1; omega
theorem dd_ne (u : Nat) : decDigits u ≠ [] := by
  by_cases h : u < 10
  · rw [dd_small h]; simp
  · rw [dd_big h]; simp
/-- Each sign of a numeral is a digit. -/
theorem dd_digit : ∀ (u : Nat), ∀ c ∈ decDigits u, 48 ≤ c.toNat ∧ c.toNat ≤ 57 := by
  intro u
  induction u using Nat.strongRecOn with
  | ind u ih =>
    intro c hc
    by_cases h : u < 10
    · rw [dd_small h] at hc
      simp only [List.mem_singleton] at hc
      subst hc; rw [sign_nat h]; omega
    · rw [dd_big h, List.mem_append] at hc
      rcases hc with hc | hc
      · exact ih (u / 10) (by omega) c hc
      · simp only [List.mem_singleton] at hc
        subst hc; rw [sign_nat (by omega)]; omega
theorem parse_dd64 (u : Nat) (hu : u ≤ 18446744073709551615) : parseUintB 64 (decDigits u) = .ok u := by
  unfold parseUintB
  rw [if_neg (dd_ne u)]
  have := parse_dd (2 ^ 64 - 1) (by omega) u (by omega) []
  simpa [parseUintM] using this
theorem itoa_pos {v : Int} (h : 0 ≤ v) : itoa v = decDigits v.toNat := by unfold itoa; rw [if_neg (by omega)]
theorem itoa_min {v : Int} (h : v < 0) : itoa v = 45 :: decDigits v.natAbs := by unfold itoa; rw [if_pos h]
theorem parse_itoa {v : Int} (h : I64 v) : parseIntB 64 (itoa v) = .ok v := by
  obtain ⟨h0, h1⟩ := h
  by_cases hv : v < 0
  · rw [itoa_min hv, parseIntB_minus, parse_dd64 _ (by omega)]
    simp only [signedC]
    split
    · omega
    · congr 1; omega
  · rw [itoa_pos (by omega)]
    obtain ⟨c, r, e⟩ : ∃ c r, decDigits v.toNat = c :: r := by
      cases hd : decDigits v.toNat with
      | nil => exact absurd hd (dd_ne _)
      | cons c r => exact ⟨c, r, rfl⟩
    have hc := dd_digit v.toNat c (by rw [e]; simp)
    rw [e, parseIntB_plain 64 c r (by omega) (by omega), ← e, parse_dd64 _ (by omega)]
    simp only [signlessC]
    split
    · omega
    · congr 1; omega
/-- The number of a text that is just its decimal text. -/
def intE (s : List UInt8) : NumEnd Int → Option Int
  | .ok v => if itoa v = s then some v else none
  | _ => none
def intQ (s : List UInt8) : Option Int := intE s (parseIntB 64 s)
theorem intQ_itoa {v : Int} (h : I64 v) : intQ (itoa v) = some v := by unfold intQ; rw [parse_itoa h]; simp [intE]
theorem intQ_some {s : List UInt8} {v : Int} (h : intQ s = some v) : itoa v = s ∧ I64 v := by
  unfold intQ at h
  rcases hw : parseIntB 64 s with w | _ | _
  · rw [hw] at h
    simp only [intE] at h
    split at h
    · next he =>
      injection h with h
      subst h
      have := parseIntB_bounds hw
      exact ⟨he, by constructor <;> omega⟩
    · cases h
  · rw [hw] at h; cases h
  · rw [hw] at h; cases h
theorem itoa_inj {v w : Int} (hv : I64 v) (hw : I64 w) (h : itoa v = itoa w) : v = w := by
  have h1 := intQ_itoa hv
  rw [h, intQ_itoa hw] at h1
  injection h1 with h1
  exact h1.symm
theorem dd_len : ∀ (k u : Nat), u < 10 ^ (k + 1) → (decDigits u).length ≤ k + 1
  | 0, u, h => by rw [dd_small (by omega)]; simp
  | k + 1, u, h => by
    by_cases hu : u < 10
    · rw [dd_small hu]; simp
    · rw [dd_big hu, List.length_append]
      have := dd_len k (u / 10) (by rw [Nat.pow_succ] at h; omega)
      simp; omega
theorem itoa_len {v : Int} (h : I64 v) : 1 ≤ (itoa v).length ∧ (itoa v).length ≤ 20 := by
  obtain ⟨h0, h1⟩ := h
  by_cases hv : v < 0
  · rw [itoa_min hv]
    have := dd_len 18 v.natAbs (by omega)
    simp; omega
  · rw [itoa_pos (by omega)]
    have := dd_len 18 v.toNat (by omega)
    have := List.length_pos_iff.2 (dd_ne v.toNat)
    omega
/-- What the document's reader reckons: digits from the left, with a sign or not, as numbers of 64 bits. -/
def wrapI (x : Int) : Int := wrap64 x
def exN (neg : Bool) : Int → List UInt8 → Int
  | a, [] => a
  | a, c :: r => exN neg (if neg then a * 10 - (c.toNat - 48) else a * 10 + (c.toNat - 48)) r
theorem exN_append (neg : Bool) : ∀ (l r : List UInt8) (a : Int), exN neg a (l ++ r) = exN neg (exN neg a l) r
  | [], r, a => rfl
  | c :: l, r, a => exN_append neg l r _
theorem exN_dd (neg : Bool) : ∀ (u : Nat), exN neg 0 (decDigits u) = if neg then -(u : Int) else u := by
  intro u
  induction u using Nat.strongRecOn with
  | ind u ih =>
    by_cases h : u < 10
    · rw [dd_small h]
      have e := sign_nat h
      simp only [exN, e]
      split <;> omega
    · rw [dd_big h, exN_append, ih (u / 10) (by omega)]
      have e := sign_nat (d := u % 10) (by omega)
      simp only [exN, e]
      cases neg <;> simp <;> omega
theorem itoa_digit {n : Int} (h0 : 0 ≤ n) (h1 : n < 10) : itoa n = [UInt8.ofNat (48 + n.toNat)] := by rw [itoa_pos h0, dd_small (by omega)]
theorem itoa_ten {n : Int} (h : 10 ≤ n) : itoa n = itoa (n / 10) ++ itoa (n % 10) := by
  rw [itoa_pos (by omega), itoa_pos (by omega), itoa_digit (n := n % 10) (by omega) (by omega), dd_big (by omega), show n.toNat / 10 = (n / 10).toNat by omega, show n.toNat % 10 = (n % 10).toNat by omega]
theorem itoa_mten {n : Int} (h : n ≤ -10) : itoa n = itoa (n.tdiv 10) ++ itoa (-(n.tmod 10)) := by
  have e1 : n.tdiv 10 = -(((-n) / 10)) := by
    have : n = -(-n) := by omega
    rw [this, Int.neg_tdiv, Int.tdiv_eq_ediv_of_nonneg (by omega)]; simp
  have e2 : n.tmod 10 = -(((-n) % 10)) := by
    have : n = -(-n) := by omega
    rw [this, Int.neg_tmod, Int.tmod_eq_emod_of_nonneg (by omega)]; simp
  rw [e1, e2, itoa_min (by omega), itoa_min (by omega), itoa_digit (n := - -(-n % 10)) (by omega) (by omega), dd_big (by omega)]
  rw [show n.natAbs / 10 = (-(-n / 10)).natAbs by omega, show n.natAbs % 10 = (- -(-n % 10)).toNat by omega]
  rfl
theorem itoa_neg1 {n : Int} (h0 : n < 0) (h1 : -10 < n) : itoa n = 45 :: itoa (-n) := by
  rw [itoa_min h0, itoa_pos (by omega), show n.natAbs = (-n).toNat by omega]
def isDig (c : UInt8) : Bool := decide (48 ≤ c.toNat ∧ c.toNat ≤ 57)
/-- What is read of a text: behind the sign, if it has one. -/
def negS (s : List UInt8) : Bool := s.head? == some 45
def zS (s : List UInt8) : Nat := if negS s then 1 else 0
def readN (s : List UInt8) (k : Nat) : Int := wrapI (exN (negS s) 0 ((s.take k).drop (zS s)))
def digsTo (s : List UInt8) (k : Nat) : Prop := ∀ c ∈ (s.take k).drop (zS s), isDig c = true
/-- The document's answer: none, if it is too long or has a sign that is no digit, or has not just these signs. -/
theorem read_itoa {v : Int} (h : I64 v) : readN (itoa v) (itoa v).length = v ∧ digsTo (itoa v) (itoa v).length := by
  have hw : wrapI v = v := by unfold wrapI; exact IntWalk.wrap64_in _ ⟨h.1, h.2⟩
  unfold readN digsTo
  rw [List.take_length]
  by_cases hv : v < 0
  · have e : negS (itoa v) = true := by rw [itoa_min hv]; rfl
    have ez : zS (itoa v) = 1 := by unfold zS; rw [e]; rfl
    rw [ez, e, itoa_min hv, List.drop_succ_cons, List.drop_zero, exN_dd]
    refine ⟨?_, fun c hc => ?_⟩
    · rw [if_pos rfl, show -((v.natAbs : Nat) : Int) = v by omega, hw]
    · exact decide_eq_true (dd_digit _ c hc)
  · have e : negS (itoa v) = false := by
      rw [itoa_pos (by omega)]
      unfold negS
      cases hd : decDigits v.toNat with
      | nil => rfl
      | cons c r =>
        have hc := dd_digit v.toNat c (by rw [hd]; simp)
        have : c ≠ 45 := by rintro rfl; simp at hc
        simpa using this
    have ez : zS (itoa v) = 0 := by unfold zS; rw [e]; rfl
    rw [ez, e, itoa_pos (by omega), List.drop_zero, exN_dd]
    refine ⟨?_, fun c hc => ?_⟩
    · rw [if_neg (by simp), show ((v.toNat : Nat) : Int) = v by omega, hw]
    · exact decide_eq_true (dd_digit _ c hc)
theorem wrapI_in (x : Int) : I64 (wrapI x) := by
  unfold wrapI I64 wrap64
  omega
theorem intQ_none_len {s : List UInt8} (h : s.length = 0 ∨ 20 < s.length) : intQ s = none := by
  cases hq : intQ s with
  | none => rfl
  | some v =>
    obtain ⟨h1, h2⟩ := intQ_some hq
    have := itoa_len h2
    rw [h1] at this; omega
theorem intQ_none_dig {s : List UInt8} {k : Nat} (hk : k < s.length) (hz : zS s ≤ k) (h : isDig s[k] = false) : intQ s = none := by
  cases hq : intQ s with
  | none => rfl
  | some v =>
    obtain ⟨h1, h2⟩ := intQ_some hq
    have := (read_itoa h2).2
    rw [h1] at this
    have hm : s[k] ∈ (s.take s.length).drop (zS s) := by
      rw [List.take_length, List.mem_iff_getElem]
      exact ⟨k - zS s, by rw [List.length_drop]; omega, by rw [List.getElem_drop]; congr 1; omega⟩
    rw [this _ hm] at h; cases h
theorem intQ_end {s : List UInt8} : intQ s = if itoa (readN s s.length) = s then some (readN s s.length) else none := by
  by_cases h : itoa (readN s s.length) = s
  · rw [if_pos h]
    have := intQ_itoa (v := readN s s.length) (wrapI_in _)
    rwa [h] at this
  · rw [if_neg h]
    cases hq : intQ s with
    | none => rfl
    | some v =>
      obtain ⟨h1, h2⟩ := intQ_some hq
      have := (read_itoa h2).1
      rw [h1] at this
      rw [this] at h
      exact absurd h1 h
theorem take_drop_snoc (s : List UInt8) (k z : Nat) (hk : k < s.length) (hz : z ≤ k) : (s.take (k + 1)).drop z = (s.take k).drop z ++ [s[k]] := by
  rw [List.take_succ_eq_append_getElem hk, List.drop_append_of_le_length (by rw [List.length_take]; omega)]
theorem digs_step {s : List UInt8} {k : Nat} (hk : k < s.length) (hz : zS s ≤ k) (h : digsTo s k) (hd : isDig s[k] = true) : digsTo s (k + 1) := by
  intro c hc
  rw [take_drop_snoc s k _ hk hz, List.mem_append] at hc
  rcases hc with hc | hc
  · exact h c hc
  · simp only [List.mem_singleton] at hc; subst hc; exact hd
theorem wrap_step (e d : Int) : wrap64 (wrap64 (wrapI e * 10) + d) = wrapI (e * 10 + d) := by unfold wrapI wrap64; omega
theorem wrap_stepm (e d : Int) : wrap64 (wrap64 (wrapI e * 10) - d) = wrapI (e * 10 - d) := by unfold wrapI wrap64; omega
theorem readN_step {s : List UInt8} {k : Nat} (hk : k < s.length) (hz : zS s ≤ k) : readN s (k + 1) = if negS s then wrap64 (wrap64 (readN s k * 10) - (s[k].toNat - 48)) else wrap64 (wrap64 (readN s k * 10) + (s[k].toNat - 48)) := by
  unfold readN
  rw [take_drop_snoc s k _ hk hz, exN_append]
  simp only [exN]
  split
  · next h => rw [h, wrap_stepm]
  · next h => rw [wrap_step]
theorem readN_zero (s : List UInt8) : readN s 0 = 0 := by unfold readN; simp [exN, wrapI, wrap64]
theorem readN_sign {s : List UInt8} (h : negS s = true) : readN s 1 = 0 := by
  unfold readN zS
  rw [h]
  cases s with
  | nil => simp [exN, wrapI, wrap64]
  | cons c r => simp [exN, wrapI, wrap64]
theorem digs_zero (s : List UInt8) : digsTo s 0 := by intro c hc; simp at hc
theorem digs_sign {s : List UInt8} (h : negS s = true) : digsTo s 1 := by
  intro c hc
  unfold zS at hc
  rw [h] at hc
  cases s with
  | nil => simp at hc
  | cons c r => simp at hc
end Go.Proofs.YtommlolhpaeioaaDoor.Pl
