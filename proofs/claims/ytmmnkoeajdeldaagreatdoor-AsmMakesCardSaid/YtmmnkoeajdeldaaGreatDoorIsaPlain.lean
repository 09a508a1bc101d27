/- Plain Lean: an instruction as a word, and back. No program in sight. -/
import Derived.Test.YtmmnkoeajdeldaaGreatDoorNumPlain
namespace Go.Proofs.YtmmnkoeajdeldaaGreatDoor.Pl

structure Ins where
  op : Nat
  a : Nat
  b : Nat
  c : Nat
  imm : Int
/-- What an operation has: 0 none there, 1 a b c, 2 a and a number, 3 a number, 4 a b and a number. -/
def cls (op : Nat) : Nat := if op < 1 ∨ 31 < op then 0 else if op ≤ 13 then 1 else if op = 19 ∨ op = 29 then 2 else if op = 31 then 3 else 4
def usg (op : Nat) : Bool := decide (15 ≤ op ∧ op ≤ 17 ∨ op = 19 ∨ op = 31)
def fits (op : Nat) (n : Int) : Bool := if usg op then decide (0 ≤ n ∧ n ≤ 65535) else decide (-32768 ≤ n ∧ n ≤ 32767)
/-- What must be nothing isn't. -/
def over (k a b c : Nat) (imm : Int) : Bool := decide ((k = 1 ∧ imm ≠ 0) ∨ (k = 2 ∧ (b ≠ 0 ∨ c ≠ 0)) ∨ (k = 3 ∧ (a ≠ 0 ∨ b ≠ 0 ∨ c ≠ 0)) ∨ (k = 4 ∧ c ≠ 0))
/-- Why an instruction may not be. -/
def encE (x : Ins) : Nat := if cls x.op = 0 then 16 else if 15 < x.a ∨ 15 < x.b ∨ 15 < x.c then 1 else if over (cls x.op) x.a x.b x.c x.imm then 1 else if cls x.op ≠ 1 ∧ fits x.op x.imm = false then 2 else 0
def low (n : Int) : Nat := (n % 65536).toNat
def wordOf (x : Ins) : Nat := x.op * 67108864 + x.a * 4194304 + x.b * 262144 + x.c * 16384 + low x.imm
def encW (x : Ins) : Nat := if encE x = 0 then wordOf x else 0
/-- What is known of an instruction that came in. -/
structure InsOk (x : Ins) : Prop where
  op : x.op < 256
  a : x.a < 256
  b : x.b < 256
  c : x.c < 256
  i0 : -2147483648 ≤ x.imm
  i1 : x.imm ≤ 2147483647

theorem cls_lt (op : Nat) : cls op < 5 := by unfold cls; (repeat' split) <;> omega
/-- The instruction that a word would be. -/
def sext (n : Nat) : Int := if n < 32768 then (n : Int) else (n : Int) - 65536
def decX (w : Nat) : Ins :=
  ⟨w / 67108864, w / 4194304 % 16, w / 262144 % 16, if cls (w / 67108864) = 1 then w / 16384 % 16 else 0,
    if cls (w / 67108864) = 1 then 0 else if usg (w / 67108864) then ((w % 65536 : Nat) : Int) else sext (w % 65536)⟩
def decOk (w : Nat) : Bool := decide (encE (decX w) = 0 ∧ wordOf (decX w) = w)
theorem wrap_i16 (lo : Nat) (h : lo < 65536) : IntKind.i16.wrap (lo : Int) = sext lo := by
  unfold sext
  show (if (true && decide ((lo : Int) % 65536 ≥ 32768)) = true then (lo : Int) % 65536 - 65536 else (lo : Int) % 65536) = _
  by_cases hh : lo < 32768
  · rw [if_neg (by simp; omega), if_pos hh]; omega
  · rw [if_pos (by simp; omega), if_neg hh]; omega
theorem u32_or_nat (a b : Nat) (ha : a < 4294967296) (hb : b < 4294967296) : bits .or .u32 (a : Int) (b : Int) = ((a ||| b : Nat) : Int) := by
  have hx : a ||| b < 2 ^ 32 := Nat.or_lt_two_pow (by omega) (by omega)
  have h1 : (BitVec.ofInt 32 (a : Int)).toNat = a := by
    rw [BitVec.ofInt_natCast, BitVec.toNat_ofNat]; exact Nat.mod_eq_of_lt (by omega)
  have h2 : (BitVec.ofInt 32 (b : Int)).toNat = b := by
    rw [BitVec.ofInt_natCast, BitVec.toNat_ofNat]; exact Nat.mod_eq_of_lt (by omega)
  show IntKind.u32.wrap ((BitVec.ofInt 32 (a : Int) ||| BitVec.ofInt 32 (b : Int)).toNat : Int) = _
  rw [BitVec.toNat_or, h1, h2, IntKind.wrap_u32]
  omega
theorem u32_and_nat (a b : Nat) (ha : a < 4294967296) (hb : b < 4294967296) : bits .and .u32 (a : Int) (b : Int) = ((a &&& b : Nat) : Int) := by
  have hx : a &&& b < 2 ^ 32 := Nat.and_lt_two_pow _ (by omega)
  have h1 : (BitVec.ofInt 32 (a : Int)).toNat = a := by
    rw [BitVec.ofInt_natCast, BitVec.toNat_ofNat]; exact Nat.mod_eq_of_lt (by omega)
  have h2 : (BitVec.ofInt 32 (b : Int)).toNat = b := by
    rw [BitVec.ofInt_natCast, BitVec.toNat_ofNat]; exact Nat.mod_eq_of_lt (by omega)
  show IntKind.u32.wrap ((BitVec.ofInt 32 (a : Int) &&& BitVec.ofInt 32 (b : Int)).toNat : Int) = _
  rw [BitVec.toNat_and, h1, h2, IntKind.wrap_u32]
  omega
theorem u32_join (i x m : Nat) (hx : x % 2 ^ i = 0) (hm : m < 2 ^ i) (hx' : x < 4294967296) (hm' : m < 4294967296) : bits .or .u32 (x : Int) (m : Int) = ((x + m : Nat) : Int) := by
  rw [u32_or_nat x m hx' hm', nat_join i x m hx hm]
theorem u32_low (i x : Nat) (hi : i < 32) (hx : x < 4294967296) : bits .and .u32 (x : Int) ((2 ^ i - 1 : Nat) : Int) = ((x % 2 ^ i : Nat) : Int) := by
  have : 2 ^ i ≤ 2 ^ 31 := Nat.pow_le_pow_right (by omega) (by omega)
  rw [u32_and_nat x _ hx (by omega), Nat.and_two_pow_sub_one_eq_mod]
theorem low_bits (n : Int) : bits .and .u32 (n % 4294967296) 65535 = (low n : Int) := by
  obtain ⟨m, hm⟩ : ∃ m : Nat, n % 4294967296 = m := ⟨(n % 4294967296).toNat, by omega⟩
  rw [hm]
  have := u32_low 16 m (by omega) (by omega)
  rw [show ((2 ^ 16 - 1 : Nat) : Int) = 65535 from rfl] at this
  rw [this]
  unfold low
  omega
theorem low_lt (n : Int) : low n < 65536 := by unfold low; omega
theorem word_bits (op a b c : Nat) (imm : Int) (ho : op < 64) (ha : a < 16) (hb : b < 16) (hc : c < 16) (hci : c = 0 ∨ imm = 0) :
    bits .or .u32 (bits .or .u32 (bits .or .u32 (bits .or .u32 ((op : Int) * 67108864) ((a : Int) * 4194304)) ((b : Int) * 262144)) ((c : Int) * 16384)) (bits .and .u32 (imm % 4294967296) 65535) = (wordOf ⟨op, a, b, c, imm⟩ : Int) := by
  have hl := low_lt imm
  have e1 : (op : Int) * 67108864 = ((op * 67108864 : Nat) : Int) := by omega
  have e2 : (a : Int) * 4194304 = ((a * 4194304 : Nat) : Int) := by omega
  have e3 : (b : Int) * 262144 = ((b * 262144 : Nat) : Int) := by omega
  have e4 : (c : Int) * 16384 = ((c * 16384 : Nat) : Int) := by omega
  rw [low_bits imm, e1, e2, e3, e4, u32_join 26 _ _ (by omega) (by omega) (by omega) (by omega), u32_join 22 _ _ (by omega) (by omega) (by omega) (by omega), u32_join 18 _ _ (by omega) (by omega) (by omega) (by omega)]
  rcases hci with rfl | rfl
  · rw [u32_join 16 _ _ (by omega) (by omega) (by omega) (by omega)]; simp only [wordOf]
  · have : low 0 = 0 := rfl
    rw [this, u32_join 14 _ _ (by omega) (by omega) (by omega) (by omega)]; simp only [wordOf, this]
theorem encE_ok {x : Ins} (h : encE x = 0) : 1 ≤ cls x.op ∧ x.op < 32 ∧ x.a < 16 ∧ x.b < 16 ∧ x.c < 16 ∧ over (cls x.op) x.a x.b x.c x.imm = false ∧ (cls x.op = 1 ∨ fits x.op x.imm = true) := by
  unfold encE at h
  split at h
  · omega
  split at h
  · omega
  split at h
  · omega
  split at h
  · omega
  · next h1 h2 h3 h4 =>
    have h5 : x.op < 32 := by unfold cls at h1; split at h1 <;> omega
    refine ⟨by omega, h5, by omega, by omega, by omega, by simpa using h3, ?_⟩
    by_cases hc : cls x.op = 1
    · exact .inl hc
    · refine .inr ?_
      cases hf : fits x.op x.imm
      · exact absurd ⟨hc, hf⟩ h4
      · rfl
theorem word_lt {x : Ins} (h : encE x = 0) : wordOf x < 4294967296 := by
  obtain ⟨-, h1, h2, h3, h4, -, -⟩ := encE_ok h
  have := low_lt x.imm
  unfold wordOf
  omega
theorem dec_enc {x : Ins} (h : encE x = 0) : decX (wordOf x) = x := by
  obtain ⟨h0, h1, h2, h3, h4, h5, h6⟩ := encE_ok h
  have hl := low_lt x.imm
  obtain ⟨op, a, b, c, imm⟩ := x
  simp only at h0 h1 h2 h3 h4 h5 h6 hl
  have ho := of_decide_eq_false h5
  have hk := cls_lt op
  have hci : c = 0 ∨ imm = 0 := by omega
  have hlo : cls op = 1 → low imm = 0 := by
    intro hc
    have : imm = 0 := by omega
    subst this; rfl
  have e1 : wordOf ⟨op, a, b, c, imm⟩ / 67108864 = op := by simp only [wordOf]; omega
  have e2 : wordOf ⟨op, a, b, c, imm⟩ / 4194304 % 16 = a := by simp only [wordOf]; omega
  have hbc : c * 16384 + low imm < 262144 := by
    rcases hci with rfl | rfl
    · omega
    · have : low 0 = 0 := rfl
      omega
  have e3 : wordOf ⟨op, a, b, c, imm⟩ / 262144 % 16 = b := by simp only [wordOf]; omega
  unfold decX
  rw [e1, e2, e3]
  by_cases hc : cls op = 1
  · have hi : imm = 0 := by omega
    have := hlo hc
    have e4 : wordOf ⟨op, a, b, c, imm⟩ / 16384 % 16 = c := by simp only [wordOf]; omega
    rw [if_pos hc, if_pos hc, e4, hi]
  · have hc0 : c = 0 := by omega
    have e5 : wordOf ⟨op, a, b, c, imm⟩ % 65536 = low imm := by simp only [wordOf]; omega
    rw [if_neg hc, if_neg hc, e5, hc0]
    have hf : fits op imm = true := by
      rcases h6 with h6 | h6
      · exact absurd h6 hc
      · exact h6
    unfold fits at hf
    congr 1
    cases hu : usg op
    · simp only [hu, Bool.false_eq_true, if_false, decide_eq_true_eq] at hf ⊢
      unfold sext low
      split <;> omega
    · simp only [hu, if_true, decide_eq_true_eq] at hf ⊢
      unfold low; omega
theorem dec_ok {x : Ins} (h : encE x = 0) : decOk (wordOf x) = true := by
  unfold decOk; rw [dec_enc h]; exact decide_eq_true ⟨h, rfl⟩
end Go.Proofs.YtmmnkoeajdeldaaGreatDoor.Pl
