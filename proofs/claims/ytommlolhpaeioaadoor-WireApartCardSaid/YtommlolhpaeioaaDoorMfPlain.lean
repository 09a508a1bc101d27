/- Plain Lean: snapshots. No program in sight. -/
import Derived.Test.YtommlolhpaeioaaDoorDecPlain
set_option linter.unusedVariables false
namespace Go.Proofs.YtommlolhpaeioaaDoor.Pl
structure Snap where
  m : List UInt8
  n : Int
  at_ : Int
  clock : Int
  pages : Int
  blocks : Int
  c0 : List (List UInt8)
  c1 : List (List UInt8)
  c2 : List (List UInt8)
  sum : List UInt8
def mchB (c : UInt8) : Bool := decide (97 ≤ c.toNat ∧ c.toNat ≤ 122 ∨ 48 ≤ c.toNat ∧ c.toNat ≤ 57 ∨ c.toNat = 46 ∨ c.toNat = 45)
def machine (s : List UInt8) : Bool := decide (1 ≤ s.length ∧ s.length ≤ 24) && s.all mchB
/-- The number of a sign of sixteen. -/
def halfN (c : UInt8) : Option Nat := if 48 ≤ c.toNat ∧ c.toNat ≤ 57 then some (c.toNat - 48) else if 97 ≤ c.toNat ∧ c.toNat ≤ 102 then some (c.toNat - 87) else none
def pairO : Option Nat → Option Nat → Option UInt8
  | some x, some y => some (UInt8.ofNat (16 * x + y))
  | _, _ => none
def pairN (s : List UInt8) (i : Nat) : Option UInt8 := pairO (halfN (s.getD (2 * i) 0)) (halfN (s.getD (2 * i + 1) 0))
def firstK (s : List UInt8) : Nat → Option (List UInt8)
  | 0 => some []
  | k + 1 => match firstK s k, pairN s k with
    | some l, some b => some (l ++ [b])
    | _, _ => none
def hashOf (s : List UInt8) : Option (List UInt8) := if s.length = 64 then firstK s 32 else none
theorem firstK_len {s : List UInt8} : ∀ {k : Nat} {l : List UInt8}, firstK s k = some l → l.length = k
  | 0, l, h => by injection h with h; subst h; rfl
  | k + 1, l, h => by
    unfold firstK at h
    split at h
    · next l1 b h1 h2 =>
      injection h with h
      subst h
      have := firstK_len h1
      simp [this]
    · cases h
theorem firstK_none {s : List UInt8} {k : Nat} (h : firstK s k = none) : ∀ d, firstK s (k + d) = none
  | 0 => h
  | d + 1 => by
    show (match firstK s (k + d), pairN s (k + d) with | some l, some b => some (l ++ [b]) | _, _ => none) = none
    rw [firstK_none h d]
theorem firstK_step {s : List UInt8} {k : Nat} {l : List UInt8} {b : UInt8} (h : firstK s k = some l) (hb : pairN s k = some b) : firstK s (k + 1) = some (l ++ [b]) := by
  unfold firstK; rw [h, hb]
theorem firstK_bad {s : List UInt8} {k : Nat} (hb : pairN s k = none) : firstK s (k + 1) = none := by
  unfold firstK; rw [hb]; split <;> simp_all
theorem halfN_lt {c : UInt8} {x : Nat} (h : halfN c = some x) : x < 16 := by
  unfold halfN at h
  split at h
  · injection h with h; omega
  · split at h
    · injection h with h; omega
    · cases h
def inR (s : Snap) : Bool := decide ((1 ≤ s.n ∧ s.n ≤ 100000000) ∧ (0 ≤ s.at_ ∧ s.at_ ≤ 1000000000000) ∧ (1 ≤ s.pages ∧ s.pages ≤ 64) ∧ (1 ≤ s.blocks ∧ s.blocks ≤ 256))
def all3 (s : Snap) : List (List UInt8) := s.c0 ++ s.c1 ++ s.c2
def okN (x : List UInt8) : Bool := (hashOf x).isSome
def mchk (s : Snap) : Nat :=
  if machine s.m = false then 7 else if inR s = false then 2 else if 1000 < s.c0.length + s.c1.length + s.c2.length then 6 else if (all3 s).all okN then 0 else 3
end Go.Proofs.YtommlolhpaeioaaDoor.Pl
