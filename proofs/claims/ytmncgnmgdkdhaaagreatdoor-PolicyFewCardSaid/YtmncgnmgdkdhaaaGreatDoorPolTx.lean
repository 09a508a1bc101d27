/- Plain Lean: a policy's text, and the policy of a text, by the program's way (cut at the blanks) and the document's (number by number): both tell just the texts of policies that may be. No program in sight. -/
import Derived.Test.YtmncgnmgdkdhaaaGreatDoorNumPlain
import Derived.Test.YtmncgnmgdkdhaaaGreatDoorPolPl
import Derived.Lib.Split
import Derived.Lib.SplitLaws
namespace Go.Proofs.YtmncgnmgdkdhaaaGreatDoor.Pl
open Go.RowKit
open Go.Lib (itoa decDigits)
set_option linter.unusedVariables false
set_option linter.unusedSimpArgs false
theorem pre_one (c b : UInt8) (l : List UInt8) : [c].isPrefixOf (b :: l) = (c == b) := by simp [List.isPrefixOf]
theorem index_one (c : UInt8) (r : List UInt8) : ∀ x : List UInt8, c ∉ x → Lib.index (x ++ c :: r) [c] = (x.length : Nat)
  | [], _ => by simp [Lib.index, pre_one]
  | b :: x, h => by
    have hb : c ≠ b := fun e => h (by simp [e])
    have ih := index_one c r x (fun e => h (List.mem_cons_of_mem _ e))
    rw [List.cons_append, Lib.index, pre_one, if_neg (by simpa using hb), ih, if_neg (by rw [beq_iff_eq]; omega)]
    simp
theorem index_no (c : UInt8) : ∀ x : List UInt8, c ∉ x → Lib.index x [c] = -1
  | [], _ => by simp [Lib.index]
  | b :: x, h => by
    have hb : c ≠ b := fun e => h (by simp [e])
    have ih := index_no c x (fun e => h (List.mem_cons_of_mem _ e))
    rw [Lib.index, pre_one, if_neg (by simpa using hb), ih, if_pos (by simp)]
theorem split_no (c : UInt8) (x : List UInt8) (h : c ∉ x) : Lib.split x [c] = [x] := by
  unfold Lib.split
  rw [Lib.count_miss (index_no c x h)]; rfl
theorem split_at (c : UInt8) (x r : List UInt8) (h : c ∉ x) : Lib.split (x ++ c :: r) [c] = x :: Lib.split r [c] := by
  have hi := index_one c r x h
  have hd : (x ++ c :: r).drop (x.length + [c].length) = r := by simp
  unfold Lib.split
  rw [Lib.count_hit (by simp) hi, hd, Nat.add_comm, Lib.splitK, hi, if_neg (by rw [beq_iff_eq]; omega)]
  simp
/-- A policy's text. -/
def polT (p : Pol) : List UInt8 := (itoa p.d ++ [100]) ++ 32 :: ((itoa p.w ++ [119]) ++ 32 :: ((itoa p.mo ++ [109]) ++ 32 :: (itoa p.y ++ [121])))
def txP (p : Pol) : List UInt8 := if polE p = 0 then polT p else []
theorem itoa_mem {v : Int} (h0 : 0 ≤ v) {c : UInt8} (hc : c ∈ itoa v) : 48 ≤ c.toNat ∧ c.toNat ≤ 57 := by
  rw [itoa_pos h0] at hc
  exact dd_digit _ c hc
theorem itoa_not {v : Int} (h0 : 0 ≤ v) {c : UInt8} (hc : ¬ (48 ≤ c.toNat ∧ c.toNat ≤ 57)) : c ∉ itoa v := fun h => hc (itoa_mem h0 h)
theorem polE_fit {p : Pol} (h : polE p = 0) : (0 ≤ p.d ∧ p.d ≤ 1000) ∧ (0 ≤ p.w ∧ p.w ≤ 1000) ∧ (0 ≤ p.mo ∧ p.mo ≤ 1000) ∧ (0 ≤ p.y ∧ p.y ≤ 1000) := by
  unfold polE at h
  split at h
  · cases h
  · next h1 =>
    have h2 : p.nums.all (fun n => decide (0 ≤ n ∧ n ≤ 1000)) = true := by simpa using h1
    rw [List.all_eq_true] at h2
    exact ⟨by simpa using h2 p.d (by simp [Pol.nums]), by simpa using h2 p.w (by simp [Pol.nums]), by simpa using h2 p.mo (by simp [Pol.nums]), by simpa using h2 p.y (by simp [Pol.nums])⟩
theorem polT_ne (p : Pol) : polT p ≠ [] := by unfold polT; simp
theorem txP_iff (p : Pol) (s : List UInt8) : (txP p = s ∧ s ≠ []) ↔ (polE p = 0 ∧ polT p = s) := by
  unfold txP
  by_cases h : polE p = 0
  · rw [if_pos h]
    exact ⟨fun g => ⟨h, g.1⟩, fun g => ⟨g.2, by rw [← g.2]; exact polT_ne p⟩⟩
  · rw [if_neg h]
    exact ⟨fun g => absurd g.1.symm g.2, fun g => absurd g.1 h⟩
/-- One word of a policy's text: its number. -/
def wordP (u : UInt8) (w : List UInt8) : Option Int := if Lib.hasSuffix w [u] then (match intQ (Lib.trimSuffix w [u]) with | some n => if 0 ≤ n ∧ n ≤ 1000 then some n else none | none => none) else none
theorem suf_at (u : UInt8) (x : List UInt8) : Lib.hasSuffix (x ++ [u]) [u] = true := by
  unfold Lib.hasSuffix
  rw [List.isSuffixOf_iff_suffix]
  exact List.suffix_append _ _
theorem trim_at (u : UInt8) (x : List UInt8) : Lib.trimSuffix (x ++ [u]) [u] = x := by
  unfold Lib.trimSuffix
  rw [if_pos (suf_at u x)]
  simp
theorem fit_I64 {v : Int} (h : 0 ≤ v ∧ v ≤ 1000) : I64 v := by unfold I64; omega
theorem wordP_at {u : UInt8} {v : Int} (h : 0 ≤ v ∧ v ≤ 1000) : wordP u (itoa v ++ [u]) = some v := by
  unfold wordP
  rw [if_pos (suf_at _ _), trim_at, intQ_itoa (fit_I64 h)]
  simp [h]
/-- The policy of a text, by the program's way. -/
def ofW (s : List UInt8) : Option Pol :=
  match Lib.split s [32] with
  | [a, b, c, d] =>
    match wordP 100 a, wordP 119 b, wordP 109 c, wordP 121 d with
    | some x, some y, some z, some t => if txP ⟨x, y, z, t⟩ = s ∧ s ≠ [] then some ⟨x, y, z, t⟩ else none
    | _, _, _, _ => none
  | _ => none
theorem split_polT {p : Pol} (h : polE p = 0) : Lib.split (polT p) [32] = [itoa p.d ++ [100], itoa p.w ++ [119], itoa p.mo ++ [109], itoa p.y ++ [121]] := by
  obtain ⟨h1, h2, h3, h4⟩ := polE_fit h
  have key : ∀ (v : Int) (u : UInt8), 0 ≤ v → (32 : UInt8) ≠ u → (32 : UInt8) ∉ itoa v ++ [u] := fun v u hv hu hm => by
    rw [List.mem_append, List.mem_singleton] at hm
    rcases hm with hm | hm
    · exact itoa_not hv (by decide) hm
    · exact hu hm
  unfold polT
  rw [split_at _ _ _ (key _ _ h1.1 (by decide)), split_at _ _ _ (key _ _ h2.1 (by decide)), split_at _ _ _ (key _ _ h3.1 (by decide)), split_no _ _ (key _ _ h4.1 (by decide))]
theorem ofW_iff (s : List UInt8) (p : Pol) : ofW s = some p ↔ (polE p = 0 ∧ polT p = s) := by
  constructor
  · intro h
    unfold ofW at h
    split at h
    · split at h
      · split at h
        · next hc =>
          injection h with h
          rw [← txP_iff, ← h]; exact hc
        · cases h
      · cases h
    · cases h
  · rintro ⟨h, rfl⟩
    obtain ⟨h1, h2, h3, h4⟩ := polE_fit h
    have ht := (txP_iff p (polT p)).2 ⟨h, rfl⟩
    unfold ofW
    rw [split_polT h]
    simp only [wordP_at h1, wordP_at h2, wordP_at h3, wordP_at h4]
    rw [if_pos ht]
/-- A text's first number, up to a sign, and what stands behind that, by the document's way. -/
def numD (u : UInt8) (s : List UInt8) : Option (Int × List UInt8) :=
  if u ∈ s then (match intQ (s.take (s.findIdx (· == u))) with | some n => if 0 ≤ n ∧ n ≤ 1000 then some (n, s.drop (s.findIdx (· == u) + 1)) else none | none => none) else none
def blankD (s : List UInt8) : Option (List UInt8) := match s with | c :: r => if c = 32 then some r else none | [] => none
def ofD (s : List UInt8) : Option Pol :=
  match numD 100 s with
  | none => none
  | some (x, s1) => match blankD s1 with
    | none => none
    | some s1 => match numD 119 s1 with
      | none => none
      | some (y, s2) => match blankD s2 with
        | none => none
        | some s2 => match numD 109 s2 with
          | none => none
          | some (z, s3) => match blankD s3 with
            | none => none
            | some s3 => match numD 121 s3 with
              | none => none
              | some (t, _) => if txP ⟨x, y, z, t⟩ = s ∧ s ≠ [] then some ⟨x, y, z, t⟩ else none
theorem find_at (u : UInt8) (r : List UInt8) : ∀ x : List UInt8, u ∉ x → (x ++ u :: r).findIdx (· == u) = x.length
  | [], _ => by simp [List.findIdx_cons]
  | b :: x, h => by
    have hb : b ≠ u := fun e => h (by simp [e])
    have ih := find_at u r x (fun e => h (List.mem_cons_of_mem _ e))
    rw [List.cons_append, List.findIdx_cons, ih, show (b == u) = false from by rw [beq_eq_false_iff_ne]; exact hb]
    rfl
theorem numD_at {u : UInt8} {v : Int} (h : 0 ≤ v ∧ v ≤ 1000) (hu : ¬ (48 ≤ u.toNat ∧ u.toNat ≤ 57)) (r : List UInt8) : numD u ((itoa v ++ [u]) ++ r) = some (v, r) := by
  have hn := itoa_not h.1 hu
  have e : (itoa v ++ [u]) ++ r = itoa v ++ u :: r := by simp
  unfold numD
  rw [e, if_pos (by simp), find_at u r _ hn, List.take_left' rfl, intQ_itoa (fit_I64 h)]
  simp [h]
theorem blankD_at (r : List UInt8) : blankD (32 :: r) = some r := by simp [blankD]
theorem ofD_iff (s : List UInt8) (p : Pol) : ofD s = some p ↔ (polE p = 0 ∧ polT p = s) := by
  constructor
  · intro h
    unfold ofD at h
    repeat' split at h
    all_goals first | (cases h; done) | skip
    next hc =>
      injection h with h
      rw [← txP_iff, ← h]; exact hc
  · rintro ⟨h, rfl⟩
    obtain ⟨h1, h2, h3, h4⟩ := polE_fit h
    have ht := (txP_iff p (polT p)).2 ⟨h, rfl⟩
    have e4 : itoa p.y ++ [121] = (itoa p.y ++ [121]) ++ [] := by simp
    have c1 := numD_at (u := 100) h1 (by decide) (32 :: ((itoa p.w ++ [119]) ++ 32 :: ((itoa p.mo ++ [109]) ++ 32 :: (itoa p.y ++ [121]))))
    have c2 := numD_at (u := 119) h2 (by decide) (32 :: ((itoa p.mo ++ [109]) ++ 32 :: (itoa p.y ++ [121])))
    have c3 := numD_at (u := 109) h3 (by decide) (32 :: (itoa p.y ++ [121]))
    have c4 := numD_at (u := 121) h4 (by decide) []
    rw [← e4] at c4
    unfold ofD
    rw [show numD 100 (polT p) = _ from c1]
    simp only [blankD_at, c2, c3, c4]
    rw [if_pos ht]
/-- Both ways are one. -/
theorem ofW_ofD (s : List UInt8) : ofW s = ofD s := by
  cases hw : ofW s with
  | some p => exact ((ofD_iff s p).2 ((ofW_iff s p).1 hw)).symm
  | none =>
    cases hd : ofD s with
    | none => rfl
    | some p => rw [(ofW_iff s p).2 ((ofD_iff s p).1 hd)] at hw; cases hw
theorem ofW_back {p : Pol} (h : polE p = 0) : ofW (txP p) = some p := (ofW_iff _ p).2 ⟨h, by unfold txP; rw [if_pos h]⟩
theorem ofW_nil : ofW [] = none := by
  cases h : ofW [] with
  | none => rfl
  | some p => exact absurd ((ofW_iff _ p).1 h).2 (polT_ne p)
end Go.Proofs.YtmncgnmgdkdhaaaGreatDoor.Pl
