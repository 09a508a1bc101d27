/- Plain Lean: a text's lines, by the program's way and the document's. No program in sight. -/
import Derived.Test.YtmmnkoeajdeldaaDoorAsDc
import Derived.Lib.SplitLaws
namespace Go.Proofs.YtmmnkoeajdeldaaDoor.Pl
open Go.RowKit
set_option linter.unusedVariables false
set_option linter.unusedSimpArgs false
theorem pre_one (c b : UInt8) (l : List UInt8) : [c].isPrefixOf (b :: l) = (c == b) := by simp [List.isPrefixOf]
theorem index_one (c : UInt8) (r : List UInt8) : ∀ x : List UInt8, c ∉ x → Lib.index (x ++ c :: r) [c] = (x.length : Nat)
  | [], _ => by simp [Lib.index, pre_one]
  | b :: x, h => by
    have hb : c ≠ b := fun e => h (by simp [e])
    have ih := index_one c r x (fun e => h (List.mem_cons_of_mem _ e))
    rw [List.cons_append, Lib.index, pre_one, if_neg (by simpa using hb), ih, if_neg (by rw [beq_iff_eq]; omega)]
    simp
theorem index_no (c : UInt8) : ∀ x : List UInt8, c ∉ x → Lib.index x [c] = -1
  | [], _ => by simp [Lib.index]
  | b :: x, h => by
    have hb : c ≠ b := fun e => h (by simp [e])
    have ih := index_no c x (fun e => h (List.mem_cons_of_mem _ e))
    rw [Lib.index, pre_one, if_neg (by simpa using hb), ih, if_pos (by simp)]
theorem split_no (c : UInt8) (x : List UInt8) (h : c ∉ x) : Lib.split x [c] = [x] := by
  unfold Lib.split
  rw [Lib.count_miss (index_no c x h)]; rfl
theorem split_at (c : UInt8) (x r : List UInt8) (h : c ∉ x) : Lib.split (x ++ c :: r) [c] = x :: Lib.split r [c] := by
  have hi := index_one c r x h
  have hd : (x ++ c :: r).drop (x.length + [c].length) = r := by simp
  unfold Lib.split
  rw [Lib.count_hit (by simp) hi, hd, Nat.add_comm, Lib.splitK, hi, if_neg (by rw [beq_iff_eq]; omega)]
  simp
theorem split_ne (c : UInt8) (s : List UInt8) : Lib.split s [c] ≠ [] := by
  unfold Lib.split
  cases Lib.count s [c] with
  | zero => simp [Lib.splitK]
  | succ k => rw [Lib.splitK]; split <;> simp
theorem cut10 (s : List UInt8) : (10 : UInt8) ∉ s ∨ ∃ x r, s = x ++ 10 :: r ∧ (10 : UInt8) ∉ x := by
  induction s with
  | nil => exact .inl (by simp)
  | cons c s ih =>
    by_cases hc : c = 10
    · subst hc; exact .inr ⟨[], s, rfl, by simp⟩
    · rcases ih with h | ⟨x, r, rfl, h⟩
      · exact .inl fun e => by (rcases List.mem_cons.1 e with e | e <;> first | exact hc e.symm | exact h e)
      · exact .inr ⟨c :: x, r, rfl, fun e => by (rcases List.mem_cons.1 e with e | e <;> first | exact hc e.symm | exact h e)⟩
theorem linesN_no {x : List UInt8} (h : (10 : UInt8) ∉ x) : linesN x = if x = [] then [] else [x] := by
  unfold linesN
  rw [split_no 10 x h]
  by_cases hx : x = []
  · subst hx; rfl
  · simp [hx]
theorem linesN_at {x r : List UInt8} (h : (10 : UInt8) ∉ x) : linesN (x ++ 10 :: r) = x :: linesN r := by
  unfold linesN
  rw [split_at 10 x r h]
  have hne := split_ne 10 r
  generalize Lib.split r [10] = m at hne
  cases m with
  | nil => exact absurd rfl hne
  | cons a m =>
    simp only [List.getLast?_cons_cons, List.dropLast_cons_cons]
    split <;> rfl
theorem linesDF_no {x : List UInt8} : ∀ (cur : List UInt8), (10 : UInt8) ∉ x → linesDF cur x = if cur ++ x = [] then [] else [cur ++ x] := by
  induction x with
  | nil => intro cur _; simp [linesDF]
  | cons c x ih =>
    intro cur h
    have hc : ¬ c.toNat = 10 := fun e => h (by rw [show c = 10 from UInt8.toNat_inj.1 e]; simp)
    rw [linesDF, if_neg hc, ih _ (fun e => h (List.mem_cons_of_mem _ e))]
    simp
theorem linesDF_at {x r : List UInt8} : ∀ (cur : List UInt8), (10 : UInt8) ∉ x → linesDF cur (x ++ 10 :: r) = (cur ++ x) :: linesDF [] r := by
  induction x with
  | nil => intro cur _; simp [linesDF]
  | cons c x ih =>
    intro cur h
    have hc : ¬ c.toNat = 10 := fun e => h (by rw [show c = 10 from UInt8.toNat_inj.1 e]; simp)
    rw [List.cons_append, linesDF, if_neg hc, ih _ (fun e => h (List.mem_cons_of_mem _ e))]
    simp
theorem linesN_eq : ∀ (n : Nat) (s : List UInt8), s.length ≤ n → linesN s = linesD s
  | 0, s, h => by rw [List.eq_nil_of_length_eq_zero (by omega : s.length = 0)]; rfl
  | n + 1, s, h => by
    rcases cut10 s with hs | ⟨x, r, rfl, hs⟩
    · rw [linesN_no hs]
      unfold linesD
      rw [linesDF_no [] hs]
      simp
    · rw [linesN_at hs, linesN_eq n r (by simp at h; omega)]
      unfold linesD
      rw [linesDF_at [] hs]
      simp
theorem linesD_len : ∀ (s cur : List UInt8), (linesDF cur s).length ≤ s.length + 1
  | [], cur => by unfold linesDF; split <;> simp
  | c :: r, cur => by
    unfold linesDF
    split
    · have := linesD_len r []; simp; omega
    · have := linesD_len r (cur ++ [c]); simp; omega
/-- No line has the sign that ends lines; all are as long as the text, at most. -/
theorem linesDF_mem : ∀ (s cur : List UInt8), (10 : UInt8) ∉ cur → ∀ x ∈ linesDF cur s, (10 : UInt8) ∉ x
  | [], cur, hc, x, hx => by
    unfold linesDF at hx
    split at hx
    · cases hx
    · rw [List.mem_singleton.1 hx]; exact hc
  | c :: r, cur, hc, x, hx => by
    unfold linesDF at hx
    split at hx
    · rcases List.mem_cons.1 hx with rfl | hx
      · exact hc
      · exact linesDF_mem r [] (by simp) x hx
    · next h =>
      refine linesDF_mem r _ (fun e => ?_) x hx
      rcases List.mem_append.1 e with e | e
      · exact hc e
      · rw [← List.mem_singleton.1 e] at h; exact h rfl
/-- A text of whole lines. -/
def joinN : List (List UInt8) → List UInt8
  | [] => []
  | x :: r => x ++ 10 :: joinN r
theorem linesN_join : ∀ l : List (List UInt8), (∀ x ∈ l, (10 : UInt8) ∉ x) → linesN (joinN l) = l
  | [], _ => rfl
  | x :: r, h => by
    show linesN (x ++ 10 :: joinN r) = _
    rw [linesN_at (h x (by simp)), linesN_join r fun y hy => h y (List.mem_cons_of_mem _ hy)]
theorem joinN_app : ∀ a b : List (List UInt8), joinN (a ++ b) = joinN a ++ joinN b
  | [], b => rfl
  | x :: a, b => by simp [joinN, joinN_app a b]
theorem joinN_len : ∀ a : List (List UInt8), (joinN a).length = (a.map List.length).sum + a.length
  | [] => rfl
  | x :: a => by simp [joinN, joinN_len a]; omega
end Go.Proofs.YtmmnkoeajdeldaaDoor.Pl
