/- Plain Lean: the program of a file. No program in sight. -/
import Derived.Test.YtplhmhclcfclhaaPagesPlain
namespace Go.Proofs.Ytplhmhclcfclhaa.Pl

def fieldN (b : List UInt8) (a s : Nat) : Nat := getN ((b.drop a).take s)
def noExe : Exe := ⟨[], [], 0, 0⟩
def bodyE (b : List UInt8) : Exe := ⟨(List.range (fieldN b 8 2)).map (fun i => fieldN b (14 + 4 * i) 4), b.drop (14 + 4 * fieldN b 8 2), (fieldN b 12 2 : Int), fieldN b 4 4⟩
def magicB : List UInt8 := [104, 105, 98, 120]
def headBad (b : List UInt8) : Bool := decide (b.take (min b.length 4) ≠ magicB.take (min b.length 4))
def ofE (b : List UInt8) : Nat :=
  if headBad b then 3 else if b.length < 14 then 4 else if b.length < 14 + 4 * fieldN b 8 2 + fieldN b 10 2 then 4 else if 14 + 4 * fieldN b 8 2 + fieldN b 10 2 < b.length then 3 else if chk (bodyE b) = 0 then 0 else 3
def ofX (b : List UInt8) : Exe := if ofE b = 0 then bodyE b else noExe

theorem fieldN_lt (b : List UInt8) (a s : Nat) : fieldN b a s < 256 ^ s := by
  unfold fieldN
  refine Nat.lt_of_lt_of_le (getN_lt _) (Nat.pow_le_pow_right (by omega) (by rw [List.length_take]; omega))
theorem fieldN_2 (b : List UInt8) (a : Nat) : fieldN b a 2 < 65536 := by simpa using fieldN_lt b a 2
theorem fieldN_4 (b : List UInt8) (a : Nat) : fieldN b a 4 < 4294967296 := by simpa using fieldN_lt b a 4
theorem field_mid (p q r : List UInt8) (a s : Nat) (h1 : p.length = a) (h2 : q.length = s) : fieldN (p ++ (q ++ r)) a s = getN q := by
  subst h1 h2
  unfold fieldN
  rw [List.drop_left, List.take_left]
theorem field_take (b : List UInt8) (k a s : Nat) (h : a + s ≤ k) : fieldN (b.take k) a s = fieldN b a s := by
  unfold fieldN
  rw [List.drop_take, List.take_take, Nat.min_eq_left (by omega)]
theorem field_more (b c : List UInt8) (a s : Nat) (h : a + s ≤ b.length) : fieldN (b ++ c) a s = fieldN b a s := by
  rw [← field_take (b ++ c) b.length a s h, List.take_left]
theorem get_put (n k : Nat) (h : n < 256 ^ k) : getN (putB n k) = n := by rw [getN_putB, Nat.mod_eq_of_lt h]

section
variable (x : Exe) (hc : chkB x = false) (hw : ∀ y ∈ x.text, y < 4294967296)
theorem fileB_len : (fileB x).length = 14 + 4 * x.text.length + x.data.length := by
  simp [fileB, putB_len, wordsB_len]; omega
include hc in
theorem file_fields : fieldN (fileB x) 8 2 = x.text.length ∧ fieldN (fileB x) 10 2 = x.data.length ∧ (fieldN (fileB x) 12 2 : Int) = x.room ∧ fieldN (fileB x) 4 4 = x.entry := by
  have h := of_decide_eq_false hc
  refine ⟨?_, ?_, ?_, ?_⟩
  · rw [show fileB x = ([104, 105, 98, 120] ++ putB x.entry 4) ++ (putB x.text.length 2 ++ (putB x.data.length 2 ++ (putB x.room.toNat 2 ++ (wordsB x.text ++ x.data)))) by simp [fileB],
      field_mid _ _ _ 8 2 (by simp [putB_len]) (putB_len _ _), get_put _ _ (by omega)]
  · rw [show fileB x = ([104, 105, 98, 120] ++ (putB x.entry 4 ++ putB x.text.length 2)) ++ (putB x.data.length 2 ++ (putB x.room.toNat 2 ++ (wordsB x.text ++ x.data))) by simp [fileB],
      field_mid _ _ _ 10 2 (by simp [putB_len]) (putB_len _ _), get_put _ _ (by omega)]
  · rw [show fileB x = ([104, 105, 98, 120] ++ (putB x.entry 4 ++ (putB x.text.length 2 ++ putB x.data.length 2))) ++ (putB x.room.toNat 2 ++ (wordsB x.text ++ x.data)) by simp [fileB],
      field_mid _ _ _ 12 2 (by simp [putB_len]) (putB_len _ _), get_put _ _ (by omega)]
    omega
  · rw [show fileB x = [104, 105, 98, 120] ++ (putB x.entry 4 ++ (putB x.text.length 2 ++ (putB x.data.length 2 ++ (putB x.room.toNat 2 ++ (wordsB x.text ++ x.data))))) from rfl,
      field_mid _ _ _ 4 4 rfl (putB_len _ _), get_put _ _ (by omega)]
theorem file_drop14 : (fileB x).drop 14 = wordsB x.text ++ x.data := by
  rw [show fileB x = ([104, 105, 98, 120] ++ (putB x.entry 4 ++ (putB x.text.length 2 ++ (putB x.data.length 2 ++ putB x.room.toNat 2)))) ++ (wordsB x.text ++ x.data) by simp [fileB]]
  rw [List.drop_left' (by simp [putB_len])]
include hw in
theorem file_word (i : Nat) (h : i < x.text.length) : fieldN (fileB x) (14 + 4 * i) 4 = x.text[i] := by
  unfold fieldN
  rw [← List.drop_drop, file_drop14, wordsB_at x.text i h, get_put _ _ (by have := hw _ (List.getElem_mem h); omega)]
include hc hw in
theorem body_file : bodyE (fileB x) = x := by
  obtain ⟨h1, h2, h3, h4⟩ := file_fields x hc
  unfold bodyE
  rw [h1, h3, h4, ← List.drop_drop, file_drop14, List.drop_left' (by rw [wordsB_len])]
  have : (List.range x.text.length).map (fun i => fieldN (fileB x) (14 + 4 * i) 4) = x.text := by
    apply List.ext_getElem (by simp)
    intro i h1 h2
    simp only [List.getElem_map, List.getElem_range]
    exact file_word x hw i h2
  rw [this]
theorem head_take (r : List UInt8) (k : Nat) : headBad ((magicB ++ r).take k) = false := by
  unfold headBad
  apply decide_eq_false
  rw [Classical.not_not, List.take_take, Nat.min_eq_left (by rw [List.length_take]; omega)]
  rw [List.take_append_of_le_length (by simp [magicB]; omega)]
theorem head_ok (r : List UInt8) : headBad (magicB ++ r) = false := by
  have := head_take r (magicB ++ r).length
  rwa [List.take_length] at this
include hc in
theorem ofE_more : ofE (fileB x ++ [120]) = 3 := by
  obtain ⟨h1, h2, h3, h4⟩ := file_fields x hc
  have hl := fileB_len x
  unfold ofE
  rw [field_more _ _ _ _ (by omega), field_more _ _ _ _ (by omega), h1, h2]
  have hh : headBad (fileB x ++ [120]) = false := by
    rw [show fileB x ++ [120] = magicB ++ ((putB x.entry 4 ++ (putB x.text.length 2 ++ (putB x.data.length 2 ++ (putB x.room.toNat 2 ++ (wordsB x.text ++ x.data))))) ++ [120]) by simp [fileB, magicB]]
    exact head_ok _
  rw [hh, if_neg (by simp), if_neg (by simp; omega), if_neg (by simp; omega), if_pos (by simp; omega)]
include hc in
theorem ofE_cut (k : Nat) (hk : k < (fileB x).length) : ofE ((fileB x).take k) = 4 := by
  obtain ⟨h1, h2, h3, h4⟩ := file_fields x hc
  have hl := fileB_len x
  have hkl : ((fileB x).take k).length = k := by rw [List.length_take]; omega
  unfold ofE
  have hh : headBad ((fileB x).take k) = false := by
    rw [show fileB x = magicB ++ (putB x.entry 4 ++ (putB x.text.length 2 ++ (putB x.data.length 2 ++ (putB x.room.toNat 2 ++ (wordsB x.text ++ x.data))))) by simp [fileB, magicB]]
    exact head_take _ _
  rw [hh, hkl, if_neg (by simp)]
  by_cases h14 : k < 14
  · rw [if_pos h14]
  · rw [if_neg h14, field_take _ _ _ _ (by omega), field_take _ _ _ _ (by omega), h1, h2, if_pos (by omega)]
include hc hw in
theorem ofE_file : ofE (fileB x) = 0 := by
  obtain ⟨h1, h2, h3, h4⟩ := file_fields x hc
  have hl := fileB_len x
  unfold ofE
  have hh : headBad (fileB x) = false := by
    rw [show fileB x = magicB ++ (putB x.entry 4 ++ (putB x.text.length 2 ++ (putB x.data.length 2 ++ (putB x.room.toNat 2 ++ (wordsB x.text ++ x.data))))) by simp [fileB, magicB]]
    exact head_ok _
  rw [hh, h1, h2, body_file x hc hw, if_neg (by simp), if_neg (by omega), if_neg (by omega), if_neg (by omega), if_pos (by simp [chk, hc])]
end

theorem cut_step (b : List UInt8) (a s : Nat) : (b.drop a).take s ++ b.drop (a + s) = b.drop a := by
  rw [← List.drop_drop, List.take_append_drop]
theorem put_field (b : List UInt8) (a s : Nat) (h : a + s ≤ b.length) : putB (fieldN b a s) s = (b.drop a).take s := by
  have := putB_getN ((b.drop a).take s)
  rw [List.length_take, List.length_drop, Nat.min_eq_left (by omega)] at this
  exact this
theorem words_of (b : List UInt8) : ∀ c, 14 + 4 * c ≤ b.length → wordsB ((List.range c).map (fun i => fieldN b (14 + 4 * i) 4)) = (b.drop 14).take (4 * c)
  | 0, _ => by simp [wordsB]
  | c + 1, h => by
    rw [List.range_succ, List.map_append, List.map_cons, List.map_nil, wordsB_snoc, words_of b c (by omega), put_field b _ 4 (by omega), ← List.drop_drop, show 4 * (c + 1) = 4 * c + 4 by omega, List.take_add]
theorem ofE_ok {b : List UInt8} (h : ofE b = 0) : headBad b = false ∧ 14 ≤ b.length ∧ b.length = 14 + 4 * fieldN b 8 2 + fieldN b 10 2 ∧ chk (bodyE b) = 0 := by
  unfold ofE at h
  cases hh : headBad b
  · simp only [hh, Bool.false_eq_true, if_false] at h
    split at h
    · omega
    split at h
    · omega
    split at h
    · omega
    split at h
    · next h1 h2 h3 h4 => exact ⟨rfl, by omega, by omega, h4⟩
    · omega
  · simp [hh] at h
theorem file_body {b : List UInt8} (h : ofE b = 0) : fileB (bodyE b) = b := by
  obtain ⟨h1, h2, h3, h4⟩ := ofE_ok h
  have hm : b.take 4 = [104, 105, 98, 120] := by
    have := of_decide_eq_false h1
    rw [Classical.not_not, Nat.min_eq_right (by omega)] at this
    exact this
  have hd : (b.drop (14 + 4 * fieldN b 8 2)).length = fieldN b 10 2 := by rw [List.length_drop]; omega
  unfold fileB bodyE
  simp only [List.length_map, List.length_range, hd, Int.toNat_natCast]
  rw [words_of b _ (by omega), put_field b 4 4 (by omega), put_field b 8 2 (by omega), put_field b 10 2 (by omega), put_field b 12 2 (by omega), ← hm, cut_step b 14, cut_step b 12 2, cut_step b 10 2, cut_step b 8 2, cut_step b 4 4]
  exact List.take_append_drop 4 b
theorem ofX_text_lt (b : List UInt8) : ∀ y ∈ (ofX b).text, y < 4294967296 := by
  unfold ofX
  split
  · intro y hy
    obtain ⟨i, _, rfl⟩ := List.mem_map.1 hy
    exact fieldN_4 _ _
  · intro y hy; cases hy
end Go.Proofs.Ytplhmhclcfclhaa.Pl
