/- Plain Lean: what stands in a program's pages. No program in sight. -/
import Derived.Test.YtplhmhclcfclhaaLayPlain
namespace Go.Proofs.Ytplhmhclcfclhaa.Pl

def textOf (L : List Lay) : List UInt8 := L.flatMap fun l => if l.write then [] else l.data
def dataOf (L : List Lay) : List UInt8 := L.flatMap fun l => if l.write then l.data else []

theorem chunks (u : List UInt8) : ∀ p, 128 * p ≤ u.length → (List.range p).flatMap (fun i => (u.drop (128 * i)).take 128) = u.take (128 * p)
  | 0, _ => by simp
  | p + 1, h => by
    rw [List.range_succ, List.flatMap_append, chunks u p (by omega)]
    simp only [List.flatMap_cons, List.flatMap_nil, List.append_nil]
    rw [show 128 * (p + 1) = 128 * p + 128 by omega, List.take_add]
theorem pages_flat (s : List UInt8) (p : Nat) (h : s.length ≤ 128 * p) : (List.range p).flatMap (fun i => pageAt s i) = s ++ zs (128 * p - s.length) := by
  have hl : (s ++ zs (128 * p - s.length)).length = 128 * p := by rw [List.length_append, zs_len]; omega
  have h1 := chunks (s ++ zs (128 * p - s.length)) p (by omega)
  rw [List.take_of_length_le (by omega)] at h1
  rw [← h1]
  rw [List.flatMap_def, List.flatMap_def]
  congr 1
  apply List.map_congr_left
  intro i hi
  rw [pad_page s (128 * p) i h (by have := List.mem_range.1 hi; omega)]
theorem lays_eq (x : Exe) : lays x = (List.range (pgs (4 * x.text.length))).map (fun i => ⟨(i : Int), pageAt (wordsB x.text) i, false⟩) ++ ((List.range (pgs (x.data.length + x.room.toNat))).map (fun i => ⟨((pgs (4 * x.text.length) + i : Nat) : Int), pageAt x.data i, true⟩) ++ [⟨15, zs 128, true⟩]) := by
  unfold lays
  rw [spread_eq (pgs (x.data.length + x.room.toNat)), spread_len, spread_eq]
  simp
theorem textOf_lays (x : Exe) : textOf (lays x) = wordsB x.text ++ zs (128 * pgs (4 * x.text.length) - 4 * x.text.length) := by
  have h := pages_flat (wordsB x.text) (pgs (4 * x.text.length)) (by rw [wordsB_len]; unfold pgs; omega)
  rw [wordsB_len] at h
  rw [← h, lays_eq]
  simp [textOf, List.flatMap_append, List.flatMap_map]
theorem dataOf_lays (x : Exe) : dataOf (lays x) = x.data ++ (zs (128 * pgs (x.data.length + x.room.toNat) - x.data.length) ++ zs 128) := by
  have h := pages_flat x.data (pgs (x.data.length + x.room.toNat)) (by unfold pgs; omega)
  rw [← List.append_assoc, ← h, lays_eq]
  simp [dataOf, List.flatMap_append, List.flatMap_map]
theorem textOf_take (L : List Lay) (j : Nat) (h : j < L.length) : textOf (L.take (j + 1)) = textOf (L.take j) ++ (if L[j].write then [] else L[j].data) := by
  unfold textOf; rw [List.take_succ_eq_append_getElem h, List.flatMap_append]; simp only [List.flatMap_cons, List.flatMap_nil, List.append_nil]
theorem dataOf_take (L : List Lay) (j : Nat) (h : j < L.length) : dataOf (L.take (j + 1)) = dataOf (L.take j) ++ (if L[j].write then L[j].data else []) := by
  unfold dataOf; rw [List.take_succ_eq_append_getElem h, List.flatMap_append]; simp only [List.flatMap_cons, List.flatMap_nil, List.append_nil]
theorem pageAt_len (s : List UInt8) (i : Nat) : (pageAt s i).length = 128 := padP_len _ (by rw [List.length_take]; omega)
theorem lays_len (x : Exe) : (lays x).length = pgs (4 * x.text.length) + pgs (x.data.length + x.room.toNat) + 1 := by rw [lays_eq]; simp; omega
/-- Each page has 128 bytes. -/
theorem lays_page (x : Exe) : ∀ l ∈ lays x, l.data.length = 128 := by
  intro l hl
  rw [lays_eq] at hl
  simp only [List.mem_append, List.mem_map, List.mem_singleton] at hl
  rcases hl with ⟨i, _, rfl⟩ | ⟨i, _, rfl⟩ | rfl
  · exact pageAt_len _ _
  · exact pageAt_len _ _
  · exact zs_len _
/-- A page's number. -/
theorem lays_at (x : Exe) (i : Nat) (h : i < (lays x).length) : (lays x)[i].at_ = if i < pgs (4 * x.text.length) + pgs (x.data.length + x.room.toNat) then (i : Int) else 15 := by
  simp only [lays_eq] at h ⊢
  by_cases h1 : i < pgs (4 * x.text.length)
  · rw [List.getElem_append_left (by simpa using h1), if_pos (by omega)]; simp
  · rw [List.getElem_append_right (by simpa using h1)]
    simp only [List.length_map, List.length_range]
    by_cases h2 : i - pgs (4 * x.text.length) < pgs (x.data.length + x.room.toNat)
    · rw [List.getElem_append_left (by simpa using h2), if_pos (by omega)]; simp; omega
    · rw [List.getElem_append_right (by simpa using h2), if_neg (by omega)]
      simp at h
      have : i - pgs (4 * x.text.length) - pgs (x.data.length + x.room.toNat) = 0 := by omega
      simp [this]
theorem wordsB_at : ∀ (t : List Nat) (i : Nat) (h : i < t.length) (s : List UInt8), ((wordsB t ++ s).drop (4 * i)).take 4 = putB t[i] 4
  | w :: t, 0, _, s => by
    simp only [Nat.mul_zero, List.drop_zero, wordsB, List.append_assoc, List.getElem_cons_zero]
    rw [List.take_append_of_le_length (by rw [putB_len]; omega), List.take_of_length_le (by rw [putB_len]; omega)]
  | w :: t, i + 1, h, s => by
    have e : (wordsB (w :: t) ++ s).drop (4 * (i + 1)) = (wordsB t ++ s).drop (4 * i) := by
      rw [wordsB, List.append_assoc, List.drop_append, List.drop_eq_nil_of_le (by rw [putB_len]; omega), putB_len]
      simp; congr 1
    rw [e, wordsB_at t i (by simpa using h) s]; simp
theorem getN_word (w : Nat) (h : w < 4294967296) : getN ((putB w 4).take 8) = w := by
  rw [List.take_of_length_le (by rw [putB_len]; omega), getN_putB]
  exact Nat.mod_eq_of_lt (by simpa using h)
theorem zs_get (n i : Nat) (h : i < (zs n).length) : (zs n)[i] = 0 := by simp [zs]
theorem mem_at {α : Type} (L : List α) (P : α → Prop) (h : ∀ l ∈ L, P l) (i : Nat) (hi : i < L.length) : P L[i] := h _ (List.getElem_mem hi)
theorem textOf_le (L : List Lay) (h : ∀ l ∈ L, l.data.length = 128) : (textOf L).length ≤ 128 * L.length := by
  induction L with
  | nil => simp [textOf]
  | cons l L ih =>
    have := ih (fun y hy => h y (List.mem_cons_of_mem _ hy))
    have h1 := h l List.mem_cons_self
    simp only [textOf, List.flatMap_cons, List.length_append, List.length_cons] at this ⊢
    split <;> first | omega | (simp only [List.length_nil]; omega)
theorem dataOf_le (L : List Lay) (h : ∀ l ∈ L, l.data.length = 128) : (dataOf L).length ≤ 128 * L.length := by
  induction L with
  | nil => simp [dataOf]
  | cons l L ih =>
    have := ih (fun y hy => h y (List.mem_cons_of_mem _ hy))
    have h1 := h l List.mem_cons_self
    simp only [dataOf, List.flatMap_cons, List.length_append, List.length_cons] at this ⊢
    split <;> first | omega | (simp only [List.length_nil]; omega)
theorem take_le (L : List Lay) (h : ∀ l ∈ L, l.data.length = 128) (j : Nat) (hj : j ≤ L.length) : (textOf (L.take j)).length ≤ 128 * j ∧ (dataOf (L.take j)).length ≤ 128 * j := by
  have h' : ∀ l ∈ L.take j, l.data.length = 128 := fun l hl => h l (List.mem_of_mem_take hl)
  have a := textOf_le _ h'
  have b := dataOf_le _ h'
  rw [List.length_take, Nat.min_eq_left hj] at a b
  exact ⟨a, b⟩
/-- What the pages of a good program hold. -/
structure PagesOk (x : Exe) (L : List Lay) : Prop where
  len : L.length ≤ 15
  page : ∀ l ∈ L, l.data.length = 128
  up : ∀ (i j : Nat) (hi : i < L.length) (hj : j < L.length), i < j → L[i].at_ < L[j].at_
  t1 : 4 * x.text.length ≤ (textOf L).length
  t2 : (textOf L).length < 4 * x.text.length + 128
  d1 : (x.data.length : Int) + x.room + 128 ≤ ((dataOf L).length : Int)
  word : ∀ (i : Nat) (h : i < x.text.length), ((textOf L).drop (4 * i)).take 4 = putB x.text[i] 4
  data : (dataOf L).take x.data.length = x.data
  rest : ∀ (i : Nat) (h : i < ((textOf L).drop (4 * x.text.length) ++ (dataOf L).drop x.data.length).length), ((textOf L).drop (4 * x.text.length) ++ (dataOf L).drop x.data.length)[i] = 0
theorem pagesOk (x : Exe) (h0 : 0 ≤ x.room) (hp : pgs (4 * x.text.length) + pgs (x.data.length + x.room.toNat) ≤ 14) : PagesOk x (lays x) where
  len := by rw [lays_len]; omega
  page := lays_page x
  up i j hi hj hij := by
    rw [lays_at x i hi, lays_at x j hj]
    rw [lays_len] at hi hj
    split <;> split <;> omega
  t1 := by rw [textOf_lays, List.length_append, wordsB_len]; omega
  t2 := by rw [textOf_lays, List.length_append, wordsB_len, zs_len]; unfold pgs; omega
  d1 := by rw [dataOf_lays, List.length_append, List.length_append, zs_len, zs_len]; unfold pgs; omega
  word i h := by rw [textOf_lays, wordsB_at x.text i h]
  data := by rw [dataOf_lays, List.take_append_of_le_length (Nat.le_refl _), List.take_length]
  rest := by
    have e : (textOf (lays x)).drop (4 * x.text.length) ++ (dataOf (lays x)).drop x.data.length = zs ((128 * pgs (4 * x.text.length) - 4 * x.text.length) + ((128 * pgs (x.data.length + x.room.toNat) - x.data.length) + 128)) := by
      rw [textOf_lays, dataOf_lays, show 4 * x.text.length = (wordsB x.text).length by rw [wordsB_len], List.drop_left, List.drop_left]
      simp [zs, ← List.replicate_append_replicate]
    rw [e]
    exact fun i h => zs_get _ i h
end Go.Proofs.Ytplhmhclcfclhaa.Pl
