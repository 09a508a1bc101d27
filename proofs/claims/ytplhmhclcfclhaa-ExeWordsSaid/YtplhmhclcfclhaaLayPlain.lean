/- Plain Lean: the pages that a program begins with. No program in sight. -/
import Derived.Test.YtplhmhclcfclhaaExePlain
namespace Go.Proofs.Ytplhmhclcfclhaa.Pl

/-- A page: its number, its bytes, whether it may be written. -/
structure Lay where
  at_ : Int
  data : List UInt8
  write : Bool

def zs (n : Nat) : List UInt8 := List.replicate n 0
theorem zs_len (n : Nat) : (zs n).length = n := by simp [zs]
/-- Bytes, filled up to a page. -/
def padP (s : List UInt8) : List UInt8 := s ++ zs (128 - s.length)
/-- So many pages of bytes, behind those that are there. -/
def spread : Nat → List Lay → List UInt8 → Bool → List Lay
  | 0, L, _, _ => L
  | k + 1, L, s, b => spread k (L ++ [⟨L.length, padP (s.take 128), b⟩]) (s.drop 128) b
/-- How many pages so many bytes need. -/
def pgs (n : Nat) : Nat := (n + 127) / 128
theorem pgs_int (n : Nat) : pagesN (n : Int) = ((pgs n : Nat) : Int) := by unfold pagesN pgs; omega
/-- The pages that a program begins with. -/
def lays (x : Exe) : List Lay := spread (pgs (x.data.length + x.room.toNat)) (spread (pgs (4 * x.text.length)) [] (wordsB x.text) false) x.data true ++ [⟨15, zs 128, true⟩]

theorem padP_len (s : List UInt8) (h : s.length ≤ 128) : (padP s).length = 128 := by simp [padP, zs]; omega
theorem spread_len : ∀ (k : Nat) (L : List Lay) (s : List UInt8) (b : Bool), (spread k L s b).length = L.length + k
  | 0, L, _, _ => rfl
  | k + 1, L, s, b => by rw [spread, spread_len k]; simp; omega
/-- Page i of bytes. -/
def pageAt (s : List UInt8) (i : Nat) : List UInt8 := padP ((s.drop (128 * i)).take 128)
theorem spread_eq : ∀ (k : Nat) (L : List Lay) (s : List UInt8) (b : Bool), spread k L s b = L ++ (List.range k).map fun i => ⟨((L.length + i : Nat) : Int), pageAt s i, b⟩
  | 0, L, s, b => by simp [spread]
  | k + 1, L, s, b => by
    rw [spread, spread_eq k, List.range_succ_eq_map, List.append_assoc]
    congr 1
    simp only [List.map_cons, List.map_map, List.cons_append, List.nil_append]
    congr 1
    apply List.map_congr_left
    intro i _
    simp only [Function.comp, List.length_append, List.length_cons, List.length_nil]
    congr 1
    · congr 1; omega
    · unfold pageAt; rw [List.drop_drop]; congr 3; omega
theorem zs_add (a b : Nat) : zs a ++ zs b = zs (a + b) := by simp [zs]
theorem pad_page (s : List UInt8) (m i : Nat) (hs : s.length ≤ m) (hi : 128 * i + 128 ≤ m) : ((s ++ zs (m - s.length)).drop (128 * i)).take 128 = pageAt s i := by
  unfold pageAt padP
  rw [List.drop_append, List.take_append]
  congr 1
  simp only [zs, List.drop_replicate, List.take_replicate, List.length_take, List.length_drop]
  congr 1
  omega
/-- The reference's pages of bytes, from a number on. -/
def rlay (L : List Lay) (at_ : Nat) (b : List UInt8) (wr : Bool) : List Lay := L ++ (List.range (pgs b.length)).map fun i => ⟨((at_ + i : Nat) : Int), pageAt b i, wr⟩
/-- The same, up to page j. -/
def rlayTo (L : List Lay) (at_ : Nat) (b : List UInt8) (wr : Bool) (j : Nat) : List Lay := L ++ (List.range j).map fun i => ⟨((at_ + i : Nat) : Int), pageAt b i, wr⟩
theorem rlayTo_len (L : List Lay) (at_ : Nat) (b : List UInt8) (wr : Bool) (j : Nat) : (rlayTo L at_ b wr j).length = L.length + j := by simp [rlayTo]
theorem rlayTo_succ (L : List Lay) (at_ : Nat) (b : List UInt8) (wr : Bool) (j : Nat) : rlayTo L at_ b wr (j + 1) = rlayTo L at_ b wr j ++ [⟨((at_ + j : Nat) : Int), pageAt b j, wr⟩] := by simp [rlayTo, List.range_succ]
theorem rlay_text (L : List Lay) (b : List UInt8) (wr : Bool) : rlay L L.length b wr = spread (pgs b.length) L b wr := by rw [spread_eq]; rfl
theorem pageAt_zeros (s : List UInt8) (r i : Nat) (h : 128 * i + 128 ≤ 128 * pgs (s.length + r)) : pageAt (s ++ zs r) i = pageAt s i := by
  have hm : s.length + r ≤ 128 * pgs (s.length + r) := by unfold pgs; omega
  rw [← pad_page (s ++ zs r) (128 * pgs (s.length + r)) i (by simp [zs_len]; omega) h, ← pad_page s (128 * pgs (s.length + r)) i (by omega) h, List.append_assoc, zs_add]
  congr 4
  simp [zs_len]; omega
theorem rlay_data (L : List Lay) (s : List UInt8) (r : Nat) (wr : Bool) : rlay L L.length (s ++ zs r) wr = spread (pgs (s.length + r)) L s wr := by
  rw [spread_eq, rlay]
  have hl : (s ++ zs r).length = s.length + r := by simp [zs_len]
  rw [hl]
  congr 1
  apply List.map_congr_left
  intro i hi
  rw [pageAt_zeros s r i (by have := List.mem_range.1 hi; omega)]
end Go.Proofs.Ytplhmhclcfclhaa.Pl
