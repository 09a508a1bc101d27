/- The walks of the document's period, later and kept. -/
import Derived.Test.YtmncgnmgdkdhaaaGreatDoorPolMem
import Derived.Test.YtmncgnmgdkdhaaaGreatDoorPolW1
import Derived.Test.YtmncgnmgdkdhaaaGreatDoorDayW7
import Derived.LoopTactic
import Derived.Deep.Cut
namespace Go.Proofs.YtmncgnmgdkdhaaaGreatDoor
open Go.RowKit
set_option linter.unusedVariables false
set_option linter.unusedSimpArgs false
theorem info_i64 : (Tryz.prog.info? 2).map (fun i => (i.zero, i.size, i.bytes)) = some (some (.int .i64 0), 1, 8) := by kernel_rfl
theorem aboveF_snoc (k : Nat) (m : List UInt8) (own : Int) (y : Pl.Rf) : ∀ (l : List Pl.Rf) (a : List Int), Pl.aboveF k m own (l ++ [y]) a = if y.m = m then (if Pl.per k y.t ≤ own ∨ Pl.per k y.t ∈ Pl.aboveF k m own l a then Pl.aboveF k m own l a else Pl.aboveF k m own l a ++ [Pl.per k y.t]) else Pl.aboveF k m own l a
  | [], a => rfl
  | z :: l, a => by
    show Pl.aboveF k m own (z :: (l ++ [y])) a = _
    simp only [Pl.aboveF]
    split
    · split
      · exact aboveF_snoc k m own y l _
      · exact aboveF_snoc k m own y l _
    · exact aboveF_snoc k m own y l _
theorem aboveF_take (k : Nat) (m : List UInt8) (own : Int) (l : List Pl.Rf) (j : Nat) (hj : j < l.length) (y : Pl.Rf) (hy : l.getD j default = y) (a : List Int) (ha : Pl.aboveF k m own (l.take j) [] = a) : Pl.aboveF k m own (l.take (j + 1)) [] = if y.m = m then (if Pl.per k y.t ≤ own ∨ Pl.per k y.t ∈ a then a else a ++ [Pl.per k y.t]) else a := by
  have e : l.take (j + 1) = l.take j ++ [y] := by
    rw [List.take_succ_eq_append_getElem hj, ← hy, List.getD_eq_getElem?_getD, List.getElem?_eq_getElem hj]; rfl
  rw [e, aboveF_snoc, ha]
theorem beaten_take (k : Nat) (l : List Pl.Rf) (x : Pl.Rf) (j : Nat) (hj : j < l.length) (y : Pl.Rf) (hy : l.getD j default = y) : Pl.beaten k (l.take (j + 1)) x = (Pl.beaten k (l.take j) x || (decide (y.m = x.m ∧ Pl.per k y.t = Pl.per k x.t) && Pl.ltr y x)) := by
  have e : l.take (j + 1) = l.take j ++ [y] := by
    rw [List.take_succ_eq_append_getElem hj, ← hy, List.getD_eq_getElem?_getD, List.getElem?_eq_getElem hj]; rfl
  rw [e]; unfold Pl.beaten; rw [List.any_append]; simp
theorem beaten_mono (k : Nat) (l : List Pl.Rf) (x : Pl.Rf) (j : Nat) (h : Pl.beaten k (l.take j) x = true) : Pl.beaten k l x = true := by
  rw [Pl.beaten_iff] at h ⊢
  obtain ⟨y, h1, h2⟩ := h
  exact ⟨y, List.mem_of_mem_take h1, h2⟩
/-- In the document's kept, between two snapshots. -/
structure KeptR (k : Nat) (l : List Pl.Rf) (x : Pl.Rf) (w : World) (j : Nat) (a : List Int) (v : Value) (wr : World) : Prop where
  box : wr.heap[w.heap.size]? = some (.cells (rfC x).toArray 39 (0, 0))
  own : wr.ownsRow (w.heap.size + 1) 2 1 v a.length (i64s a)
  bel : Below w.heap.size w wr
  abv : Pl.aboveF k x.m (Pl.per k x.t) (l.take j) [] = a
  few : a.length ≤ j
  not : Pl.beaten k (l.take j) x = false
theorem KeptR.below {k : Nat} {l : List Pl.Rf} {x : Pl.Rf} {w : World} {j : Nat} {a : List Int} {v : Value} {wr w1 : World} (h : KeptR k l x w j a v wr) (hb : Below wr.heap.size wr w1) : KeptR k l x w j a v w1 :=
  ⟨(hb.block _ (blk_lt h.box)).trans h.box, own_below h.own hb, h.bel.trans (hb.mono h.bel.size), h.abv, h.few, h.not⟩
theorem KeptR.other {k : Nat} {l : List Pl.Rf} {x : Pl.Rf} {w : World} {j : Nat} {a : List Int} {v : Value} {wr : World} (h : KeptR k l x w j a v wr) (hj : j < l.length) {y : Pl.Rf} (hy : l.getD j default = y) (hm : ¬ y.m = x.m) : KeptR k l x w (j + 1) a v wr := by
  refine ⟨h.box, h.own, h.bel, ?_, Nat.le_succ_of_le h.few, ?_⟩
  · rw [aboveF_take k x.m _ l j hj y hy a h.abv, if_neg hm]
  · rw [beaten_take k l x j hj y hy, h.not, decide_eq_false (fun e => hm e.1)]; rfl
theorem KeptR.same {k : Nat} {l : List Pl.Rf} {x : Pl.Rf} {w : World} {j : Nat} {a : List Int} {v : Value} {wr : World} (h : KeptR k l x w j a v wr) (hj : j < l.length) {y : Pl.Rf} (hy : l.getD j default = y) (hm : y.m = x.m) (hb : (decide (Pl.per k y.t = Pl.per k x.t) && Pl.ltr y x) = false) (hp : Pl.per k y.t ≤ Pl.per k x.t ∨ Pl.per k y.t ∈ a) : KeptR k l x w (j + 1) a v wr := by
  refine ⟨h.box, h.own, h.bel, ?_, Nat.le_succ_of_le h.few, ?_⟩
  · rw [aboveF_take k x.m _ l j hj y hy a h.abv, if_pos hm, if_pos hp]
  · rw [beaten_take k l x j hj y hy, h.not]
    simp only [hm, true_and, Bool.false_or]; exact hb
theorem KeptR.more {k : Nat} {l : List Pl.Rf} {x : Pl.Rf} {w : World} {j : Nat} {a : List Int} {v v2 : Value} {wr w2 : World} (h : KeptR k l x w j a v wr) (hj : j < l.length) {y : Pl.Rf} (hy : l.getD j default = y) (hm : y.m = x.m) (hb : (decide (Pl.per k y.t = Pl.per k x.t) && Pl.ltr y x) = false) (hp : ¬ (Pl.per k y.t ≤ Pl.per k x.t ∨ Pl.per k y.t ∈ a))
    (hown : w2.ownsRow (w.heap.size + 1) 2 1 v2 (a.length + 1) (i64s a ++ [.int .i64 (Pl.per k y.t)])) (hb2 : Below (w.heap.size + 1) wr w2) : KeptR k l x w (j + 1) (a ++ [Pl.per k y.t]) v2 w2 := by
  refine ⟨(hb2.block _ (Nat.lt_succ_self _)).trans h.box, by simpa [i64s] using hown, h.bel.trans (hb2.mono (Nat.le_succ _)), ?_, by simp; exact h.few, ?_⟩
  · rw [aboveF_take k x.m _ l j hj y hy a h.abv, if_pos hm, if_neg hp]
  · rw [beaten_take k l x j hj y hy, h.not]
    simp only [hm, true_and, Bool.false_or]; exact hb
theorem KeptR.lost {k : Nat} {l : List Pl.Rf} {x : Pl.Rf} {j : Nat} (hj : j < l.length) {y : Pl.Rf} (hy : l.getD j default = y) (hm : y.m = x.m) (hp : Pl.per k y.t = Pl.per k x.t) (hb : Pl.ltr y x = true) (most : Int) : Pl.keptD l x k most = false := by
  have : Pl.beaten k l x = true := by
    rw [Pl.beaten_iff]
    exact ⟨y, by rw [← hy]; exact Pl.getD_mem l j hj, hm, hp, hb⟩
  unfold Pl.keptD; rw [this]; rfl
def MetP (p own : Int) (a : List Int) (m i : Value) : Prop := ∃ q : Nat, i = .int .i64 q ∧ q ≤ a.length ∧ m = .bool (decide (p ≤ own) || (a.take q).any fun z => z == p)
theorem met_next (p own : Int) (a : List Int) (q : Nat) (hq : q < a.length) (z : Int) (hz : a.getD q 0 = z) : (decide (p ≤ own) || (a.take (q + 1)).any fun z => z == p) = ((decide (p ≤ own) || (a.take q).any fun z => z == p) || (z == p)) := by
  rw [any_take_succ _ _ _ hq, hz, Bool.or_assoc]
theorem met_iff (p own : Int) (a : List Int) : (decide (p ≤ own) || a.any fun z => z == p) = true ↔ (p ≤ own ∨ p ∈ a) := by
  rw [Bool.or_eq_true, decide_eq_true_eq, List.any_eq_true]
  constructor
  · rintro (h | ⟨z, h1, h2⟩)
    · exact .inl h
    · rw [beq_iff_eq] at h2; rw [← h2]; exact .inr h1
  · rintro (h | h)
    · exact .inl h
    · exact .inr ⟨p, h, by simp⟩
theorem own_cell {W : World} {B : Nat} {v : Option Addr} {n c : Nat} {a : List Int} (h : W.ownsRow B 2 1 (.slice v n c) n (i64s a)) (hn : a.length = n) {q : Nat} (hq : q < n) : ∃ b off, v = some ⟨b, off, none⟩ ∧ W.cell? ⟨b, off + q, none⟩ = some (.int .i64 (a.getD q 0)) := by
  obtain ⟨b, off, e, -, hc⟩ := (Rd.own h).at1 hq
  refine ⟨b, off, e, ?_⟩
  rw [hc]
  have h1 : q < a.length := by omega
  simp [i64s, h1]
def KeptP (k n : Nat) (l : List Pl.Rf) (x : Pl.Rf) (w : World) (v i : Value) (wr : World) : Prop := ∃ (j : Nat) (a : List Int), i = .int .i64 j ∧ j ≤ n ∧ KeptR k l x w j a v wr
end Go.Proofs.YtmncgnmgdkdhaaaGreatDoor
