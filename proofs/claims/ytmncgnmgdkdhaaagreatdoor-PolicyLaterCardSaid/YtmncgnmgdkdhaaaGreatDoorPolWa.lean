/- The walk of the document's Keep. -/
import Derived.Test.YtmncgnmgdkdhaaaGreatDoorPolW9
import Derived.Test.YtmncgnmgdkdhaaaGreatDoorPolW8
namespace Go.Proofs.YtmncgnmgdkdhaaaGreatDoor
open Go.RowKit
set_option linter.unusedVariables false
set_option linter.unusedSimpArgs false
/-- A row of bools, wherever it lies. -/
def KeepV (n : Nat) (K : List Bool) (v : Value) (w' : World) : Prop := ∃ A c, v = .slice A n c ∧ Rd w' 1 A n (bools K)
theorem KeepOut.v {B n : Nat} {K : List Bool} {v : Value} {w' : World} (h : KeepOut B n K v w') (hK : K.length = n) : KeepV n K v w' := by
  obtain ⟨bk, rfl, hB, hk⟩ := h
  refine ⟨_, _, rfl, by rw [bools_len, hK, Nat.mul_one], fun _ => ⟨bk, 0, rfl, blk_lt hk, fun j hj => ?_⟩⟩
  rw [Nat.zero_add, cell_row w' bk j _ _ hk]; simp
def keepF (p : Pl.Pol) (l : List Pl.Rf) (now : Int) (x : Pl.Rf) : Bool := decide (Pl.polE p ≠ 0) || Pl.keptAny p l x || decide (now < x.til)
theorem keepD_map (p : Pl.Pol) (l : List Pl.Rf) (now : Int) : Pl.keepD p l now = l.map (keepF p l now) := rfl
def anyK (p : Pl.Pol) (l : List Pl.Rf) (x : Pl.Rf) : Nat → Bool
  | 0 => false
  | k + 1 => anyK p l x k || Pl.keptD l x k (p.num k)
theorem keepF_any (p : Pl.Pol) (l : List Pl.Rf) (now : Int) (x : Pl.Rf) : ((decide (Pl.polE p ≠ 0) || decide (now < x.til)) || anyK p l x 4) = keepF p l now x := by
  unfold keepF Pl.keptAny
  show (_ || ((((false || Pl.keptD l x 0 p.d) || Pl.keptD l x 1 p.w) || Pl.keptD l x 2 p.mo) || Pl.keptD l x 3 p.y)) = _
  generalize Pl.keptD l x 0 p.d = a
  generalize Pl.keptD l x 1 p.w = b
  generalize Pl.keptD l x 2 p.mo = c
  generalize Pl.keptD l x 3 p.y = d
  generalize decide (Pl.polE p ≠ 0) = e
  generalize decide (now < x.til) = f
  revert a b c d e f
  decide
structure RkR (p : Pl.Pol) (l : List Pl.Rf) (now : Int) (w : World) (j : Nat) (v : Value) (wr : World) : Prop where
  pol : wr.heap[w.heap.size]? = some (.cells #[.int .i64 p.d, .int .i64 p.w, .int .i64 p.mo, .int .i64 p.y] 23 (0, 0))
  own : wr.ownsRow (w.heap.size + 1) 4 1 v j (bools ((l.take j).map (keepF p l now)))
  bel : Below w.heap.size w wr
theorem RkR.below {p : Pl.Pol} {l : List Pl.Rf} {now : Int} {w : World} {j : Nat} {v : Value} {wr w1 : World} (h : RkR p l now w j v wr) (hb : Below wr.heap.size wr w1) : RkR p l now w j v w1 :=
  ⟨(hb.block _ (blk_lt h.pol)).trans h.pol, own_below h.own hb, h.bel.trans (hb.mono h.bel.size)⟩
theorem RkR.next {p : Pl.Pol} {l : List Pl.Rf} {now : Int} {w : World} {j : Nat} {v v2 : Value} {wr w2 : World} (h : RkR p l now w j v wr) (hj : j < l.length) {y : Pl.Rf} (hy : l.getD j default = y) (hown : w2.ownsRow (w.heap.size + 1) 4 1 v2 (j + 1) (bools ((l.take j).map (keepF p l now)) ++ [.bool (keepF p l now y)])) (hb : Below (w.heap.size + 1) wr w2) : RkR p l now w (j + 1) v2 w2 := by
  refine ⟨(hb.block _ (Nat.lt_succ_self _)).trans h.pol, ?_, h.bel.trans (hb.mono (Nat.le_succ _))⟩
  have e : l.take (j + 1) = l.take j ++ [y] := by
    rw [List.take_succ_eq_append_getElem hj, ← hy, List.getD_eq_getElem?_getD, List.getElem?_eq_getElem hj]; rfl
  rw [e, List.map_append]
  simpa [bools] using hown
def RkP (p : Pl.Pol) (l : List Pl.Rf) (now : Int) (n : Nat) (w : World) (v i : Value) (wr : World) : Prop := ∃ j : Nat, i = .int .i64 j ∧ j ≤ n ∧ RkR p l now w j v wr
def RnP (p : Pl.Pol) (l : List Pl.Rf) (now : Int) (x : Pl.Rf) (w w0 : World) (j : Nat) (v : Value) (m i : Value) (wr : World) : Prop := ∃ k : Nat, i = .int .i64 k ∧ k ≤ 4 ∧ m = .bool ((decide (Pl.polE p ≠ 0) || decide (now < x.til)) || anyK p l x k) ∧ RkR p l now w j v wr ∧ Below w0.heap.size w0 wr
end Go.Proofs.YtmncgnmgdkdhaaaGreatDoor
