/- The walk of the closure of manifest's Of: a number, and whether all were numbers. -/
import Derived.Test.YtadoplgmeoghmaaDoorDecW
import Derived.Test.YtadoplgmeoghmaaDoorMfPl2
import Derived.Test.YtadoplgmeoghmaaDoorBase
namespace Go.Proofs.YtadoplgmeoghmaaDoor
open Go.RowKit
set_option linter.unusedVariables false
set_option linter.unusedSimpArgs false
attribute [local go_sem] ba_get ba_cut ba_add
def boolAt (w : World) (H : Nat) (q : Bool) : Prop := w.heap[H]? = some (.cells #[.bool q] 4 (0, 0))
theorem VNum.keep {w w' : World} (h : VNum w) {B : Nat} (hb : Below B w w') (hB : w.heap.size ≤ B) : VNum w' := h.below (hb.mono hB)
set_option maxRecDepth 100000 in
set_option maxHeartbeats 1000000 in
theorem of1_any (s : List UInt8) (q : Bool) (H : Nat) (w0 w : World) (hs : s.length ≤ 1099511627776) (hR : boolAt w H q) (hv : VNum w0) (hb : Below w0.heap.size w0 w) (hH : w0.heap.size ≤ H) :
    Calls Tryd.prog 65 #[.string ⟨s.toArray⟩, .pointer (some ⟨H, 0, none⟩)] w fun e w' => e = .returned (.int .i64 (Pl.num0 s)) ∧ boolAt w' H (q && (Pl.intQ s).isSome) ∧ Below H w w' ∧ (∀ g, g ≠ H → g < w.heap.size → w'.heap[g]? = w.heap[g]?) := by
  have hint := int_any s w hs (hv.below hb)
  obtain ⟨o, ho⟩ : ∃ o, Pl.intQ s = o := ⟨_, rfl⟩
  have HN := Lib.hid (show Pl.num0 s = o.getD 0 by unfold Pl.num0; rw [ho])
  rw [ho] at hint ⊢
  unfold intV at hint
  have HI := Lib.hid hint; clear hint ho
  have hHw : H < w.heap.size := blk_lt hR
  go_enter Tryd.func65, Tryd.ntmps65
  go_wp2_with fail
  (with_reducible refine HI.out.mono ?_)
  rintro e w1 ⟨v, rfl, rfl, hb1⟩
  have hR1 : boolAt w1 H q := (hb1.block H hHw).trans hR
  have hc : w1.cell? ⟨H, 0, none⟩ = some (.bool q) := by rw [cell_row w1 H 0 _ _ hR1]; rfl
  have hf : w1.frozen? ⟨H, 0, none⟩ = false := frozen_of w1 H 0 _ _ hR1
  obtain ⟨x, hx⟩ : ∃ x, o.getD 0 = x := ⟨_, rfl⟩
  obtain ⟨y, hy⟩ : ∃ y, o.isSome = y := ⟨_, rfl⟩
  rw [hx, hy]
  have HX := Lib.hid hx; have HY := Lib.hid hy; clear hx hy
  cases q <;> cases y <;> go_wp2_with fail
  all_goals (
    go_ret
    refine ⟨by rw [HN.out, HX.out]; rfl, ?_, (hb1.mono (Nat.le_of_lt hHw)).setCell (p := ⟨H, 0, none⟩) (Nat.le_refl _) _, fun g hg hgs => (Below.heap_setCell _ _ _ _ (by exact hg)).trans (hb1.block g hgs)⟩
    rw [HY.out]
    first
      | exact set_at w1 H 0 _ (.bool false) _ hR1
      | exact set_at w1 H 0 _ (.bool true) _ hR1)
end Go.Proofs.YtadoplgmeoghmaaDoor
