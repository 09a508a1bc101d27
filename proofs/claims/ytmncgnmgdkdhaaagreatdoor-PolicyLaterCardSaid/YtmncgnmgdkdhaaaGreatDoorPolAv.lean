/- Law 49's policyAlive: the chapter's example. -/
import Derived.Test.YtmncgnmgdkdhaaaGreatDoorPolKp
import Derived.Test.YtmncgnmgdkdhaaaGreatDoorPolRw
import Derived.Test.YtmncgnmgdkdhaaaGreatDoorPolOf
namespace Go.Proofs.YtmncgnmgdkdhaaaGreatDoor
open Go.RowKit
set_option linter.unusedVariables false
set_option linter.unusedSimpArgs false
def avL : List Pl.Rf := [⟨[], 1, 5000, [], 0⟩, ⟨[], 2, 5100, [], 0⟩, ⟨[], 3, 6000, [], 0⟩, ⟨[], 4, 10000, [], 0⟩]
def avP : Pl.Pol := ⟨2, 0, 0, 0⟩
theorem av_keep : Pl.keepD avP avL 0 = [false, false, true, true] := by
  unfold Pl.keepD Pl.keptAny
  show avL.map (fun x => (decide (Pl.polE avP ≠ 0) || (Pl.keptD avL x 0 2 || Pl.keptD avL x 1 0 || Pl.keptD avL x 2 0 || Pl.keptD avL x 3 0)) || decide (0 < x.til)) = _
  simp only [Pl.kept_zero]
  decide
def avT : List UInt8 := [55, 100, 32, 48, 119, 32, 48, 109, 32, 48, 121]
theorem av_of : Pl.ofW avT = some ⟨7, 0, 0, 0⟩ := (Pl.ofW_iff _ _).2 ⟨by decide, by simp [Pl.polT, Lib.itoa, Lib.decDigits, avT]⟩
theorem av_chk : Pl.polE avP = 0 := by decide
theorem av_chk0 : Pl.polE ⟨0, 0, 0, 0⟩ = 1 := by decide
set_option maxRecDepth 100000 in
set_option maxHeartbeats 4000000 in
theorem alive_any (w : World) (hv : VPol w) : Calls Tryz.prog 10 #[] w (RetB (fun v _ => v = .bool true) w) := by
  have hkeep := fun A c W (h : Rd W 5 A 4 (rfCs avL)) => keep_any avP A 4 c avL 0 W rfl (by decide) h (by decide)
  rw [av_keep] at hkeep
  have hof := fun W h => of_any avT W (by decide) h
  rw [av_of] at hof
  have hck := fun W => pcheck_any avP W
  rw [av_chk] at hck
  have hck0 := fun W => pcheck_any ⟨0, 0, 0, 0⟩ W
  rw [av_chk0] at hck0
  have e0 : polV ⟨0, 0, 0, 0⟩ = .agg #[.int .i64 0, .int .i64 0, .int .i64 0, .int .i64 0] := rfl
  have e1 : polV avP = .agg #[.int .i64 2, .int .i64 0, .int .i64 0, .int .i64 0] := rfl
  have e2 : polO (some ⟨7, 0, 0, 0⟩) = .tuple #[.agg #[.int .i64 7, .int .i64 0, .int .i64 0, .int .i64 0], .int .i64 0] := rfl
  rw [e0] at hck0
  rw [e1] at hck
  simp only [e1] at hkeep
  simp only [e2] at hof
  have HH := Lib.hid (And.intro hkeep (And.intro hof (And.intro hck (And.intro hck0 hv)))); clear hkeep hof hck hck0 hv e0 e1 e2
  go_enter Tryz.func10, Tryz.ntmps10
  go_wp2_with fail
  generalize hW : World.alloc (World.alloc w _) _ = W
  have hbW : Below w.heap.size w W := by rw [← hW]; exact ((Below.refl _ _).alloc (Nat.le_refl _) _).alloc (by simp) _
  have hp : W.heap[w.heap.size]? = some (.cells #[.int .i64 2, .int .i64 0, .int .i64 0, .int .i64 0] 23 (0, 0)) := by rw [← hW]; exact (Below.heap_alloc _ _ _ (by simp)).trans (heap_alloc_new w _)
  have hx : W.heap[w.heap.size + 1]? = some (.cells (rfCs avL).toArray 39 (0, 0)) := by rw [← hW]; exact heap_alloc_2 w _ _
  clear hW
  have hr : Rd W 5 (some ⟨w.heap.size + 1, 0, none⟩) 4 (rfCs avL) := ⟨rfl, fun _ => ⟨_, 0, rfl, blk_lt hx, fun j hj => by rw [Nat.zero_add, cell_row W _ j _ _ hx]; simp⟩⟩
  refine (HH.out.1 _ _ W hr).mono ?_
  rintro e w1 ⟨v, rfl, ⟨bk, rfl, hbk, hk⟩, hb1⟩
  have hp1 := (hb1.block _ (blk_lt hp)).trans hp
  have hbw1 := hbW.trans (hb1.mono hbW.size)
  have hv1 := VPol.keep HH.out.2.2.2.2 hbw1 (Nat.le_refl _)
  clear hr hx hp hb1 hbW hbk
  go_wp2_with fail
  refine (HH.out.2.1 _ hv1).mono ?_
  rintro e w2 ⟨v, rfl, rfl, hb2⟩
  have hp2 := (hb2.block _ (blk_lt hp1)).trans hp1
  have hk2 := (hb2.block _ (blk_lt hk)).trans hk
  have hbw2 := hbw1.trans (hb2.mono hbw1.size)
  clear hp1 hk hb2 hbw1 hv1
  go_upto_region 4 with (fail)
  generalize hW3 : World.alloc w2 _ = W3
  have hq3 : W3.heap[w2.heap.size]? = some (.cells #[.int .i64 7, .int .i64 0, .int .i64 0, .int .i64 0] 23 (0, 0)) := by rw [← hW3]; exact heap_alloc_new w2 _
  have hb3 : Below w2.heap.size w2 W3 := by rw [← hW3]; exact (Below.refl _ _).alloc (Nat.le_refl _) _
  have hp3 := (hb3.block _ (blk_lt hp2)).trans hp2
  have hk3 := (hb3.block _ (blk_lt hk2)).trans hk2
  have hbw3 := hbw2.trans (hb3.mono hbw2.size)
  clear hW3 hb3 hp2 hk2 hbw2
  generalize w2.heap.size = Bq at hq3 ⊢
  have x0 : W3.cell? ⟨w.heap.size, 0, none⟩ = some (.int .i64 2) := cell_row W3 _ 0 _ _ hp3
  have x1 : W3.cell? ⟨w.heap.size, 1, none⟩ = some (.int .i64 0) := cell_row W3 _ 1 _ _ hp3
  have x2 : W3.cell? ⟨w.heap.size, 2, none⟩ = some (.int .i64 0) := cell_row W3 _ 2 _ _ hp3
  have x3 : W3.cell? ⟨w.heap.size, 3, none⟩ = some (.int .i64 0) := cell_row W3 _ 3 _ _ hp3
  have y0 : W3.cell? ⟨Bq, 0, none⟩ = some (.int .i64 7) := cell_row W3 _ 0 _ _ hq3
  have k0 : W3.cell? ⟨bk, 0, none⟩ = some (.bool false) := cell_row W3 _ 0 _ _ hk3
  have k1 : W3.cell? ⟨bk, 1, none⟩ = some (.bool false) := cell_row W3 _ 1 _ _ hk3
  have k2 : W3.cell? ⟨bk, 2, none⟩ = some (.bool true) := cell_row W3 _ 2 _ _ hk3
  have k3 : W3.cell? ⟨bk, 3, none⟩ = some (.bool true) := cell_row W3 _ 3 _ _ hk3
  clear hp3 hq3 hk3
  go_wp2_with fail
  refine (HH.out.2.2.1 _).mono ?_
  rintro e w4 ⟨v, rfl, rfl, hb4⟩
  clear x0 x1 x2 x3 y0 k0 k1 k2 k3
  go_wp2_with fail
  refine (HH.out.2.2.2.1 _).mono ?_
  rintro e w5 ⟨v, rfl, rfl, hb5⟩
  have hbw5 := (hbw3.trans (hb4.mono hbw3.size))
  have hbw6 := hbw5.trans (hb5.mono hbw5.size)
  clear hb4 hb5 hbw3 hbw5
  go_wp2_with fail
  go_ret
  exact ⟨_, rfl, rfl, hbw6⟩
end Go.Proofs.YtmncgnmgdkdhaaaGreatDoor
