/- The walk of day's lengths. A function whose result is one row of cells. -/
import Derived.Test.YtmncgnmgdkdhaaaGreatDoorDayW3
import Derived.Deep.MidRow
import Derived.Deep.Cut
import Derived.Lib.EndianMore
namespace Go.Proofs.YtmncgnmgdkdhaaaGreatDoor
open Go.RowKit
set_option linter.unusedVariables false
set_option linter.unusedSimpArgs false
theorem there_rowd {w : World} {B n : Nat} {C : Array Value} {t : TypeId} (h : w.heap[B]? = some (.cells C t (0, 0))) (hn : n ≤ C.size) : w.there B 0 n := fun j hj =>
  ⟨by rw [cell_row w B (0 + j) C t h, Array.getElem?_eq_getElem (by omega)]; rfl, frozen_of w B _ C t h⟩
theorem range_rowd {w : World} {B : Nat} {C : List Value} {t : TypeId} (h : w.heap[B]? = some (.cells C.toArray t (0, 0))) : w.rangeAt B 0 C := fun j v hv => by
  rw [cell_row w B (0 + j) C.toArray t h]; simpa using hv
theorem results_row {fn : Func} {tmps : Array Value} {w : World} {a B : Nat} {T : TypeId} {cs : List Value} {d : TypeDesc} (hf : fn.results = #[.cell a T]) (ha : tmps[a]?.getD undef = .pointer (some ⟨B, 0, none⟩)) (hc : w.rangeAt B 0 cs) (hu : Tryz.prog.underlying T = some d) (hd : d.isRow = true) (hi : (Tryz.prog.info? T).map (·.size) = some cs.length) :
    (results fn tmps).run Tryz.prog w = .ok (.agg cs.toArray) w := by
  have h := run_loadVar_mid (P := Tryz.prog) w B 0 T cs d hc hu hd hi
  simp [results, hf, ha, asAddr, h, Sem.run_bind]
def Pl.lens (y : Int) : List Int := [31, if Pl.leapY y then 29 else 28, 31, 30, 31, 30, 31, 31, 30, 31, 30, 31]
theorem Pl.lens_len (y : Int) : (Pl.lens y).length = 12 := rfl
theorem Pl.lens_get (y : Int) (i : Nat) (h : i < 12) : (Pl.lens y)[i]? = some (Pl.monthL y i) := by
  match i, h with
  | 0, _ => rfl
  | 1, _ => rfl
  | 2, _ => rfl
  | 3, _ => rfl
  | 4, _ => rfl
  | 5, _ => rfl
  | 6, _ => rfl
  | 7, _ => rfl
  | 8, _ => rfl
  | 9, _ => rfl
  | 10, _ => rfl
  | 11, _ => rfl
theorem info_12 : (Tryz.prog.info? 115).map (·.size) = some 12 := by kernel_rfl
theorem info_L {L : List Value} (h : L.length = 12) : (Tryz.prog.info? 115).map (·.size) = some L.length := by rw [h]; exact info_12
theorem info_La {L : List Value} (h : L.length = 12) : (Tryz.prog.info? 115).map (·.size) = some L.toArray.size := by rw [List.size_toArray, h]; exact info_12
def i64s (l : List Int) : List Value := l.map (Value.int .i64)
theorem i64s_len (l : List Int) : (i64s l).length = l.length := by simp [i64s]
theorem i64s_one (l : List Int) : ∀ v ∈ i64s l, v.oneCell' = true := by
  intro v hv; unfold i64s at hv; obtain ⟨b, -, rfl⟩ := List.mem_map.1 hv; rfl
set_option maxRecDepth 100000 in
theorem lengths_leap (y : Int) (hl : Pl.leapY y = true) (w : World) : Calls Tryz.prog 76 #[.int .i64 y] w (RetB (fun v _ => v = .agg (i64s (Pl.lens y)).toArray) w) := by
  have hc := leap_any y
  rw [hl] at hc
  obtain ⟨L, hL⟩ : ∃ L, L = i64s (Pl.lens y) := ⟨_, rfl⟩
  have hL1 : L = [.int .i64 31, .int .i64 29, .int .i64 31, .int .i64 30, .int .i64 31, .int .i64 30, .int .i64 31, .int .i64 31, .int .i64 30, .int .i64 31, .int .i64 30, .int .i64 31] := by rw [hL]; unfold Pl.lens; rw [hl]; rfl
  have hL2 : L.length = 12 := by rw [hL1]; rfl
  have hL3 : ∀ v ∈ L, v.oneCell' = true := by rw [hL]; exact i64s_one _
  rw [← hL]
  have HL := Lib.hid (And.intro hL2 (And.intro hL3 hL1)); clear hL hL1 hL2 hL3 hl
  go_enter Tryz.func76, Tryz.ntmps76
  go_upto_region 2 with (fail)
  generalize hV : (w.alloc _).alloc _ = V
  have hR : V.heap[w.heap.size]? = some (.cells #[.int .i64 0, .int .i64 0, .int .i64 0, .int .i64 0, .int .i64 0, .int .i64 0, .int .i64 0, .int .i64 0, .int .i64 0, .int .i64 0, .int .i64 0, .int .i64 0] 115 (0, 0)) := by rw [← hV]; exact (Below.heap_alloc _ _ _ (by simp)).trans (heap_alloc_new w _)
  have hD : V.heap[w.heap.size + 1]? = some (.cells #[.int .i64 31, .int .i64 28, .int .i64 31, .int .i64 30, .int .i64 31, .int .i64 30, .int .i64 31, .int .i64 31, .int .i64 30, .int .i64 31, .int .i64 30, .int .i64 31] 115 (0, 0)) := by rw [← hV]; exact heap_alloc_2 w _ _
  have hbV : Below w.heap.size w V := by rw [← hV]; exact ((Below.refl _ _).alloc (Nat.le_refl _) _).alloc (by simp) _
  clear hV
  have hcd : V.cell? ⟨w.heap.size + 1, 1, none⟩ = some (.int .i64 28) := cell_row V _ 1 _ _ hD
  have hfd := frozen_of V (w.heap.size + 1) 1 _ _ hD
  go_wp2_with fail
  refine (hc _).mono ?_
  clear hc
  rintro e w' ⟨rfl, n, rfl⟩
  go_upto_region 4 with (fail)
  have hRW : ((V.drewN n).setCell ⟨w.heap.size + 1, 1, none⟩ (.int .i64 29)).heap[w.heap.size]? = _ := (Below.heap_setCell _ _ _ _ (by simp)).trans hR
  have hDW : ((V.drewN n).setCell ⟨w.heap.size + 1, 1, none⟩ (.int .i64 29)).heap[w.heap.size + 1]? = some (.cells L.toArray 115 (0, 0)) := by rw [HL.out.2.2]; exact (set_at (V.drewN n) _ 1 _ _ _ hD).trans rfl
  have hbW := below_drewN hbV n
  clear hbV hR hD hcd hfd
  have hbW := hbW.trans ((Below.refl _ _).setCell (p := ⟨w.heap.size + 1, 1, none⟩) (Nat.le_succ _) (.int .i64 29))
  generalize ((V.drewN n).setCell ⟨w.heap.size + 1, 1, none⟩ (.int .i64 29)) = W at hRW hDW hbW ⊢
  have hTL : W.there w.heap.size 0 L.length := there_rowd hRW (by rw [HL.out.1]; exact Nat.le_refl _)
  have hTW : W.there w.heap.size 0 L.toArray.size := by rw [List.size_toArray]; exact hTL
  clear hRW
  go_wp2_with (first | (with_reducible refine wpList_load_mid rfl 115 _ rfl (w.heap.size + 1) 0 rfl L _ (range_rowd hDW) Tryz.underlying115 rfl (info_L HL.out.1) ?_) | (with_reducible refine wpList_store_mid rfl 115 _ _ rfl w.heap.size 0 L.toArray rfl rfl (hTW) (info_La HL.out.1) (all_oneCell_toArray HL.out.2.1) ?_))
  refine bodyPost_ret (results_row (cs := L) rfl rfl (World.rangeAt_setCells_same _ _ _ _ hTL) Tryz.underlying115 rfl (info_L HL.out.1)) rfl ?_
  exact ⟨_, rfl, rfl, hbW.trans (Lib.below_setCells_w (Nat.le_refl _) _ _ _)⟩
set_option maxRecDepth 100000 in
theorem lengths_not (y : Int) (hl : Pl.leapY y = false) (w : World) : Calls Tryz.prog 76 #[.int .i64 y] w (RetB (fun v _ => v = .agg (i64s (Pl.lens y)).toArray) w) := by
  have hc := leap_any y
  rw [hl] at hc
  obtain ⟨L, hL⟩ : ∃ L, L = i64s (Pl.lens y) := ⟨_, rfl⟩
  have hL1 : L = [.int .i64 31, .int .i64 28, .int .i64 31, .int .i64 30, .int .i64 31, .int .i64 30, .int .i64 31, .int .i64 31, .int .i64 30, .int .i64 31, .int .i64 30, .int .i64 31] := by rw [hL]; unfold Pl.lens; rw [hl]; rfl
  have hL2 : L.length = 12 := by rw [hL1]; rfl
  have hL3 : ∀ v ∈ L, v.oneCell' = true := by rw [hL]; exact i64s_one _
  rw [← hL]
  have HL := Lib.hid (And.intro hL2 (And.intro hL3 hL1)); clear hL hL1 hL2 hL3 hl
  go_enter Tryz.func76, Tryz.ntmps76
  go_upto_region 2 with (fail)
  generalize hV : (w.alloc _).alloc _ = V
  have hR : V.heap[w.heap.size]? = some (.cells #[.int .i64 0, .int .i64 0, .int .i64 0, .int .i64 0, .int .i64 0, .int .i64 0, .int .i64 0, .int .i64 0, .int .i64 0, .int .i64 0, .int .i64 0, .int .i64 0] 115 (0, 0)) := by rw [← hV]; exact (Below.heap_alloc _ _ _ (by simp)).trans (heap_alloc_new w _)
  have hD : V.heap[w.heap.size + 1]? = some (.cells #[.int .i64 31, .int .i64 28, .int .i64 31, .int .i64 30, .int .i64 31, .int .i64 30, .int .i64 31, .int .i64 31, .int .i64 30, .int .i64 31, .int .i64 30, .int .i64 31] 115 (0, 0)) := by rw [← hV]; exact heap_alloc_2 w _ _
  have hbV : Below w.heap.size w V := by rw [← hV]; exact ((Below.refl _ _).alloc (Nat.le_refl _) _).alloc (by simp) _
  clear hV
  have hcd : V.cell? ⟨w.heap.size + 1, 1, none⟩ = some (.int .i64 28) := cell_row V _ 1 _ _ hD
  have hfd := frozen_of V (w.heap.size + 1) 1 _ _ hD
  go_wp2_with fail
  refine (hc _).mono ?_
  clear hc
  rintro e w' ⟨rfl, n, rfl⟩
  go_upto_region 4 with (fail)
  have hRW : (V.drewN n).heap[w.heap.size]? = _ := hR
  have hDW : (V.drewN n).heap[w.heap.size + 1]? = some (.cells L.toArray 115 (0, 0)) := by rw [HL.out.2.2]; exact hD
  have hbW := below_drewN hbV n
  clear hbV hR hD hcd hfd
  generalize V.drewN n = W at hRW hDW hbW ⊢
  have hTL : W.there w.heap.size 0 L.length := there_rowd hRW (by rw [HL.out.1]; exact Nat.le_refl _)
  have hTW : W.there w.heap.size 0 L.toArray.size := by rw [List.size_toArray]; exact hTL
  clear hRW
  go_wp2_with (first | (with_reducible refine wpList_load_mid rfl 115 _ rfl (w.heap.size + 1) 0 rfl L _ (range_rowd hDW) Tryz.underlying115 rfl (info_L HL.out.1) ?_) | (with_reducible refine wpList_store_mid rfl 115 _ _ rfl w.heap.size 0 L.toArray rfl rfl (hTW) (info_La HL.out.1) (all_oneCell_toArray HL.out.2.1) ?_))
  refine bodyPost_ret (results_row (cs := L) rfl rfl (World.rangeAt_setCells_same _ _ _ _ hTL) Tryz.underlying115 rfl (info_L HL.out.1)) rfl ?_
  exact ⟨_, rfl, rfl, hbW.trans (Lib.below_setCells_w (Nat.le_refl _) _ _ _)⟩
theorem lengths_any (y : Int) (w : World) : Calls Tryz.prog 76 #[.int .i64 y] w (RetB (fun v _ => v = .agg (i64s (Pl.lens y)).toArray) w) := by
  cases hl : Pl.leapY y
  · exact lengths_not y hl w
  · exact lengths_leap y hl w
end Go.Proofs.YtmncgnmgdkdhaaaGreatDoor
