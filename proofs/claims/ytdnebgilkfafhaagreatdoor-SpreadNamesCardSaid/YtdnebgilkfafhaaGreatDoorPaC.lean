/- The walk of parity's line: what three texts give at a place. The walk of parity's lines: the iterator's maker, and the iterator. The walks of parity's Rows and Cut. -/
import Derived.Test.YtdnebgilkfafhaaGreatDoorFdW
import Derived.Test.YtdnebgilkfafhaaGreatDoorPaPl
import Derived.Test.YtdnebgilkfafhaaGreatDoorHeldL
import Derived.Deep.OwnRows
import Derived.RangeFuncNested
import Derived.RangeFuncBound
import Derived.RangeFuncCalls
import Derived.RangeFuncLeaves
import Derived.Shelf.Abstract
import Derived.Shelf.RegionOpen
import Derived.WalkKit
import Derived.OwnWalkIn
import Derived.TacticsInMore
import Derived.LoopNIn
import Derived.LoopIn
import Derived.Test.YtdnebgilkfafhaaGreatDoorShelf
namespace Go.Proofs.YtdnebgilkfafhaaGreatDoor
open Go.RowKit
set_option linter.unusedVariables false
set_option linter.unusedSimpArgs false
attribute [local go_sem] ba_get ba_cut ba_add
/-- The weights of the first k points, then zeros. -/
def wgt (x0 x1 x2 x : UInt8) (k : Nat) : List UInt8 := [if 0 < k then Pl.weightB x0 x1 x2 x 0 else 0, if 1 < k then Pl.weightB x0 x1 x2 x 1 else 0, if 2 < k then Pl.weightB x0 x1 x2 x 2 else 0]
def unit3 (k : Nat) : List UInt8 := [if k = 0 then 1 else 0, if k = 1 then 1 else 0, if k = 2 then 1 else 0]
theorem mul_0 (a : UInt8) : Pl.mulB 0 a = 0 := (Pl.mul_addL a).zero
theorem at_unit (x0 x1 x2 x : UInt8) (k : Nat) (hk : k < 3) : Pl.atL [x0, x1, x2] (unit3 k) x = Pl.weightB x0 x1 x2 x k := by
  have h : k = 0 ∨ k = 1 ∨ k = 2 := by omega
  have z : ∀ i, Pl.shareB x0 x1 x2 x 0 i = 0 := fun i => (Pl.share_add x0 x1 x2 x i).zero
  rcases h with rfl | rfl | rfl
  · show Pl.atL [x0, x1, x2] [1, 0, 0] x = _
    rw [Pl.atL_three]; unfold Pl.atB; rw [z, z]; simp [Pl.weightB]
  · show Pl.atL [x0, x1, x2] [0, 1, 0] x = _
    rw [Pl.atL_three]; unfold Pl.atB; rw [z, z]; simp [Pl.weightB]
  · show Pl.atL [x0, x1, x2] [0, 0, 1] x = _
    rw [Pl.atL_three]; unfold Pl.atB; rw [z, z]; simp [Pl.weightB]
theorem heap_alloc_3 (w : World) (a b c : Obj) : (((w.alloc a).alloc b).alloc c).heap[w.heap.size + 2]? = some c := by
  have h := heap_alloc_new ((w.alloc a).alloc b) c
  rwa [show ((w.alloc a).alloc b).heap.size = w.heap.size + 2 by simp] at h
theorem rd_arr {W : World} {B : Nat} {xs : List Value} {t : TypeId} (h : W.heap[B]? = some (.cells xs.toArray t (0, 0))) : Rd W 1 (some ⟨B, 0, none⟩) xs.length xs :=
  ⟨by omega, fun _ => ⟨B, 0, rfl, blk_lt h, fun j hj => by rw [Nat.zero_add, cell_row W B j _ _ h]; simp⟩⟩
theorem made_repB (z : Value) (n : Nat) : madeCells #[z] n = (List.replicate n z).toArray := by
  apply Array.ext
  · simp [madeCells]
  · intro i h1 h2
    have : i % 1 = 0 := by omega
    simp [madeCells, this]
theorem info_u8z : (Tryz.prog.info? 5).map (fun i => (i.zero, i.size, i.bytes)) = some (some (.int .u8 0), 1, 1) := by kernel_rfl
theorem mkB (k : Nat) (hk : k ≤ 100000) (W : World) : (Instr.makeSlice 138 (.int .i64 (k : Int)) (.int .i64 (k : Int))).run Tryz.prog W = .ok (.slice (some ⟨W.heap.size, 0, none⟩) k k) (W.alloc (.cells (List.replicate k (.int .u8 0)).toArray 5)) := by
  rw [← made_repB]
  exact run_make_row' 138 5 (.int .u8 0) 1 Tryz.underlying138 info_u8z rfl .i64 .i64 k (by omega) (by omega) W
/-- Bytes that are made one by one: m of them are there. -/
def outC (g : Nat → UInt8) (n m : Nat) : List UInt8 := (List.range m).map g ++ List.replicate (n - m) 0
theorem outC_len (g : Nat → UInt8) (n m : Nat) (h : m ≤ n) : (outC g n m).length = n := by unfold outC; rw [List.length_append, List.length_map, List.length_range, List.length_replicate]; omega
theorem outC_set (g : Nat → UInt8) (n m : Nat) (h : m < n) (v : UInt8) : (outC g n m).set m v = (List.range m).map g ++ v :: List.replicate (n - (m + 1)) 0 := by
  unfold outC
  rw [List.set_append_right (h := by simp), List.length_map, List.length_range, Nat.sub_self, show n - m = n - (m + 1) + 1 by omega, List.replicate_succ]
  rfl
theorem outC_zero (g : Nat → UInt8) (n m : Nat) (h : m < n) : (outC g n m).set m 0 = outC g n m := by
  rw [outC_set g n m h]; unfold outC
  rw [show n - m = n - (m + 1) + 1 by omega, List.replicate_succ]
theorem outC_next (g : Nat → UInt8) (n m : Nat) (h : m < n) : (outC g n m).set m (g m) = outC g n (m + 1) := by
  rw [outC_set g n m h]; unfold outC
  rw [List.range_succ, List.map_append, List.append_assoc]
  rfl
def accF (ws : List UInt8) (fs : List (List UInt8)) (i j : Nat) : UInt8 := (List.range j).foldl (fun v t => v ^^^ Pl.mulB (ws.getD t 0) ((fs.getD t []).getD i 0)) 0
theorem accF_succ (ws : List UInt8) (fs : List (List UInt8)) (i j : Nat) : accF ws fs i (j + 1) = accF ws fs i j ^^^ Pl.mulB (ws.getD j 0) ((fs.getD j []).getD i 0) := by
  unfold accF; rw [List.range_succ, List.foldl_append]; rfl
set_option maxRecDepth 100000 in
set_option maxHeartbeats 4000000 in
theorem line_any (x0 x1 x2 x : UInt8) (f0 f1 f2 : List UInt8) (hd : ([x0, x1, x2] : List UInt8).Nodup) (w : World) (n : Nat) (hn : n ≤ 100000) (h0 : f0.length = n) (h1 : f1.length = n) (h2 : f2.length = n) :
    Calls Tryz.prog 110 #[.agg #[.int .u8 (x0.toNat : Int), .int .u8 (x1.toNat : Int), .int .u8 (x2.toNat : Int)], .agg #[.string ⟨f0.toArray⟩, .string ⟨f1.toArray⟩, .string ⟨f2.toArray⟩], .int .u8 (x.toNat : Int)] w
      (RetB (fun v _ => v = .string ⟨((List.range n).map fun i => Pl.mulB (Pl.weightB x0 x1 x2 x 0) (f0.getD i 0) ^^^ Pl.mulB (Pl.weightB x0 x1 x2 x 1) (f1.getD i 0) ^^^ Pl.mulB (Pl.weightB x0 x1 x2 x 2) (f2.getD i 0)).toArray⟩) w) := by
  have HF := Lib.hid (And.intro h0 (And.intro h1 h2))
  have HD := Lib.hid hd
  clear h0 h1 h2 hd
  obtain ⟨B, hB⟩ : ∃ B, w.heap.size = B := ⟨_, rfl⟩
  go_enter Tryz.func110, Tryz.ntmps110
  go_upto_region 2 with (fail)
  generalize hW : World.alloc (World.alloc (World.alloc w _) _) _ = W
  have hz : W.heap[B]? = some (.cells (b8s [x0, x1, x2]).toArray 135 (0, 0)) ∧ W.heap[B + 1]? = some (.cells #[.string ⟨f0.toArray⟩, .string ⟨f1.toArray⟩, .string ⟨f2.toArray⟩] 131 (0, 0)) ∧ W.heap[B + 2]? = some (.cells (b8s (wgt x0 x1 x2 x 0)).toArray 135 (0, 0)) := by
    refine ⟨?_, ?_, ?_⟩
    · rw [← hW, ← hB, Below.heap_alloc _ _ _ (by simp; omega), Below.heap_alloc _ _ _ (by simp)]; exact heap_alloc_new _ _
    · rw [← hW, ← hB, Below.heap_alloc _ _ _ (by simp)]; exact heap_alloc_2 _ _ _
    · rw [← hW, ← hB]; exact heap_alloc_3 _ _ _ _
  have hb : Below B w W := by rw [← hW, ← hB]; exact (((Below.refl _ _).alloc (Nat.le_refl _) _).alloc (by simp) _).alloc (by simp; omega) _
  obtain ⟨M, hM⟩ : ∃ M, B + 1 + 1 = M := ⟨_, rfl⟩
  rw [show B + 2 = M from hM] at hz
  have hMB : B + 1 < M := by omega
  simp only [hM]
  clear hM
  have HW := Lib.hid (And.intro hz.1 (And.intro hz.2.1 (And.intro hz.2.2 hb)))
  clear hW hz hb
  go_wp2_with fail
  go_loopw [14] (fun i wr => ∃ (k : Nat), k ≤ 3 ∧ i = .int .i64 (k : Int) ∧ Hid (wr.heap[B]? = some (.cells (b8s [x0, x1, x2]).toArray 135 (0, 0)) ∧ wr.heap[B + 1]? = some (.cells #[.string ⟨f0.toArray⟩, .string ⟨f1.toArray⟩, .string ⟨f2.toArray⟩] 131 (0, 0)) ∧ wr.heap[M]? = some (.cells (b8s (wgt x0 x1 x2 x k)).toArray 135 (0, 0)) ∧ Below B w wr)) (fun i _ => 3 - (intOf i).toNat)
  case atStart => exact ⟨0, by omega, rfl, HW⟩
  case round =>
    obtain ⟨k, hk, rfl, HK⟩ := hrel
    by_cases hk3 : k < 3
    · have hat : ∀ W A A', Rd W 1 A 3 (b8s [x0, x1, x2]) → Rd W 1 A' 3 (b8s (unit3 k)) → Calls Tryz.prog 151 #[.slice A 3 3, .slice A' 3 3, .int .u8 (x.toNat : Int)] W (RetB (fun v _ => v = .tuple #[.int .u8 ((Pl.atL [x0, x1, x2] (unit3 k) x).toNat : Int), .bool true]) W) := fun W A A' hr hr' => at_any A A' 3 3 [x0, x1, x2] (unit3 k) x W hr hr' (by simp) rfl HD.out
      rw [at_unit x0 x1 x2 x k hk3] at hat
      have hwk : (wgt x0 x1 x2 x (k + 1)) = (wgt x0 x1 x2 x k).set k (Pl.weightB x0 x1 x2 x k) := by
        have h : k = 0 ∨ k = 1 ∨ k = 2 := by omega
        rcases h with rfl | rfl | rfl <;> rfl
      have hu : ((b8s (unit3 k)).toArray : Array Value) = (#[.int .u8 0, .int .u8 0, .int .u8 0] : Array Value).setIfInBounds k (.int .u8 1) := by
        have h : k = 0 ∨ k = 1 ∨ k = 2 := by omega
        rcases h with rfl | rfl | rfl <;> rfl
      have HA := Lib.hid (And.intro hat (And.intro hwk hu))
      clear hat hwk hu
      have hlt := blk_lt HK.out.2.2.1
      have HWZ : Hid (∀ j, j < 3 → ∃ v, wr.cell? ⟨M, j, none⟩ = some v) := Lib.hid fun j hj => by
        rw [cell_row wr (M) j _ _ HK.out.2.2.1]
        have h : j = 0 ∨ j = 1 ∨ j = 2 := by omega
        rcases h with rfl | rfl | rfl <;> exact ⟨_, rfl⟩
      go_upto_region 6 with (fail)
      obtain ⟨U, hU⟩ : ∃ U, wr.heap.size = U := ⟨_, rfl⟩
      generalize hV : World.alloc wr _ = V
      have hzU : V.heap[U]? = some (.cells #[.int .u8 0, .int .u8 0, .int .u8 0] 135 (0, 0)) := by rw [← hV, ← hU]; exact heap_alloc_new _ _
      have hbV : Below wr.heap.size wr V := by rw [← hV]; exact (Below.refl _ _).alloc (Nat.le_refl _) _
      have HU := Lib.hid (And.intro hzU (And.intro hbV hU))
      have hBU2 : M < U := by omega
      simp only [hU]
      have hcU : ∃ v, V.cell? ⟨U, k, none⟩ = some v := by
        rw [cell_row V U k _ _ hzU]
        have h : k = 0 ∨ k = 1 ∨ k = 2 := by omega
        rcases h with rfl | rfl | rfl <;> exact ⟨_, rfl⟩
      obtain ⟨vU, hcU⟩ := hcU
      have hfU := frozen_of V U k _ _ hzU
      clear hV hzU hbV hU
      go_upto_region 7 with (fail)
      generalize hV2 : World.setCell _ _ _ = V2
      have hzU2 : V2.heap[U]? = some (.cells (b8s (unit3 k)).toArray 135 (0, 0)) := by rw [← hV2, set_at V U k _ _ _ HU.out.1, HA.out.2.2]
      have hold : ∀ G, G < U → V2.heap[G]? = wr.heap[G]? := fun G hG => by
        rw [← hV2, Below.heap_setCell _ _ _ _ (by show G ≠ U; omega)]
        exact HU.out.2.1.block G (by have := HU.out.2.2; omega)
      have hbV2 : Below B w V2 := by
        rw [← hV2]
        have hBU : B ≤ U := by omega
        exact (HK.out.2.2.2.trans (HU.out.2.1.mono (by have := HU.out.2.2; omega))).setCell (p := ⟨U, k, none⟩) (by show B ≤ U; omega) _
      have H2 := Lib.hid (And.intro hzU2 (And.intro ((hold B (by omega)).trans HK.out.1) (And.intro ((hold (B + 1) (by omega)).trans HK.out.2.1) (And.intro ((hold (M) (by omega)).trans HK.out.2.2.1) hbV2))))
      clear hV2 hzU2 hold hbV2 hcU hfU
      refine wp_region_held_drew (S := (fun _ => True)) (by kernel_rfl) trivial (fun hHeld => ?_)
      refine tk 0 (v := ?_) rfl ?_ hHeld ?_
      rotate_left
      · (intro w' hSw; (try dsimp only at hSw); go_simp; try with_reducible rfl)
      simp only [Act.put, lay9]
      refine tk 1 (v := ?_) rfl ?_ hHeld ?_
      rotate_left
      · (intro w' hSw; (try dsimp only at hSw); go_simp; try with_reducible rfl)
      simp only [Act.put, lay9]
      refine tk 2 (v := ?_) rfl ?_ hHeld ?_
      rotate_left
      · (intro w' hSw; (try dsimp only at hSw); go_simp; try with_reducible rfl)
      simp only [Act.put, lay9]
      refine tk 3 (v := ?_) rfl ?_ hHeld ?_
      rotate_left
      · (intro w' hSw; (try dsimp only at hSw); go_simp; try with_reducible rfl)
      simp only [Act.put, lay9]
      refine wpAnyH_ready (rs := [4]) (by kernel_rfl) (by simp) (AllReadyH.cons rfl (fun K hK => ?_) AllReadyH.nil)
      go_simp
      (with_reducible refine (HA.out.1 V2.drew (some ⟨B, 0, none⟩) (some ⟨U, 0, none⟩) (rd_arr (W := V2.drew) (xs := b8s [x0, x1, x2]) (t := 135) H2.out.2.1) (rd_arr (W := V2.drew) (xs := b8s (unit3 k)) (t := 135) H2.out.1)).mono ?_)
      rintro y V3 ⟨v, rfl, rfl, hb3⟩
      have k0 := (hb3.block B (blk_lt H2.out.2.1)).trans H2.out.2.1
      have k1 := (hb3.block (B + 1) (blk_lt H2.out.2.2.1)).trans H2.out.2.2.1
      have k2 := (hb3.block (M) (blk_lt H2.out.2.2.2.1)).trans H2.out.2.2.2.1
      have H3 := Lib.hid (And.intro k0 (And.intro k1 (And.intro k2 (H2.out.2.2.2.2.drew.trans (hb3.mono (by have := blk_lt H2.out.2.1; show B ≤ V2.heap.size; omega))))))
      have hc3 : ∃ v, V3.cell? ⟨M, k, none⟩ = some v := by
        rw [cell_row V3 (M) k _ _ k2]
        have h : k = 0 ∨ k = 1 ∨ k = 2 := by omega
        rcases h with rfl | rfl | rfl <;> exact ⟨_, rfl⟩
      obtain ⟨v3, hc3⟩ := hc3
      have hf3 := frozen_of V3 (M) k _ _ k2
      clear k0 k1 k2 hb3
      refine hK.out _ _ trivial (fun hHeld => ?_)
      clear hK K
      (try simp only [Act.put, lay9])
      refine tk 5 (v := ?_) rfl ?_ hHeld ?_
      rotate_left
      · (intro w' hSw; (try dsimp only at hSw); go_simp; try with_reducible rfl)
      simp only [Act.put, lay9]
      refine tk 6 (v := ?_) rfl ?_ hHeld ?_
      rotate_left
      · (intro w' hSw; (try dsimp only at hSw); go_simp; try with_reducible rfl)
      simp only [Act.put, lay9]
      refine tk 7 (v := ?_) rfl ?_ hHeld ?_
      rotate_left
      · (intro w' hSw; (try dsimp only at hSw); go_simp; try with_reducible rfl)
      simp only [Act.put, lay9]
      refine tk 8 (v := ?_) rfl ?_ hHeld ?_
      rotate_left
      · (intro w' hSw; (try dsimp only at hSw); go_simp; try with_reducible rfl)
      simp only [Act.put, lay9]
      refine wpAnyH_ready (rs := [9]) (by kernel_rfl) (by simp) (AllReadyH.cons rfl (fun K hK => ?_) AllReadyH.nil)
      go_simp
      refine hK.out _ _ trivial (fun hHeld => ?_)
      clear hK K
      (try simp only [Act.put, lay9])
      refine wpAnyH_done (by kernel_rfl) ?_ _
      generalize hV4 : World.setCell _ _ _ = V4
      have H4 : Hid (V4.heap[B]? = some (.cells (b8s [x0, x1, x2]).toArray 135 (0, 0)) ∧ V4.heap[B + 1]? = some (.cells #[.string ⟨f0.toArray⟩, .string ⟨f1.toArray⟩, .string ⟨f2.toArray⟩] 131 (0, 0)) ∧ V4.heap[M]? = some (.cells (b8s (wgt x0 x1 x2 x (k + 1))).toArray 135 (0, 0)) ∧ Below B w V4) := by
        refine Lib.hid ⟨?_, ?_, ?_, ?_⟩
        · rw [← hV4, Below.heap_setCell _ _ _ _ (by show B ≠ M; omega)]; exact H3.out.1
        · rw [← hV4, Below.heap_setCell _ _ _ _ (by show B + 1 ≠ M; omega)]; exact H3.out.2.1
        · rw [← hV4, set_at V3 (M) k _ _ _ H3.out.2.2.1, HA.out.2.1]
          simp [b8s, List.map_set]
        · rw [← hV4]; exact H3.out.2.2.2.setCell (p := ⟨M, k, none⟩) (by show B ≤ M; omega) _
      clear hV4 hc3 hf3
      go_wp2_with fail
      exact ⟨⟨k + 1, by omega, ret_i (by omega), H4⟩, by simp only [intOf]; omega⟩
    · have hke : k = 3 := by omega
      have HKx := HK.out
      rw [hke] at HKx
      clear HK hke
      have HK := Lib.hid HKx
      clear HKx
      obtain ⟨ws, hws⟩ : ∃ z, wgt x0 x1 x2 x 3 = z := ⟨_, rfl⟩
      have HWs := Lib.hid hws
      have HFs : Hid (∀ j, j < 3 → ∃ f, ([f0, f1, f2] : List (List UInt8)).getD j [] = f ∧ f.length = n) := Lib.hid fun j hj => by
        have h : j = 0 ∨ j = 1 ∨ j = 2 := by omega
        rcases h with rfl | rfl | rfl
        · exact ⟨f0, rfl, HF.out.1⟩
        · exact ⟨f1, rfl, HF.out.2.1⟩
        · exact ⟨f2, rfl, HF.out.2.2⟩
      have c10 : wr.cell? ⟨B + 1, 0, none⟩ = some (.string ⟨f0.toArray⟩) := by rw [cell_row wr (B + 1) 0 _ _ HK.out.2.1]; rfl
      have hf0 := HF.out.1
      have hmk := mkB n hn
      go_upto_region 10 with (fail)
      obtain ⟨O, hO⟩ : ∃ O, wr.heap.size = O := ⟨_, rfl⟩
      generalize hV : World.alloc wr _ = V
      obtain ⟨g, hg⟩ : ∃ g : Nat → UInt8, (fun i => accF ws [f0, f1, f2] i 3) = g := ⟨_, rfl⟩
      have HGg := Lib.hid hg
      have hzO : V.heap[O]? = some (.cells (b8s (outC g n 0)).toArray 5 (0, 0)) := by
        rw [← hV, ← hO]
        have h := heap_alloc_new wr (.cells (List.replicate n (.int .u8 0)).toArray 5)
        rw [show b8s (outC g n 0) = List.replicate n (.int .u8 0) by unfold outC b8s; simp]
        simpa using h
      have hbV : Below wr.heap.size wr V := by rw [← hV]; exact (Below.refl _ _).alloc (Nat.le_refl _) _
      have hMO : M < O := by have := blk_lt HK.out.2.2.1; omega
      have HV : Hid (V.heap[O]? = some (.cells (b8s (outC g n 0)).toArray 5 (0, 0)) ∧ V.heap[B + 1]? = some (.cells #[.string ⟨f0.toArray⟩, .string ⟨f1.toArray⟩, .string ⟨f2.toArray⟩] 131 (0, 0)) ∧ V.heap[M]? = some (.cells (b8s ws).toArray 135 (0, 0)) ∧ Below B w V) :=
        Lib.hid ⟨hzO, (hbV.block _ (blk_lt HK.out.2.1)).trans HK.out.2.1, (hbV.block _ (blk_lt HK.out.2.2.1)).trans (by rw [← hws]; exact HK.out.2.2.1), HK.out.2.2.2.trans (hbV.mono (by omega))⟩
      simp only [hO]
      clear hV hzO hbV hO hg hws c10 hmk HK HW
      go_wp2_with fail
      go_loopw [35] (fun i wr => ∃ (m : Nat), m ≤ n ∧ i = .int .i64 (m : Int) ∧ Hid (wr.heap[O]? = some (.cells (b8s (outC g n m)).toArray 5 (0, 0)) ∧ wr.heap[B + 1]? = some (.cells #[.string ⟨f0.toArray⟩, .string ⟨f1.toArray⟩, .string ⟨f2.toArray⟩] 131 (0, 0)) ∧ wr.heap[M]? = some (.cells (b8s ws).toArray 135 (0, 0)) ∧ Below B w wr)) (fun i _ => n - (intOf i).toNat)
      case atStart => exact ⟨0, by omega, rfl, HV⟩
      case round =>
        obtain ⟨m, hm, rfl, HK⟩ := hrel
        by_cases hmn : m < n
        · have hka : ∃ a0 a1 a2, ws = [a0, a1, a2] := ⟨_, _, _, HWs.out.symm⟩
          obtain ⟨a0, a1, a2, hwe⟩ := hka
          have hzM := HK.out.2.2.1
          rw [hwe] at hzM
          have m0 : wr.cell? ⟨M, 0, none⟩ = some (.int .u8 (a0.toNat : Int)) := by rw [cell_row wr M 0 _ _ hzM]; rfl
          have m1 : wr.cell? ⟨M, 1, none⟩ = some (.int .u8 (a1.toNat : Int)) := by rw [cell_row wr M 1 _ _ hzM]; rfl
          have m2 : wr.cell? ⟨M, 2, none⟩ = some (.int .u8 (a2.toNat : Int)) := by rw [cell_row wr M 2 _ _ hzM]; rfl
          have HWe := Lib.hid hwe
          have HK0 : Hid (wr.heap[O]? = some (.cells (b8s ((outC g n m).set m (accF ws [f0, f1, f2] m 0))).toArray 5 (0, 0)) ∧ wr.heap[B + 1]? = some (.cells #[.string ⟨f0.toArray⟩, .string ⟨f1.toArray⟩, .string ⟨f2.toArray⟩] 131 (0, 0)) ∧ wr.heap[M]? = some (.cells (b8s ws).toArray 135 (0, 0)) ∧ Below B w wr) := by
            refine Lib.hid ⟨?_, HK.out.2⟩
            rw [show accF ws [f0, f1, f2] m 0 = 0 from rfl, outC_zero g n m hmn]
            exact HK.out.1
          clear hwe hzM HK
          go_wp2_with fail
          go_loopw [39] (fun i wr => ∃ (j : Nat), j ≤ 3 ∧ i = .int .i64 (j : Int) ∧ Hid (wr.heap[O]? = some (.cells (b8s ((outC g n m).set m (accF ws [f0, f1, f2] m j))).toArray 5 (0, 0)) ∧ wr.heap[B + 1]? = some (.cells #[.string ⟨f0.toArray⟩, .string ⟨f1.toArray⟩, .string ⟨f2.toArray⟩] 131 (0, 0)) ∧ wr.heap[M]? = some (.cells (b8s ws).toArray 135 (0, 0)) ∧ Below B w wr)) (fun i _ => 3 - (intOf i).toNat)
          case atStart => exact ⟨0, by omega, rfl, HK0⟩
          case round =>
            obtain ⟨j, hj, rfl, HJ⟩ := hrel
            clear m0 m1 m2
            by_cases hj3 : j < 3
            · obtain ⟨aj, fj, hga, hgf, hfl, hix, hcf⟩ : ∃ aj fj, ws.getD j 0 = aj ∧ ([f0, f1, f2] : List (List UInt8)).getD j [] = fj ∧ fj.length = n ∧ (∀ W', (Instr.index 135 (.agg #[.int .u8 (a0.toNat : Int), .int .u8 (a1.toNat : Int), .int .u8 (a2.toNat : Int)]) (.int .i64 (j : Int))).run Tryz.prog W' = .ok (.int .u8 (aj.toNat : Int)) W') ∧ wr.cell? ⟨B + 1, j, none⟩ = some (.string ⟨fj.toArray⟩) := by
                have h : j = 0 ∨ j = 1 ∨ j = 2 := by omega
                rw [HWe.out]
                rcases h with rfl | rfl | rfl
                · exact ⟨a0, f0, rfl, rfl, HF.out.1, fun W' => by kernel_rfl, by rw [cell_row wr (B + 1) 0 _ _ HJ.out.2.1]; rfl⟩
                · exact ⟨a1, f1, rfl, rfl, HF.out.2.1, fun W' => by kernel_rfl, by rw [cell_row wr (B + 1) 1 _ _ HJ.out.2.1]; rfl⟩
                · exact ⟨a2, f2, rfl, rfl, HF.out.2.2, fun W' => by kernel_rfl, by rw [cell_row wr (B + 1) 2 _ _ HJ.out.2.1]; rfl⟩
              have hacc := accF_succ ws [f0, f1, f2] m j
              rw [hga, hgf] at hacc
              have hmf : m < fj.length := by omega
              have hgm : fj.getD m 0 = fj[m] := by rw [List.getD_eq_getElem?_getD, List.getElem?_eq_getElem hmf]; rfl
              have hixf : ∀ W', (Instr.index 9 (.string ⟨fj.toArray⟩) (.int .i64 (m : Int))).run Tryz.prog W' = .ok (.int .u8 (fj[m].toNat : Int)) W' := fun W' => by simp [go_sem, hmf]
              obtain ⟨fm, hfm⟩ : ∃ z, fj[m] = z := ⟨_, rfl⟩
              rw [hfm] at hgm hixf
              rw [hgm] at hacc
              have hmu := fun W => mul_any aj fm W
              obtain ⟨p, hp⟩ : ∃ z, Pl.mulB aj fm = z := ⟨_, rfl⟩
              rw [hp] at hmu hacc
              obtain ⟨ac, hac⟩ : ∃ z, accF ws [f0, f1, f2] m j = z := ⟨_, rfl⟩
              have HJ2 := Lib.hid HJ.out
              rw [hac] at HJ2 hacc
              obtain ⟨z, hz⟩ : ∃ z, ac ^^^ p = z := ⟨_, rfl⟩
              have x1 := xor8 hz
              rw [hz] at hacc
              have HMu := Lib.hid (And.intro hmu hacc)
              have hcO : wr.cell? ⟨O, m, none⟩ = some (.int .u8 (ac.toNat : Int)) := by
                rw [cell_row wr O m _ _ HJ2.out.1]
                have hl := outC_len g n m (by omega)
                simp [b8s, hl, hmn]
              have hfO := frozen_of wr O m _ _ HJ2.out.1
              clear hga hgf hmf hgm hfm hp hac hz hmu hacc HJ hfl
              go_upto_region 16 with (fail)
              refine wp_regionL 13 (fun W => W.cell? ⟨O, m, none⟩ = some (.int .u8 (ac.toNat : Int)) ∧ W.cell? ⟨B + 1, j, none⟩ = some (.string ⟨fj.toArray⟩)) (by kernel_rfl) (by exact ⟨hcO, hcf⟩) (fun hHeld => ?_)
              refine tkL 0 (v := ?_) rfl ?_ hHeld ?_
              rotate_left
              · (intro w' hSw; (try dsimp only at hSw); obtain ⟨hS0, hS1⟩ := hSw; go_simp; try with_reducible rfl)
              simp only [Act.put, lay9]
              refine tkL 1 (v := ?_) rfl ?_ hHeld ?_
              rotate_left
              · (intro w' hSw; (try dsimp only at hSw); obtain ⟨hS0, hS1⟩ := hSw; go_simp; try with_reducible rfl)
              simp only [Act.put, lay9]
              refine tkL 2 (v := ?_) rfl ?_ hHeld ?_
              rotate_left
              · (intro w' hSw; (try dsimp only at hSw); obtain ⟨hS0, hS1⟩ := hSw; go_simp; try with_reducible rfl)
              simp only [Act.put, lay9]
              refine tkL 3 (v := ?_) rfl ?_ hHeld ?_
              rotate_left
              · (intro w' hSw; (try dsimp only at hSw); obtain ⟨hS0, hS1⟩ := hSw; go_simp; try with_reducible rfl)
              simp only [Act.put, lay9]
              refine tkL 4 (v := ?_) rfl ?_ hHeld ?_
              rotate_left
              · (intro w' hSw; (try dsimp only at hSw); obtain ⟨hS0, hS1⟩ := hSw; go_simp; try with_reducible rfl)
              simp only [Act.put, lay9]
              refine tkL 5 (v := ?_) rfl ?_ hHeld ?_
              rotate_left
              · (intro w' hSw; (try dsimp only at hSw); obtain ⟨hS0, hS1⟩ := hSw; go_simp; try with_reducible rfl)
              simp only [Act.put, lay9]
              refine tkL 6 (v := ?_) rfl ?_ hHeld ?_
              rotate_left
              · (intro w' hSw; (try dsimp only at hSw); obtain ⟨hS0, hS1⟩ := hSw; go_simp; try with_reducible rfl)
              simp only [Act.put, lay9]
              refine tkL 7 (v := ?_) rfl ?_ hHeld ?_
              rotate_left
              · (intro w' hSw; (try dsimp only at hSw); obtain ⟨hS0, hS1⟩ := hSw; go_simp; try with_reducible rfl)
              simp only [Act.put, lay9]
              refine tkL 8 (v := ?_) rfl ?_ hHeld ?_
              rotate_left
              · (intro w' hSw; (try dsimp only at hSw); obtain ⟨hS0, hS1⟩ := hSw; go_simp; try with_reducible rfl)
              simp only [Act.put, lay9]
              refine tkL 9 (v := ?_) rfl ?_ hHeld ?_
              rotate_left
              · (intro w' hSw; (try dsimp only at hSw); obtain ⟨hS0, hS1⟩ := hSw; go_simp; try with_reducible rfl)
              simp only [Act.put, lay9]
              refine stillL (i := 10) (v := (.int .u8 (p.toNat : Int))) rfl (by kernel_rfl) (by kernel_rfl) (by kernel_rfl) (by kernel_rfl) (by kernel_rfl) (by decide) (fun _ _ _ h => h) ⟨by rfl, _, _, fun w' hSw => ⟨?_, (HMu.out.1 w')⟩⟩ hHeld ?_
              · (try dsimp only at hSw); go_simp; try with_reducible rfl
              simp only [Act.put, lay9]
              refine tkL 11 (v := ?_) rfl ?_ hHeld ?_
              rotate_left
              · (intro w' hSw; (try dsimp only at hSw); obtain ⟨hS0, hS1⟩ := hSw; go_simp; try with_reducible rfl)
              simp only [Act.put, lay9]
              refine tkL 12 (v := ?_) rfl ?_ hHeld ?_
              rotate_left
              · (intro w' hSw; (try dsimp only at hSw); obtain ⟨hS0, hS1⟩ := hSw; go_simp; try with_reducible rfl)
              simp only [Act.put, lay9]
              refine readyL (rs := [13]) (by kernel_rfl) (by simp) (ReadyL.last rfl (fun K hK => ?_))
              go_simp
              refine hK.out _ _ ?_
              clear hK K
              (try simp only [Act.put, lay9])
              refine doneL (by kernel_rfl) ?_ _
              generalize hV : World.drew (World.setCell _ _ _) = V5
              have H5 : Hid (V5.heap[O]? = some (.cells (b8s ((outC g n m).set m (accF ws [f0, f1, f2] m (j + 1)))).toArray 5 (0, 0)) ∧ V5.heap[B + 1]? = some (.cells #[.string ⟨f0.toArray⟩, .string ⟨f1.toArray⟩, .string ⟨f2.toArray⟩] 131 (0, 0)) ∧ V5.heap[M]? = some (.cells (b8s ws).toArray 135 (0, 0)) ∧ Below B w V5) := by
                refine Lib.hid ⟨?_, ?_, ?_, ?_⟩
                · rw [← hV, HMu.out.2]
                  refine (set_at wr O m _ _ _ HJ2.out.1).trans ?_
                  simp [b8s, List.map_set]
                · rw [← hV]; exact (Below.heap_setCell wr _ _ _ (by show B + 1 ≠ O; omega)).trans HJ2.out.2.1
                · rw [← hV]; exact (Below.heap_setCell wr _ _ _ (by show M ≠ O; omega)).trans HJ2.out.2.2.1
                · rw [← hV]; exact (HJ2.out.2.2.2.setCell (p := ⟨O, m, none⟩) (by show B ≤ O; omega) _).drew
              clear hV hcO hfO hcf
              go_wp2_with fail
              go_roundw
              case rel => exact ⟨j + 1, by omega, ret_i (by omega), H5⟩
              case measure => simp only [intOf]; omega
            · have hje : j = 3 := by omega
              subst hje
              have HK5 := HJ.out
              rw [show accF ws [f0, f1, f2] m 3 = g m by rw [← HGg.out], outC_next g n m hmn] at HK5
              have HK6 := Lib.hid HK5
              clear HJ HK5
              go_wp2_with fail
              go_roundw
              case rel => exact ⟨m + 1, by omega, ret_i (by omega), HK6⟩
              case measure => simp only [intOf]; omega
        · have hme : m = n := by omega
          subst hme
          have hcv : (convert 138 9 (.slice (some ⟨O, 0, none⟩) m m)).run Tryz.prog wr = .ok (.string ⟨(outC g m m).toArray⟩) wr := by
            refine bytes_conv _ O 0 m m (outC g m m) (outC_len g m m (Nat.le_refl _)) fun j hj => ?_
            rw [Nat.zero_add, cell_row wr O j _ _ HK.out.1]
            simp [b8s, hj]
          have hb := HK.out.2.2.2
          go_wp2_with fail
          go_ret
          refine ⟨_, rfl, ?_, by rw [hB]; exact hb⟩
          have he : outC g m m = (List.range m).map fun i => Pl.mulB (Pl.weightB x0 x1 x2 x 0) (f0.getD i 0) ^^^ Pl.mulB (Pl.weightB x0 x1 x2 x 1) (f1.getD i 0) ^^^ Pl.mulB (Pl.weightB x0 x1 x2 x 2) (f2.getD i 0) := by
            unfold outC
            rw [Nat.sub_self, List.replicate_zero, List.append_nil, ← HGg.out, ← HWs.out]
            refine List.map_congr_left fun i _ => ?_
            have z : ∀ a : UInt8, 0 ^^^ a = a := fun a => by simp
            show (((0 : UInt8) ^^^ _) ^^^ _) ^^^ _ = _
            rw [z]
            rfl
          rw [← he]
          rfl
end Go.Proofs.YtdnebgilkfafhaaGreatDoor
namespace Go.Proofs.YtdnebgilkfafhaaGreatDoor
open Go.RowKit
set_option linter.unusedVariables false
set_option linter.unusedSimpArgs false
attribute [local go_sem] Oper.semAt_some
/-- The bytes that parity's line makes. -/
def lineV (x0 x1 x2 : UInt8) (f0 f1 f2 : List UInt8) (n : Nat) (x : UInt8) : List UInt8 := (List.range n).map fun i => Pl.mulB (Pl.weightB x0 x1 x2 x 0) (f0.getD i 0) ^^^ Pl.mulB (Pl.weightB x0 x1 x2 x 1) (f1.getD i 0) ^^^ Pl.mulB (Pl.weightB x0 x1 x2 x 2) (f2.getD i 0)
/-- The boxes of the iterator: four blocks from B on. -/
structure LBox (B : Nat) (x0 x1 x2 : UInt8) (f0 f1 f2 : List UInt8) (a b : Nat) (W : World) : Prop where
  xs : W.heap[B]? = some (.cells #[.int .u8 (x0.toNat : Int), .int .u8 (x1.toNat : Int), .int .u8 (x2.toNat : Int)] 135 (0, 0))
  fs : W.heap[B + 1]? = some (.cells #[.string ⟨f0.toArray⟩, .string ⟨f1.toArray⟩, .string ⟨f2.toArray⟩] 131 (0, 0))
  fst : W.heap[B + 2]? = some (.cells #[.int .i64 (a : Int)] 3 (0, 0))
  lst : W.heap[B + 3]? = some (.cells #[.int .i64 (b : Int)] 3 (0, 0))
/-- Four blocks from B on are as they were. -/
def Kp4 (B : Nat) (W W' : World) : Prop := ∀ k, B ≤ k → k < B + 4 → W'.heap[k]? = W.heap[k]?
theorem kp4_t {B : Nat} {X Y Z : World} (h : Kp4 B X Y) (k : Kp4 B Y Z) : Kp4 B X Z := fun i h1 h2 => (k i h1 h2).trans (h i h1 h2)
theorem kp4_b {B : Nat} {w : World} (hB : B + 4 ≤ w.heap.size) (W : World) (l : Nat) (o o' : Obj) (hl : w.heap.size ≤ l) (_ : W.heap[l]? = some o) (_ : o.isCells = false) (_ : o.isWalk = false) : Kp4 B W (W.putObj l o') :=
  fun k _ h2 => World.putObj_heap_other (by omega)
theorem LBox.kp {B : Nat} {x0 x1 x2 : UInt8} {f0 f1 f2 : List UInt8} {a b : Nat} {W W' : World} (h : LBox B x0 x1 x2 f0 f1 f2 a b W) (hk : Kp4 B W W') : LBox B x0 x1 x2 f0 f1 f2 a b W' :=
  ⟨(hk _ (by omega) (by omega)).trans h.xs, (hk _ (by omega) (by omega)).trans h.fs, (hk _ (by omega) (by omega)).trans h.fst, (hk _ (by omega) (by omega)).trans h.lst⟩
theorem kp4_below {B : Nat} {W W' : World} (h : Below W.heap.size W W') (hB : B + 4 ≤ W.heap.size) : Kp4 B W W' := fun k _ h2 => h.block k (by omega)
theorem LBox.lt {B : Nat} {x0 x1 x2 : UInt8} {f0 f1 f2 : List UInt8} {a b : Nat} {W : World} (h : LBox B x0 x1 x2 f0 f1 f2 a b W) : B + 4 ≤ W.heap.size := by have := blk_lt h.lst; omega
/-- What leaves all that was there is a growth that turns no block. -/
theorem grown_bel_pa {W W' : World} (h : Below W.heap.size W W') : W.grownBy W' none := ⟨h.os, h.tape, h.output, h.size, fun k hk _ => h.block k hk⟩
set_option maxRecDepth 100000 in
set_option maxHeartbeats 1000000 in
theorem lines_any (x0 x1 x2 : UInt8) (f0 f1 f2 : List UInt8) (a b : Nat) (w : World) :
    Calls Tryz.prog 72 #[.agg #[.int .u8 (x0.toNat : Int), .int .u8 (x1.toNat : Int), .int .u8 (x2.toNat : Int)], .agg #[.string ⟨f0.toArray⟩, .string ⟨f1.toArray⟩, .string ⟨f2.toArray⟩], .int .i64 (a : Int), .int .i64 (b : Int)] w
      (fun e w' => e = .returned (.func (.func 109) #[] #[.pointer (some ⟨w.heap.size + 2, 0, none⟩), .pointer (some ⟨w.heap.size + 3, 0, none⟩), .pointer (some ⟨w.heap.size, 0, none⟩), .pointer (some ⟨w.heap.size + 1, 0, none⟩)]) ∧ LBox w.heap.size x0 x1 x2 f0 f1 f2 a b w' ∧ Below w.heap.size w w' ∧ w'.heap.size = w.heap.size + 4) := by
  go_enter Tryz.func72, Tryz.ntmps72
  go_wp2_with fail
  go_ret
  refine ⟨rfl, ⟨?_, ?_, ?_, ?_⟩, ?_, by simp⟩
  · rw [Below.heap_alloc _ _ _ (by simp; try omega), Below.heap_alloc _ _ _ (by simp; try omega), Below.heap_alloc _ _ _ (by simp)]; exact heap_alloc_new _ _
  · rw [Below.heap_alloc _ _ _ (by simp; try omega), Below.heap_alloc _ _ _ (by simp; try omega)]; exact heap_alloc_2 _ _ _
  · rw [Below.heap_alloc _ _ _ (by simp)]; exact heap_alloc_3 _ _ _ _
  · have h := heap_alloc_new (((w.alloc (.cells #[.int .u8 (x0.toNat : Int), .int .u8 (x1.toNat : Int), .int .u8 (x2.toNat : Int)] 135)).alloc (.cells #[.string ⟨f0.toArray⟩, .string ⟨f1.toArray⟩, .string ⟨f2.toArray⟩] 131)).alloc (.cells #[.int .i64 (a : Int)] 3)) (.cells #[.int .i64 (b : Int)] 3)
    rwa [show (((w.alloc (.cells #[.int .u8 (x0.toNat : Int), .int .u8 (x1.toNat : Int), .int .u8 (x2.toNat : Int)] 135)).alloc (.cells #[.string ⟨f0.toArray⟩, .string ⟨f1.toArray⟩, .string ⟨f2.toArray⟩] 131)).alloc (.cells #[.int .i64 (a : Int)] 3)).heap.size = w.heap.size + 3 by simp] at h
  · exact ((((Below.refl _ _).alloc (Nat.le_refl _) _).alloc (by simp) _).alloc (by simp; omega) _).alloc (by simp; omega) _
/-- The numbers from a on, k of them. -/
theorem range'_snoc (a k : Nat) : List.range' a (k + 1) = List.range' a k ++ [a + k] := by rw [List.range'_concat]; simp
abbrev encL (L : UInt8 → List UInt8) (i : Nat) : Array Value := #[.int .i64 (i : Int), .string ⟨(L (UInt8.ofNat i)).toArray⟩]
set_option maxRecDepth 100000 in
set_option maxHeartbeats 4000000 in
theorem lines1_in (n l B m a b : Nat) (hn : 1 ≤ n) (x0 x1 x2 : UInt8) (f0 f1 f2 : List UInt8) (hd : ([x0, x1, x2] : List UInt8).Nodup) (hm : m ≤ 100000) (h0 : f0.length = m) (h1 : f1.length = m) (h2 : f2.length = m) (hab : a ≤ b + 1) (hb : b ≤ 255)
    (J Jx : List Nat → World → Prop) (W : World) (hJ : AbidesFrom W.heap.size J)
    (hY : ∀ pre x W1, J pre W1 → pre.length < b + 1 - a → YieldAt Fence.wide (n - 1) Tryz.prog l (encL (lineV x0 x1 x2 f0 f1 f2 m) x) W1 fun e W' =>
      (e = .returned (.bool true) ∧ J (pre ++ [x]) W' ∧ Kp4 B W1 W') ∨ (e = .returned (.bool false) ∧ Jx (pre ++ [x]) W'))
    (hL : LBox B x0 x1 x2 f0 f1 f2 a b W) (hJ0 : J [] W) :
    CallsIn Fence.wide n Tryz.prog 109 #[.func (.yield l) #[] #[], .pointer (some ⟨B + 2, 0, none⟩), .pointer (some ⟨B + 3, 0, none⟩), .pointer (some ⟨B, 0, none⟩), .pointer (some ⟨B + 1, 0, none⟩)] W fun e W' => (∃ v, e = .returned v) ∧
      ((∃ ys, ys = List.range' a (b + 1 - a) ∧ J ys W') ∨ (∃ pre, True ∧ Jx pre W')) := by
  have hline := fun x W => line_any x0 x1 x2 x f0 f1 f2 hd W m hm h0 h1 h2
  obtain ⟨L, hLe⟩ : ∃ L, lineV x0 x1 x2 f0 f1 f2 m = L := ⟨_, rfl⟩
  have hline : ∀ x W, Calls Tryz.prog 110 #[.agg #[.int .u8 (x0.toNat : Int), .int .u8 (x1.toNat : Int), .int .u8 (x2.toNat : Int)], .agg #[.string ⟨f0.toArray⟩, .string ⟨f1.toArray⟩, .string ⟨f2.toArray⟩], .int .u8 (x.toNat : Int)] W (RetB (fun v _ => v = .string ⟨(L x).toArray⟩) W) := by rw [← hLe]; exact hline
  rw [hLe] at hY
  have HX := Lib.hid (And.intro hline (And.intro hY hJ))
  clear hLe hline hY h0 h1 h2 hd hJ
  refine callsIn_of_wp Tryz.func109 rfl trivial ?_ rfl
  simp only [Tryz.ntmps109, List.size_toArray, List.length_cons, List.length_nil, Nat.reduceAdd, Nat.reduceSub, Array.replicate_succ, Array.replicate_zero, List.push_toArray, List.append_toArray, List.nil_append, List.cons_append]
  have c2 : W.cell? ⟨B + 2, 0, none⟩ = some (.int .i64 (a : Int)) := by rw [cell_row W _ 0 _ _ hL.fst]; rfl
  gi_wp2
  gi_loopw [6] (fun i wr => ∃ k : Nat, k ≤ b + 1 - a ∧ i = .int .i64 ((a + k : Nat) : Int) ∧ J (List.range' a k) wr ∧ LBox B x0 x1 x2 f0 f1 f2 a b wr) (fun i _ => b + 1 - (intOf i).toNat)
  case atStart => exact ⟨0, Nat.zero_le _, rfl, hJ0, hL⟩
  case round =>
    obtain ⟨k, hk, rfl, hJk, hLk⟩ := hrel
    have c3 : wr.cell? ⟨B + 3, 0, none⟩ = some (.int .i64 (b : Int)) := by rw [cell_row wr _ 0 _ _ hLk.lst]; rfl
    by_cases hlt : k < b + 1 - a
    · have x0c : wr.cell? ⟨B, 0, none⟩ = some (.int .u8 (x0.toNat : Int)) := by rw [cell_row wr _ 0 _ _ hLk.xs]; rfl
      have x1c : wr.cell? ⟨B, 1, none⟩ = some (.int .u8 (x1.toNat : Int)) := by rw [cell_row wr _ 1 _ _ hLk.xs]; rfl
      have x2c : wr.cell? ⟨B, 2, none⟩ = some (.int .u8 (x2.toNat : Int)) := by rw [cell_row wr _ 2 _ _ hLk.xs]; rfl
      have f0c : wr.cell? ⟨B + 1, 0, none⟩ = some (.string ⟨f0.toArray⟩) := by rw [cell_row wr _ 0 _ _ hLk.fs]; rfl
      have f1c : wr.cell? ⟨B + 1, 1, none⟩ = some (.string ⟨f1.toArray⟩) := by rw [cell_row wr _ 1 _ _ hLk.fs]; rfl
      have f2c : wr.cell? ⟨B + 1, 2, none⟩ = some (.string ⟨f2.toArray⟩) := by rw [cell_row wr _ 2 _ _ hLk.fs]; rfl
      obtain ⟨i, hi⟩ : ∃ i, a + k = i := ⟨_, rfl⟩
      have hi255 : i ≤ 255 := by omega
      have hib : i ≤ b := by omega
      have hla := fun W => HX.out.1 (UInt8.ofNat i) W
      rw [show ((UInt8.ofNat i).toNat : Int) = (i : Int) by rw [UInt8.toNat_ofNat']; omega] at hla
      have Hla := Lib.hid hla
      rw [hi]
      clear hla
      gi_wp2
      refine ⟨trivial, (callsIn_wide.2 (Hla.out _)).mono ?_⟩
      rintro e w1 ⟨v, rfl, rfl, hb1⟩
      have hJ1 := HX.out.2.2 _ _ _ none hJk (grown_bel_pa hb1) (fun r e => by cases e)
      obtain ⟨fn, tmps, assign, body, hy, hR⟩ := HX.out.2.1 _ i w1 hJ1 (by simp; omega)
      dsimp only [encL] at hy
      have hL1 := hLk.kp (kp4_below hb1 hLk.lt)
      have hs1 := hb1.size
      clear x0c x1c x2c f0c f1c f2c
      gi_wp2
      refine hR.mono ?_
      rintro e W3 (⟨rfl, hJ3, hk3⟩ | ⟨rfl, hJx3⟩)
      · gi_wp2
        go_roundw
        case rel => exact ⟨k + 1, by omega, ret_i (by omega), by rw [range'_snoc, hi]; exact hJ3, hL1.kp hk3⟩
        case measure => simp only [intOf]; omega
      · gi_wp2
        refine bodyPost_ret (results_none rfl _ _ _) rfl ?_
        exact ⟨⟨_, rfl⟩, .inr ⟨_, trivial, hJx3⟩⟩
    · obtain rfl : k = b + 1 - a := by omega
      gi_wp2
      go_end0
      exact ⟨⟨_, rfl⟩, .inl ⟨_, rfl, hJk⟩⟩
theorem lines1_stops (n B m a b : Nat) (hn : 1 ≤ n) (x0 x1 x2 : UInt8) (f0 f1 f2 : List UInt8) (hd : ([x0, x1, x2] : List UInt8).Nodup) (hm : m ≤ 100000) (h0 : f0.length = m) (h1 : f1.length = m) (h2 : f2.length = m) (hab : a ≤ b + 1) (hb : b ≤ 255) (w : World) (hL : LBox B x0 x1 x2 f0 f1 f2 a b w) :
    SeqStopsK Fence.wide n Tryz.prog 109 #[.pointer (some ⟨B + 2, 0, none⟩), .pointer (some ⟨B + 3, 0, none⟩), .pointer (some ⟨B, 0, none⟩), .pointer (some ⟨B + 1, 0, none⟩)] (encL (lineV x0 x1 x2 f0 f1 f2 m)) (Kp4 B) (fun ys => ys = List.range' a (b + 1 - a)) (fun _ => True) (b + 1 - a) w := fun l J Jx W hW hJ _ hY h0' =>
  lines1_in n l B m a b hn x0 x1 x2 f0 f1 f2 hd hm h0 h1 h2 hab hb J Jx W hJ hY (hL.kp (kp4_below hW hL.lt)) h0'
end Go.Proofs.YtdnebgilkfafhaaGreatDoor
namespace Go.Proofs.YtdnebgilkfafhaaGreatDoor
open Go.RowKit
set_option linter.unusedVariables false
set_option linter.unusedSimpArgs false
attribute [local go_sem] Oper.semAt_some ba_get ba_cut ba_add
set_option maxRecDepth 100000 in
theorem rows_any (n : Nat) (w : World) (h : n ≤ 1000000) : Calls Tryz.prog 70 #[.int .i64 (n : Int)] w (Ret (.int .i64 (Pl.rowsN n : Int)) w) := by
  go_enter Tryz.func70, Tryz.ntmps70
  go_wp2_with fail
  · go_ret
    rename_i h3
    simp at h3
    exact ⟨by show Ending.returned _ = Ending.returned _; simp only [Ending.returned.injEq]; exact ret_i (by unfold Pl.rowsN; omega), rfl⟩
  · go_ret
    rename_i h3
    simp at h3
    exact ⟨by show Ending.returned _ = Ending.returned _; simp only [Ending.returned.injEq]; exact ret_i (by unfold Pl.rowsN; omega), rfl⟩
/-- No panic comes out: said of the walk's end, so that a region that draws its order need not care for the slots where a panic would come. -/
def NoPanic (Q : Exit → Act → World → Prop) : Exit → Act → World → Prop
  | .panic _, _, _ => False
  | .normal, a, w => Q .normal a w
  | .ret, a, w => Q .ret a w
  | .exit i, a, w => Q (.exit i) a w
  | .goto l, a, w => Q (.goto l) a w
  | .outgrown, a, w => Q .outgrown a w
theorem NoPanic.to {Q : Exit → Act → World → Prop} : ∀ e a w, NoPanic Q e a w → Q e a w
  | .panic _, _, _, h => h.elim
  | .normal, _, _, h => h
  | .ret, _, _, h => h
  | .exit _, _, _, h => h
  | .goto _, _, _, h => h
  | .outgrown, _, _, h => h
/-- The parts of bytes, as cells. -/
def partC (d : List UInt8) (p : Nat) : List Value := [.int .i64 (p : Int), .string ⟨(Pl.partP d (UInt8.ofNat p)).toArray⟩]
def partCs (d : List UInt8) (l : List Nat) : List Value := l.flatMap (partC d)
theorem info_part : (Tryz.prog.info? 71).map (fun i => (i.zero, i.size, i.bytes)) = some (some (.agg #[.int .i64 0, .string ⟨#[]⟩]), 2, 24) := by kernel_rfl
def partLs (L : UInt8 → List UInt8) (l : List Nat) : List Value := l.flatMap fun p : Nat => [.int .i64 (p : Int), .string ⟨(L (UInt8.ofNat p)).toArray⟩]
theorem partLs_snoc (L : UInt8 → List UInt8) (l : List Nat) (x : Nat) : partLs L (l ++ [x]) = partLs L l ++ [.int .i64 (x : Int), .string ⟨(L (UInt8.ofNat x)).toArray⟩] := by simp [partLs]
theorem cell_two_new (w : World) (x y : Value) (t : TypeId) : ∀ j u, [x, y][j]? = some u → (w.alloc (.cells #[x, y] t)).cell? ((⟨w.heap.size, 0, none⟩ : Addr).add j) = some u := by
  intro j u hj
  match j, hj with
  | 0, hj => simp at hj; subst hj; simp [Addr.add]
  | 1, hj => simp at hj; subst hj; simp [Addr.add]
/-- A box that holds a slice of a known block, and the row that it owns: said of cells alone. -/
theorem boxrow_own {β : Type} (n₀ D G : Nat) (t e : TypeId) (size cap : Nat) (k : β → Nat) (f : β → List Value) : Own (fun s W => Boxed W D t (.slice (some ⟨G, 0, none⟩) (k s) cap) ∧ W.ownsRow n₀ e size (.slice (some ⟨G, 0, none⟩) (k s) cap) (k s) (f s)) := by
  rintro s X Y row ⟨hv, hr⟩ hg hrow
  have hr' := hr
  refine ⟨hv.kept hg (fun e' => ?_), hr.kept hg ?_⟩
  · obtain ⟨o, ho, hc⟩ := hrow D e'.symm
    rw [show X.heap[D]? = _ from hv] at ho; cases ho; cases hc
  · rcases hr'.2 with ⟨h, _⟩ | ⟨g, cap', cur, hv', _, hgb, _⟩
    · cases h
    · refine .inr fun e' => ?_
      injection hv' with h1 h2
      injection h1 with h1
      have hGg : G = g := by injection h1
      obtain ⟨o, ho, hc⟩ := hrow g (by rw [← hGg]; simpa [Value.ownBlock] using e'.symm)
      rw [hgb] at ho; cases ho; cases hc
theorem ownFrom_size {β : Type} (B N : Nat) : OwnFrom B (fun (_ : β) W => N ≤ W.heap.size) := fun _ _ _ _ hs hg _ => Nat.le_trans hs hg.size
/-- The block of a row that is owned holds cells. -/
theorem own_cells {W : World} {base : Nat} {e : TypeId} {size n cap G k : Nat} {xs : List Value} (h : W.ownsRow base e size (.slice (some ⟨G, 0, none⟩) n cap) k xs) : base ≤ G ∧ ∃ cur, W.heap[G]? = some (.cells cur e (0, 0)) := by
  rcases h.2 with ⟨h, _⟩ | ⟨g, cap', cur, hv', hb, hgb, _⟩
  · cases h
  · injection hv' with h1 h2
    injection h1 with h1
    have hGg : G = g := by injection h1
    subst hGg
    exact ⟨hb, cur, hgb⟩
/-- The full rows: the bytes, and zeros behind. -/
def fullP (d : List UInt8) : List UInt8 := d ++ List.replicate (3 * Pl.rowsN d.length - d.length) 0
theorem getD_full (d z f : List UInt8) (k : Nat) (hf : d ++ z = f) (hz : List.replicate k (0 : UInt8) = z) (j : Nat) : f.getD j 0 = d.getD j 0 := by
  rw [← hf, ← hz, List.getD_eq_getElem?_getD, List.getD_eq_getElem?_getD]
  rcases Nat.lt_or_ge j d.length with h | h
  · rw [List.getElem?_append_left h]
  · rw [List.getElem?_append_right h, List.getElem?_eq_none h, List.getElem?_replicate]
    split <;> rfl
theorem line_part (d : List UInt8) {s dl : Nat} {f z f0 f1 f2 : List UInt8} (hs : s = Pl.rowsN d.length) (hf : d ++ z = f) (hz : List.replicate (3 * s - dl) (0 : UInt8) = z) (e0 : List.take s f = f0) (e1 : List.take (2 * s - s) (List.drop s f) = f1) (e2 : List.take (3 * s - 2 * s) (List.drop (2 * s) f) = f2) {x : UInt8} (hx : x ∈ ([1, 2, 3, 4, 5] : List UInt8)) :
    lineV 1 2 3 f0 f1 f2 s x = Pl.partP d x := by
  unfold lineV Pl.partP
  rw [← hs]
  refine List.map_congr_left fun i hi => ?_
  have hi : i < s := List.mem_range.1 hi
  have hw : ((1, 2, 3) : UInt8 × UInt8 × UInt8) ∈ Pl.ways := by decide
  have g := fun y k hk => Pl.weight_eq hw hx k hk y
  simp only [] at g
  have a0 : f0.getD i 0 = d.getD i 0 := by
    rw [← e0, List.getD_eq_getElem?_getD, List.getElem?_take, if_pos hi, ← List.getD_eq_getElem?_getD, getD_full d z f _ hf hz]
  have a1 : f1.getD i 0 = d.getD (s + i) 0 := by
    rw [← e1, List.getD_eq_getElem?_getD, List.getElem?_take, if_pos (by omega), List.getElem?_drop, ← List.getD_eq_getElem?_getD, getD_full d z f _ hf hz]
  have a2 : f2.getD i 0 = d.getD (2 * s + i) 0 := by
    rw [← e2, List.getD_eq_getElem?_getD, List.getElem?_take, if_pos (by omega), List.getElem?_drop, ← List.getD_eq_getElem?_getD, getD_full d z f _ hf hz]
  rw [a0, a1, a2, g _ 0 (by decide), g _ 1 (by decide), g _ 2 (by decide)]
  rfl
theorem partLs_eq (d : List UInt8) {s dl : Nat} {f z f0 f1 f2 : List UInt8} (hs : s = Pl.rowsN d.length) (hdl : dl ≤ 3 * s) (hf : d ++ z = f) (hz : List.replicate (3 * s - dl) (0 : UInt8) = z) (e0 : List.take s f = f0) (e1 : List.take (2 * s - s) (List.drop s f) = f1) (e2 : List.take (3 * s - 2 * s) (List.drop (2 * s) f) = f2) :
    partLs (lineV 1 2 3 f0 f1 f2 s) [1, 2, 3, 4, 5] = partCs d [1, 2, 3, 4, 5] := by
  have g := fun x hx => line_part d hs hf hz e0 e1 e2 (x := x) hx
  unfold partLs partCs partC
  simp only [List.flatMap_cons, List.flatMap_nil]
  rw [g _ (by decide), g _ (by decide), g _ (by decide), g _ (by decide), g _ (by decide)]
set_option maxRecDepth 100000 in
set_option maxHeartbeats 4000000 in
theorem cut_any (d : List UInt8) (w : World) (hd : d.length ≤ 100000) :
    Calls Tryz.prog 35 #[.string ⟨d.toArray⟩] w (RetB (fun v w' => ∃ A c, v = .slice A 5 c ∧ w'.ownsRow w.heap.size 71 2 (.slice A 5 c) 5 (partCs d [1, 2, 3, 4, 5])) w) := by
  obtain ⟨s, hs⟩ : ∃ s, Pl.rowsN d.length = s := ⟨_, rfl⟩
  obtain ⟨dl, hdl⟩ : ∃ dl, d.length = dl := ⟨_, rfl⟩
  have hs3 : dl ≤ 3 * s ∧ 3 * s ≤ dl + 2 := by rw [← hs, hdl]; unfold Pl.rowsN; omega
  have hrows := fun W => rows_any d.length W (by omega)
  rw [hs] at hrows
  have hrep : ∀ W, _ := fun W => YtdnebgilkfafhaaGreatDoor.repeat0 (3 * s - dl) W (by omega)
  obtain ⟨z, hz⟩ : ∃ z, List.replicate (3 * s - dl) (0 : UInt8) = z := ⟨_, rfl⟩
  rw [hz] at hrep
  have HZ := Lib.hid hz
  refine (callsIn_wide (n := 4)).1 ?_
  refine callsIn_of_wp_marks Tryz.func35 rfl trivial ?_ rfl
  refine wpIn_wide.2 (Code.wp_mono NoPanic.to ?_)
  simp only [Tryz.ntmps35, List.size_toArray, List.length_cons, List.length_nil, Nat.reduceAdd, Nat.reduceSub, Array.replicate_succ, Array.replicate_zero, List.push_toArray, List.append_toArray, List.nil_append, List.cons_append]
  rw [hdl] at hrows
  have HR := Lib.hid hrows
  clear hrows
  go_wp2_with fail
  (with_reducible refine (HR.out w).mono ?_)
  rintro e w1 ⟨rfl, rfl⟩
  have hcast : ((3 * s - dl : Nat) : Int) = 3 * (s : Int) - (dl : Int) := by omega
  rw [hcast] at hrep
  have h1 := hs3.1
  have h2 := hs3.2
  go_wp2_with fail
  (with_reducible refine (hrep _).mono ?_)
  rintro e w2 ⟨rfl, hb2⟩
  have HP := Lib.hid hrep
  clear hrep
  have hzl : z.length = 3 * s - dl := by rw [← hz, List.length_replicate]
  have hcat : d.length + z.length ≤ 9223372036854775807 := by omega
  obtain ⟨f, hf⟩ : ∃ f, d ++ z = f := ⟨_, rfl⟩
  have hfl : f.length = 3 * s := by rw [← hf, List.length_append]; omega
  go_upto_region 3 with (fail)
  have hs100 : s ≤ 100000 := by omega
  have g1 : (s : Int) ≤ 3 * (s : Int) := by omega
  have g2 : IntKind.i64.wrap (2 * (s : Int)) = 2 * (s : Int) := by simp [IntKind.wrap, go_sem]; omega
  have g3 : 2 * (s : Int) ≤ 3 * (s : Int) := by omega
  have g4 : (s : Int) ≤ 2 * (s : Int) := by omega
  have g5 : 0 ≤ 2 * (s : Int) := by omega
  have g6 : (2 * (s : Int)).toNat = 2 * s := by omega
  refine wp_region_held_drew (S := (fun _ => True)) (by kernel_rfl) trivial (fun hHeld => ?_)
  refine tk 0 (v := ?_) rfl ?_ hHeld ?_
  rotate_left
  · (intro w' hSw; (try dsimp only at hSw); go_simp; try with_reducible rfl)
  simp only [Act.put, lay9]
  refine tk 1 (v := ?_) rfl ?_ hHeld ?_
  rotate_left
  · (intro w' hSw; (try dsimp only at hSw); go_simp; try with_reducible rfl)
  simp only [Act.put, lay9]
  refine tk 2 (v := ?_) rfl ?_ hHeld ?_
  rotate_left
  · (intro w' hSw; (try dsimp only at hSw); go_simp; try with_reducible rfl)
  simp only [Act.put, lay9]
  refine tk 3 (v := ?_) rfl ?_ hHeld ?_
  rotate_left
  · (intro w' hSw; (try dsimp only at hSw); go_simp; try with_reducible rfl)
  simp only [Act.put, lay9]
  refine tk 4 (v := ?_) rfl ?_ hHeld ?_
  rotate_left
  · (intro w' hSw; (try dsimp only at hSw); go_simp; try with_reducible rfl)
  simp only [Act.put, lay9]
  refine tk 5 (v := ?_) rfl ?_ hHeld ?_
  rotate_left
  · (intro w' hSw; (try dsimp only at hSw); go_simp; try with_reducible rfl)
  simp only [Act.put, lay9]
  refine tk 6 (v := ?_) rfl ?_ hHeld ?_
  rotate_left
  · (intro w' hSw; (try dsimp only at hSw); go_simp; try with_reducible rfl)
  simp only [Act.put, lay9]
  refine tk 7 (v := ?_) rfl ?_ hHeld ?_
  rotate_left
  · (intro w' hSw; (try dsimp only at hSw); go_simp; try with_reducible rfl)
  simp only [Act.put, lay9]
  refine tk 8 (v := ?_) rfl ?_ hHeld ?_
  rotate_left
  · (intro w' hSw; (try dsimp only at hSw); go_simp; try with_reducible rfl)
  simp only [Act.put, lay9]
  refine tk 9 (v := ?_) rfl ?_ hHeld ?_
  rotate_left
  · (intro w' hSw; (try dsimp only at hSw); go_simp; try with_reducible rfl)
  simp only [Act.put, lay9]
  refine tk 10 (v := ?_) rfl ?_ hHeld ?_
  rotate_left
  · (intro w' hSw; (try dsimp only at hSw); go_simp; try with_reducible rfl)
  simp only [Act.put, lay9]
  refine tk 11 (v := ?_) rfl ?_ hHeld ?_
  rotate_left
  · (intro w' hSw; (try dsimp only at hSw); go_simp; try with_reducible rfl)
  simp only [Act.put, lay9]
  refine tk 12 (v := ?_) rfl ?_ hHeld ?_
  rotate_left
  · (intro w' hSw; (try dsimp only at hSw); go_simp; try with_reducible rfl)
  simp only [Act.put, lay9]
  refine wpAnyH_ready (rs := [13]) (by kernel_rfl) (by simp) (AllReadyH.cons rfl (fun K hK => ?_) AllReadyH.nil)
  go_simp
  refine hK.out _ _ trivial (fun hHeld => ?_)
  clear hK K
  (try simp only [Act.put, lay9])
  refine wpAnyH_ready (rs := [14]) (by kernel_rfl) (by simp) (AllReadyH.cons rfl (fun K hK => ?_) AllReadyH.nil)
  go_simp
  refine hK.out _ _ trivial (fun hHeld => ?_)
  clear hK K
  (try simp only [Act.put, lay9])
  refine wpAnyH_done (by kernel_rfl) ?_ _
  obtain ⟨f0, e0⟩ : ∃ f0, List.take s f = f0 := ⟨_, rfl⟩
  obtain ⟨f1, e1⟩ : ∃ f1, List.take (2 * s - s) (List.drop s f) = f1 := ⟨_, rfl⟩
  obtain ⟨f2, e2⟩ : ∃ f2, List.take (3 * s - 2 * s) (List.drop (2 * s) f) = f2 := ⟨_, rfl⟩
  have l0 : f0.length = s := by rw [← e0]; simp; omega
  have l1 : f1.length = s := by rw [← e1]; simp; omega
  have l2 : f2.length = s := by rw [← e2]; simp; omega
  have HF := Lib.hid (And.intro e0 (And.intro e1 (And.intro e2 (And.intro l0 (And.intro l1 (And.intro l2 hf))))))
  simp only [e0, e1, e2]
  clear e0 e1 e2 l0 l1 l2 hf g1 g2 g3 g4 g5 g6 hcat hzl hfl
  obtain ⟨C, hC⟩ : ∃ C, w2.heap.size = C := ⟨_, rfl⟩
  generalize hV : World.drew (World.alloc w2 _) = V
  have hzC : V.heap[C]? = some (.cells #[.string ⟨f0.toArray⟩, .string ⟨f1.toArray⟩, .string ⟨f2.toArray⟩] 131 (0, 0)) := by rw [← hV, ← hC]; exact heap_alloc_new _ _
  have hbV : Below w.heap.size w V := by rw [← hV]; exact (hb2.trans ((Below.refl _ _).alloc hb2.size _)).drew
  have HV := Lib.hid (And.intro hzC (And.intro hbV hC))
  simp only [hC]
  clear hV hzC hbV hC hb2
  obtain ⟨i0, hi, hz0, hz1, hz2⟩ := info_parts info_part
  have HI := Lib.hid (And.intro hi (And.intro hz0 (And.intro hz1 hz2)))
  obtain ⟨V4, hmk, hown4, hg4⟩ := run_make_own (P := Tryz.prog) V w.heap.size 68 71 i0 _ 2 Tryz.underlying68 hi hz0 hz1 .i64 .i64 5 (by rw [hz2]; omega) (by decide) HV.out.2.1.size
  rw [show ((5 : Nat) : Int) = 5 from rfl] at hmk
  have HO := Lib.hid (And.intro hown4 hg4)
  clear hi hz0 hz1 hz2 hown4 hg4
  go_upto_region 5 with (fail)
  have hG4 := HO.out.1
  have hGD : V.heap.size < V4.heap.size := by
    rcases hG4.2 with ⟨h, _⟩ | ⟨g, cap, cur, hv, hb, hh, _⟩
    · cases h
    · injection hv with h1 h2
      injection h1 with h1
      rw [show V.heap.size = g by injection h1]
      exact blk_lt hh
  obtain ⟨G, hG⟩ : ∃ G, V.heap.size = G := ⟨_, rfl⟩
  obtain ⟨D, hD⟩ : ∃ D, V4.heap.size = D := ⟨_, rfl⟩
  have hCG : C < G := by rw [← hG]; exact blk_lt HV.out.1
  have HO2 := HO.out
  rw [hG] at HO2 hG4 hGD
  rw [hD] at hGD
  have hb5 : Below w.heap.size w (World.alloc V4 (.cells #[.slice (some ⟨G, 0, none⟩) 0 5] 68)) := by
    refine Below.alloc ?_ (by have := HV.out.2.1.size; omega) _
    exact HV.out.2.1.grown HO2.2 HV.out.2.1.size (fun k e => by cases e)
  have hx5 : Boxed (World.alloc V4 (.cells #[.slice (some ⟨G, 0, none⟩) 0 5] 68)) D 68 (.slice (some ⟨G, 0, none⟩) 0 5) := by
    have h := Boxed.new V4 68 (.slice (some ⟨G, 0, none⟩) 0 5)
    rwa [hD] at h
  have hC5 : (World.alloc V4 (.cells #[.slice (some ⟨G, 0, none⟩) 0 5] 68)).heap[C]? = some (.cells #[.string ⟨f0.toArray⟩, .string ⟨f1.toArray⟩, .string ⟨f2.toArray⟩] 131 (0, 0)) := by
    rw [Below.heap_alloc _ _ _ (by omega)]
    exact (HO2.2.block C (by omega) (by simp)).trans HV.out.1
  have hO5 := HO2.1.alloc (.cells #[.slice (some ⟨G, 0, none⟩) 0 5] 68)
  have hs5 : (World.alloc V4 (.cells #[.slice (some ⟨G, 0, none⟩) 0 5] 68)).heap.size = D + 1 := by simp [hD]
  clear hmk
  try simp only [hG]
  try simp only [hD]
  generalize hV5 : World.alloc V4 _ = V5
  rw [hV5] at hb5 hx5 hC5 hO5 hs5
  have H5 := Lib.hid (And.intro hb5 (And.intro hx5 (And.intro hO5 hs5)))
  clear hV5 hG hD hG4 HO2 hb5 hx5 hO5 hs5
  have c0 : V5.cell? ⟨C, 0, none⟩ = some (.string ⟨f0.toArray⟩) := by rw [cell_row V5 _ 0 _ _ hC5]; rfl
  have c1 : V5.cell? ⟨C, 1, none⟩ = some (.string ⟨f1.toArray⟩) := by rw [cell_row V5 _ 1 _ _ hC5]; rfl
  have c2 : V5.cell? ⟨C, 2, none⟩ = some (.string ⟨f2.toArray⟩) := by rw [cell_row V5 _ 2 _ _ hC5]; rfl
  have hln : ∀ W, Calls Tryz.prog 72 #[.agg #[.int .u8 1, .int .u8 2, .int .u8 3], .agg #[.string ⟨f0.toArray⟩, .string ⟨f1.toArray⟩, .string ⟨f2.toArray⟩], .int .i64 1, .int .i64 5] W _ := fun W => lines_any 1 2 3 f0 f1 f2 1 5 W
  go_wp2_with fail
  (with_reducible refine (hln _).mono ?_)
  clear hln
  rintro e W ⟨rfl, hLB, hbW, hsW⟩
  clear c0 c1 c2
  have hsz := H5.out.2.2.2
  rw [hsz] at hLB hsW
  simp only [hsz]
  clear hsz
  go_wp2_with fail
  have hL := lines1_stops 3 (D + 1) s 1 5 (by omega) 1 2 3 f0 f1 f2 (by decide) (by omega) HF.out.2.2.2.1 HF.out.2.2.2.2.1 HF.out.2.2.2.2.2.1 (by omega) (by omega) W hLB
  obtain ⟨L, hLe⟩ : ∃ L, lineV 1 2 3 f0 f1 f2 s = L := ⟨_, rfl⟩
  rw [hLe] at hL
  have hi := HI.out.1
  have hz1 := HI.out.2.2.1
  refine (wpIn_wide (n := 4)).1 ?_
  refine wpIn_rangeFunc_ownF rfl (by omega) (gf := 109) (lb := #[.pointer (some ⟨D + 1 + 2, 0, none⟩), .pointer (some ⟨D + 1 + 3, 0, none⟩), .pointer (some ⟨D + 1, 0, none⟩), .pointer (some ⟨D + 1 + 1, 0, none⟩)]) rfl trivial (enters_of Tryz.func109 (by kernel_rfl) rfl) hL kp4_t (kp4_b (by omega)) (Below.refl _ _) (fun _ => rfl)
    (fun pre W' => (Boxed W' D 68 (.slice (some ⟨G, 0, none⟩) pre.length 5) ∧ W'.ownsRow w.heap.size 71 2 (.slice (some ⟨G, 0, none⟩) pre.length 5) pre.length (partLs L pre)) ∧ (Below w.heap.size w W' ∧ D + 5 ≤ W'.heap.size)) (fun _ _ _ => False)
    ?own (fun _ _ _ _ _ hs _ _ => hs) ?start ?a1 ?assign ?body ?done ?stop
  case assign =>
    intro l x W K hK
    gi_wp2
    exact hK
  case own => exact OwnFrom.and (Own.from (boxrow_own w.heap.size D G 68 71 2 5 (fun pre => pre.length) (fun pre => partLs L pre)) _) (OwnFrom.and (ownFrom_below (Nat.le_refl _) (by have := H5.out.1.size; have := hbW.size; omega)) (ownFrom_size _ _))
  case start => exact ⟨⟨(hbW.block D (by have := H5.out.2.2.2; omega)).trans H5.out.2.1, H5.out.2.2.1.kept (grown_bel_pa hbW) (.inr (by simp [Value.ownBlock]))⟩, H5.out.1.trans (hbW.mono H5.out.1.size), by omega⟩
  case stop =>
    rintro D c pre W _ _ h _
    exact h.elim
  case body =>
    rintro l pre x W' ⟨⟨hv, hrow⟩, hB, hD5⟩ hlt
    have hc := hv.cell
    gi_wp2_with (gi_at_builtin; refine wpListIn_append_fits _ rfl _ _ 68 rfl w.heap.size 71 i0 2 Tryz.underlying68 hi hz1 G pre.length 5 _ rfl (hrow.alloc _) ⟨W'.heap.size, 0, none⟩ 1 1 [.int .i64 (x : Int), .string ⟨(L (UInt8.ofNat x)).toArray⟩] rfl rfl (cell_two_new _ _ _ _) (by simp [Value.oneCell']) (by omega) ?_; intro w1 hown' hgrow; have hv1 : Boxed w1 D 68 (.slice (some ⟨G, 0, none⟩) pre.length 5) := (hv.alloc _).kept hgrow (by simp; omega); have hc1 := hv1.cell; have hf1 := hv1.frozen)
    obtain ⟨hGb, cur, hcur⟩ := own_cells (hrow.alloc (.cells #[.int .i64 (x : Int), .string ⟨(L (UInt8.ofNat x)).toArray⟩] 71))
    have hsz := hB.size
    refine ⟨((KeepsOthers.alloc W' _).trans (KeepsOthers.of_grownBy hgrow fun j o ej hj => ?_)).trans (KeepsOthers.setCell _ _ _), fun k k1 k2 => ?_, ⟨?_, ?_⟩, ?_, ?_⟩
    · cases ej
      rw [hcur] at hj; cases hj; rfl
    · rw [Below.heap_setCell _ _ _ _ (by show k ≠ D; omega), hgrow.block k (by simp; omega) (by simp; omega), Below.heap_alloc _ _ _ (by omega)]
    · rw [List.length_append]; exact hv1.set _
    · rw [List.length_append, partLs_snoc]
      exact hown'.kept (grownBy_setCell' w1 D _) (.inr (by simp [Value.ownBlock]; omega))
    · exact ((((Below.refl _ W').alloc hsz _).grown hgrow (by simp; omega) (fun j ej => by cases ej; exact hGb)).setCell (p := ⟨D, 0, none⟩) (by show w.heap.size ≤ D; omega) _ |> fun h => hB.trans h)
    · have := hgrow.size; simp at this; simp; omega
  case done =>
    rintro E ys W' hE rfl ⟨⟨hv, hrow⟩, hB, hD5⟩ hK
    have hc := hv.cell
    go_wp2_with fail
    refine ⟨by simp, .inl ⟨_, _, rfl, run_takeDeferred hK, ?_⟩⟩
    refine ⟨_, results_tmp rfl _ _ _, ⟨_, rfl, ⟨some ⟨G, 0, none⟩, 5, rfl, ?_⟩, hB.trans (belowK_b (w := w) (Nat.le_refl _) W' E _ _ (by have := H5.out.1.size; have := hbW.size; omega) hK rfl rfl)⟩⟩
    have h := ownsRow_putObj hrow (.deferred none) hK rfl
    rw [← hLe, show List.range' 1 (5 + 1 - 1) = [1, 2, 3, 4, 5] from rfl, partLs_eq d hs.symm (by omega) HF.out.2.2.2.2.2.2 HZ.out HF.out.1 HF.out.2.1 HF.out.2.2.1] at h
    exact h
end Go.Proofs.YtdnebgilkfafhaaGreatDoor
