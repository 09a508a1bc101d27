/- The walk of hash's take: a block is taken in. No condition. -/
import Derived.Test.YtdnebgilkfafhaaGreatDoorHashS
import Derived.Deep.MidRow
import Derived.Lib.EndianMore
namespace Go.Proofs.YtdnebgilkfafhaaGreatDoor
open Go.RowKit
set_option linter.unusedVariables false
set_option linter.unusedSimpArgs false
theorem app_all {u v : List Nat} (hu : Pl.All32 u) (hv : Pl.All32 v) : Pl.All32 (u ++ v) := by
  intro i
  rw [List.getD_eq_getElem?_getD, List.getElem?_append]
  have h1 := hu i
  have h2 := hv (i - u.length)
  rw [List.getD_eq_getElem?_getD] at h1 h2
  split <;> assumption
theorem eight_all : Pl.All32 Pl.eight := by
  intro i
  rcases Nat.lt_or_ge i 8 with hi | hi
  · have : ∀ i, i < 8 → Pl.eight.getD i 0 < 4294967296 := by decide
    exact this i hi
  · rw [List.getD_eq_getElem?_getD, List.getElem?_eq_none hi]; decide
theorem xor_ones (x : Nat) (hx : x < 4294967296) : bits .xor .u32 (if IntKind.u32.signed = true then -1 else IntKind.u32.max) (x : Int) = ((4294967295 - x : Nat) : Int) := by
  have e : (if IntKind.u32.signed = true then (-1 : Int) else IntKind.u32.max) = ((4294967295 : Nat) : Int) := by decide
  rw [e, Go.u32_xor_nat _ _ (by decide) hx]
  have h1 : (BitVec.allOnes 32 ^^^ BitVec.ofNat 32 x).toNat = (~~~ (BitVec.ofNat 32 x)).toNat := by rw [BitVec.allOnes_xor]
  rw [BitVec.toNat_xor, BitVec.toNat_not, BitVec.toNat_allOnes, BitVec.toNat_ofNat, Nat.mod_eq_of_lt (show x < 2 ^ 32 from hx)] at h1
  congr 1
theorem rowU_len (k : Nat) (hk : k < 10) : (rowU k).length = 16 := by revert k; decide
theorem rowU_get (k : Nat) (hk : k < 10) : ∀ i, i < 16 → ((rowU k).getD i 0).toNat = (Pl.rowsB.getD k []).getD i 0 := by revert k; decide
theorem rowU_lt (k : Nat) (hk : k < 10) : ∀ i, i < 16 → ((rowU k).getD i 0).toNat < 16 := by revert k; decide
/-- A round begins: its row lies in a box of its own. -/
structure TR (w W : World) (M B D : Nat) (m V : List Nat) (R : List UInt8) : Prop where
  t : TK w W M B m V
  r : W.heap[D]? = some (.cells (u8s R).toArray 213 (0, 0))
theorem TR.new {w wr : World} {M B : Nat} {m V : List Nat} {R : List UInt8} {o : Obj} {vs : List Value} (h : TK w wr M B m V) (hr : ((wr.alloc o).setCells wr.heap.size 0 vs).heap[wr.heap.size]? = some (.cells (u8s R).toArray 213 (0, 0))) (hM : M < wr.heap.size) (hB : B < wr.heap.size) : TR w ((wr.alloc o).setCells wr.heap.size 0 vs) M B wr.heap.size m V R := by
  have hb : Below wr.heap.size wr ((wr.alloc o).setCells wr.heap.size 0 vs) := ((Below.refl _ _).alloc (Nat.le_refl _) o).trans (Lib.below_setCells_w (Nat.le_refl _) _ _ _)
  exact ⟨⟨(hb.block M hM).trans h.m, (hb.block B hB).trans h.v, h.bel.trans (hb.mono h.bel.size)⟩, hr⟩
theorem TR.step {w W W' : World} {M B D : Nat} {m V V' : List Nat} {R : List UInt8} (h : TR w W M B D m V R) (hM : w.heap.size ≤ M) (hMB : M < B) (hBD : B < D) (hg : W.grownBy W' (some B)) (hv : W'.heap[B]? = some (.cells (u32s V').toArray 190 (0, 0))) : TR w W' M B D m V' R :=
  ⟨h.t.step hM hMB hg hv, (hg.block D (blk_lt h.r) (by simp; omega)).trans h.r⟩
theorem TR.drew {w W : World} {M B D : Nat} {m V : List Nat} {R : List UInt8} (h : TR w W M B D m V R) : TR w W.drew M B D m V R := ⟨h.t.drew, h.r⟩
/-- What a round reads: two of a row's numbers, and two of the block's. -/
structure RM (W : World) (R M i j x y u v : Nat) : Prop where
  a : W.cell? ⟨R, i, none⟩ = some (.int .u8 (x : Int))
  b : W.cell? ⟨R, j, none⟩ = some (.int .u8 (y : Int))
  c : W.cell? ⟨M, x, none⟩ = some (.int .u32 (u : Int))
  d : W.cell? ⟨M, y, none⟩ = some (.int .u32 (v : Int))
theorem RM.kept {W W' : World} {R M i j x y u v B : Nat} (h : RM W R M i j x y u v) (hg : W.grownBy W' (some B)) (hr : R ≠ B) (hm : M ≠ B) : RM W' R M i j x y u v :=
  ⟨hg.cell h.a (by simpa using hr), hg.cell h.b (by simpa using hr), hg.cell h.c (by simpa using hm), hg.cell h.d (by simpa using hm)⟩
theorem grown_of_below {w w' : World} {r : Option Nat} (h : Below w.heap.size w w') : w.grownBy w' r := ⟨h.os, h.tape, h.output, h.size, fun k hk _ => h.block k hk⟩
theorem rows_step (k : Nat) (hk : k < 10) : Pl.rowsB.take (k + 1) = Pl.rowsB.take k ++ [Pl.rowsB.getD k []] := by revert k; decide
/-- The eight numbers, j of them turned. -/
def partH (h V : List Nat) (j : Nat) : List Nat := (List.range 8).map fun i => if i < j then h.getD i 0 ^^^ (V.getD i 0 ^^^ V.getD (i + 8) 0) else h.getD i 0
theorem partH_at (h V : List Nat) (j : Nat) (hj : j < 8) : (partH h V j).getD j 0 = h.getD j 0 := by
  unfold partH
  rw [List.getD_eq_getElem?_getD, List.getElem?_map, List.getElem?_range hj]
  simp
theorem partH_0 (h V : List Nat) (hh : h.length = 8) : partH h V 0 = h := by
  unfold partH
  refine List.ext_getElem (by simp [hh]) fun i h1 h2 => ?_
  simp [List.getD_eq_getElem?_getD, List.getElem?_eq_getElem h2]
theorem partH_8 (h V : List Nat) : partH h V 8 = (List.range 8).map fun i => h.getD i 0 ^^^ (V.getD i 0 ^^^ V.getD (i + 8) 0) := by
  unfold partH
  refine List.map_congr_left fun i hi => ?_
  rw [if_pos (by simpa using hi)]
theorem partH_step (h V : List Nat) (j : Nat) (hj : j < 8) : (partH h V j).set j (h.getD j 0 ^^^ (V.getD j 0 ^^^ V.getD (j + 8) 0)) = partH h V (j + 1) := by
  unfold partH
  refine List.ext_getElem (by simp) fun i h1 h2 => ?_
  rw [List.getElem_set]
  simp only [List.getElem_map, List.getElem_range]
  by_cases e : j = i
  · subst e; rw [if_pos rfl, if_pos (by omega)]
  · rw [if_neg e]
    by_cases e2 : i < j
    · rw [if_pos e2, if_pos (by omega)]
    · rw [if_neg e2, if_neg (by omega)]
/-- Two cells of the sixteen. -/
structure VC (W : World) (B j x y : Nat) : Prop where
  a : W.cell? ⟨B, j, none⟩ = some (.int .u32 (x : Int))
  b : W.cell? ⟨B, j + 8, none⟩ = some (.int .u32 (y : Int))
theorem VC.kept {W W' : World} {B j x y : Nat} (h : VC W B j x y) {r : Option Nat} (hg : W.grownBy W' r) (hr : some B ≠ r) : VC W' B j x y := ⟨hg.cell h.a hr, hg.cell h.b hr⟩
theorem mix_0 (V : List Nat) (hV : V.length = 16) (hA : Pl.All32 V) (x y : Nat) (B : Nat) (w : World) (hB : w.heap[B]? = some (.cells (u32s V).toArray 190 (0, 0))) :
    Calls Tryz.prog 146 #[.pointer (some ⟨B, 0, none⟩), .int .i64 0, .int .i64 4, .int .i64 8, .int .i64 12, .int .u32 (x : Int), .int .u32 (y : Int)] w
      (fun e w' => e = .returned (.tuple #[]) ∧ w'.heap[B]? = some (.cells (u32s (Pl.mixL V 0 4 8 12 x y)).toArray 190 (0, 0)) ∧ w.grownBy w' (some B)) := mix_any V hV hA 0 4 8 12 x y (by decide) (by decide) (by decide) (by decide) (by decide) (by decide) (by decide) (by decide) B w hB
theorem mix_1 (V : List Nat) (hV : V.length = 16) (hA : Pl.All32 V) (x y : Nat) (B : Nat) (w : World) (hB : w.heap[B]? = some (.cells (u32s V).toArray 190 (0, 0))) :
    Calls Tryz.prog 146 #[.pointer (some ⟨B, 0, none⟩), .int .i64 1, .int .i64 5, .int .i64 9, .int .i64 13, .int .u32 (x : Int), .int .u32 (y : Int)] w
      (fun e w' => e = .returned (.tuple #[]) ∧ w'.heap[B]? = some (.cells (u32s (Pl.mixL V 1 5 9 13 x y)).toArray 190 (0, 0)) ∧ w.grownBy w' (some B)) := mix_any V hV hA 1 5 9 13 x y (by decide) (by decide) (by decide) (by decide) (by decide) (by decide) (by decide) (by decide) B w hB
theorem mix_2 (V : List Nat) (hV : V.length = 16) (hA : Pl.All32 V) (x y : Nat) (B : Nat) (w : World) (hB : w.heap[B]? = some (.cells (u32s V).toArray 190 (0, 0))) :
    Calls Tryz.prog 146 #[.pointer (some ⟨B, 0, none⟩), .int .i64 2, .int .i64 6, .int .i64 10, .int .i64 14, .int .u32 (x : Int), .int .u32 (y : Int)] w
      (fun e w' => e = .returned (.tuple #[]) ∧ w'.heap[B]? = some (.cells (u32s (Pl.mixL V 2 6 10 14 x y)).toArray 190 (0, 0)) ∧ w.grownBy w' (some B)) := mix_any V hV hA 2 6 10 14 x y (by decide) (by decide) (by decide) (by decide) (by decide) (by decide) (by decide) (by decide) B w hB
theorem mix_3 (V : List Nat) (hV : V.length = 16) (hA : Pl.All32 V) (x y : Nat) (B : Nat) (w : World) (hB : w.heap[B]? = some (.cells (u32s V).toArray 190 (0, 0))) :
    Calls Tryz.prog 146 #[.pointer (some ⟨B, 0, none⟩), .int .i64 3, .int .i64 7, .int .i64 11, .int .i64 15, .int .u32 (x : Int), .int .u32 (y : Int)] w
      (fun e w' => e = .returned (.tuple #[]) ∧ w'.heap[B]? = some (.cells (u32s (Pl.mixL V 3 7 11 15 x y)).toArray 190 (0, 0)) ∧ w.grownBy w' (some B)) := mix_any V hV hA 3 7 11 15 x y (by decide) (by decide) (by decide) (by decide) (by decide) (by decide) (by decide) (by decide) B w hB
theorem mix_4 (V : List Nat) (hV : V.length = 16) (hA : Pl.All32 V) (x y : Nat) (B : Nat) (w : World) (hB : w.heap[B]? = some (.cells (u32s V).toArray 190 (0, 0))) :
    Calls Tryz.prog 146 #[.pointer (some ⟨B, 0, none⟩), .int .i64 0, .int .i64 5, .int .i64 10, .int .i64 15, .int .u32 (x : Int), .int .u32 (y : Int)] w
      (fun e w' => e = .returned (.tuple #[]) ∧ w'.heap[B]? = some (.cells (u32s (Pl.mixL V 0 5 10 15 x y)).toArray 190 (0, 0)) ∧ w.grownBy w' (some B)) := mix_any V hV hA 0 5 10 15 x y (by decide) (by decide) (by decide) (by decide) (by decide) (by decide) (by decide) (by decide) B w hB
theorem mix_5 (V : List Nat) (hV : V.length = 16) (hA : Pl.All32 V) (x y : Nat) (B : Nat) (w : World) (hB : w.heap[B]? = some (.cells (u32s V).toArray 190 (0, 0))) :
    Calls Tryz.prog 146 #[.pointer (some ⟨B, 0, none⟩), .int .i64 1, .int .i64 6, .int .i64 11, .int .i64 12, .int .u32 (x : Int), .int .u32 (y : Int)] w
      (fun e w' => e = .returned (.tuple #[]) ∧ w'.heap[B]? = some (.cells (u32s (Pl.mixL V 1 6 11 12 x y)).toArray 190 (0, 0)) ∧ w.grownBy w' (some B)) := mix_any V hV hA 1 6 11 12 x y (by decide) (by decide) (by decide) (by decide) (by decide) (by decide) (by decide) (by decide) B w hB
theorem mix_6 (V : List Nat) (hV : V.length = 16) (hA : Pl.All32 V) (x y : Nat) (B : Nat) (w : World) (hB : w.heap[B]? = some (.cells (u32s V).toArray 190 (0, 0))) :
    Calls Tryz.prog 146 #[.pointer (some ⟨B, 0, none⟩), .int .i64 2, .int .i64 7, .int .i64 8, .int .i64 13, .int .u32 (x : Int), .int .u32 (y : Int)] w
      (fun e w' => e = .returned (.tuple #[]) ∧ w'.heap[B]? = some (.cells (u32s (Pl.mixL V 2 7 8 13 x y)).toArray 190 (0, 0)) ∧ w.grownBy w' (some B)) := mix_any V hV hA 2 7 8 13 x y (by decide) (by decide) (by decide) (by decide) (by decide) (by decide) (by decide) (by decide) B w hB
theorem mix_7 (V : List Nat) (hV : V.length = 16) (hA : Pl.All32 V) (x y : Nat) (B : Nat) (w : World) (hB : w.heap[B]? = some (.cells (u32s V).toArray 190 (0, 0))) :
    Calls Tryz.prog 146 #[.pointer (some ⟨B, 0, none⟩), .int .i64 3, .int .i64 4, .int .i64 9, .int .i64 14, .int .u32 (x : Int), .int .u32 (y : Int)] w
      (fun e w' => e = .returned (.tuple #[]) ∧ w'.heap[B]? = some (.cells (u32s (Pl.mixL V 3 4 9 14 x y)).toArray 190 (0, 0)) ∧ w.grownBy w' (some B)) := mix_any V hV hA 3 4 9 14 x y (by decide) (by decide) (by decide) (by decide) (by decide) (by decide) (by decide) (by decide) B w hB
theorem u8s_cell {W : World} {B : Nat} {V : List UInt8} {t : TypeId} (h : W.heap[B]? = some (.cells (u8s V).toArray t (0, 0))) (i : Nat) (hi : i < V.length) : W.cell? ⟨B, i, none⟩ = some (.int .u8 ((V.getD i 0).toNat : Int)) := by
  rw [cell_row W B i _ t h]
  simpa using u8s_get V i hi
set_option maxRecDepth 1000000 in
set_option maxHeartbeats 4000000 in
theorem take_any (S : Nat) (h : List Nat) (b : List UInt8) (f t : Nat) (ht : t < 18446744073709551616) (last : Bool) (w : World) (H : StBox w S h b f t) (hA : Pl.All32 h) (hv : VHash w) :
    Calls Tryz.prog 103 #[.pointer (some ⟨S, 0, none⟩), .bool last] w
      (fun e w' => e = .returned (.tuple #[]) ∧ StBox w' S (Pl.takeB h b t last) b f t ∧ w.grownBy w' (some S)) := by
  have hS := H.lt
  have HH := Lib.hid H
  clear H
  go_enter Tryz.func103, Tryz.ntmps103
  go_wp2_with fail
  go_loopw [13] (fun i wr => ∃ (j : Nat), j ≤ 16 ∧ i = .int .i64 j ∧ Hid (wr.heap[w.heap.size]? = some (.cells (u32s (partW b j)).toArray 190 (0, 0))) ∧ Hid (Below w.heap.size w wr)) (fun i _ => 16 - (intOf i).toNat)
  case atStart => exact ⟨0, Nat.zero_le _, rfl, heap_alloc_new _ _, (Below.refl _ _).alloc (Nat.le_refl _) _⟩
  case round =>
    obtain ⟨j, hj, rfl, HM, HB⟩ := hrel
    by_cases hlt : j < 16
    · have hlt' : (j : Int) < 16 := by omega
      have e0 : IntKind.i64.wrap (4 * (j : Int)) = ((4 * j : Nat) : Int) := (IntWalk.i64_in _ (by omega)).trans (by omega)
      obtain ⟨q, hq⟩ : ∃ q, 4 * j = q := ⟨_, rfl⟩
      rw [hq] at e0
      have e1 : IntKind.i64.wrap ((q : Int) + 1) = (q : Int) + 1 := IntWalk.i64_in _ (by omega)
      have t1 : ((q : Int) + 1).toNat = q + 1 := by omega
      have e2 : IntKind.i64.wrap ((q : Int) + 2) = (q : Int) + 2 := IntWalk.i64_in _ (by omega)
      have t2 : ((q : Int) + 2).toNat = q + 2 := by omega
      have e3 : IntKind.i64.wrap ((q : Int) + 3) = (q : Int) + 3 := IntWalk.i64_in _ (by omega)
      have t3 : ((q : Int) + 3).toNat = q + 3 := by omega
      have n0 : (0 : Int) ≤ (q : Int) := by omega
      have n1 : (0 : Int) ≤ (q : Int) + 1 := by omega
      have n2 : (0 : Int) ≤ (q : Int) + 2 := by omega
      have n3 : (0 : Int) ≤ (q : Int) + 3 := by omega
      have u0 : (q : Int) < 64 := by omega
      have u1 : (q : Int) + 1 < 64 := by omega
      have u2 : (q : Int) + 2 < 64 := by omega
      have u3 : (q : Int) + 3 < 64 := by omega
      have HQ := Lib.hid hq; clear hq
      obtain ⟨b0, hb0⟩ : ∃ z, (b.getD q 0).toNat = z := ⟨_, rfl⟩
      obtain ⟨b1, hb1⟩ : ∃ z, (b.getD (q + 1) 0).toNat = z := ⟨_, rfl⟩
      obtain ⟨b2, hb2⟩ : ∃ z, (b.getD (q + 2) 0).toNat = z := ⟨_, rfl⟩
      obtain ⟨b3, hb3⟩ : ∃ z, (b.getD (q + 3) 0).toNat = z := ⟨_, rfl⟩
      have x0 : b0 < 256 := by rw [← hb0]; exact UInt8.toNat_lt _
      have x1 : b1 < 256 := by rw [← hb1]; exact UInt8.toNat_lt _
      have x2 : b2 < 256 := by rw [← hb2]; exact UInt8.toNat_lt _
      have x3 : b3 < 256 := by rw [← hb3]; exact UInt8.toNat_lt _
      have w0 : IntKind.u32.wrap (b0 : Int) = b0 := by rw [IntKind.wrap_u32]; omega
      have w1 : IntKind.u32.wrap (b1 : Int) = b1 := by rw [IntKind.wrap_u32]; omega
      have w2 : IntKind.u32.wrap (b2 : Int) = b2 := by rw [IntKind.wrap_u32]; omega
      have w3 : IntKind.u32.wrap (b3 : Int) = b3 := by rw [IntKind.wrap_u32]; omega
      have hSB := HH.out.below HB.out
      have HF : Four wr S q b0 b1 b2 b3 := ⟨by rw [hSB.cb q (by omega), hb0], by rw [hSB.cb (q + 1) (by omega), hb1], by rw [hSB.cb (q + 2) (by omega), hb2], by rw [hSB.cb (q + 3) (by omega), hb3]⟩
      have v1 : IntKind.u32.wrap ((b1 : Int) * 256) = (b1 : Int) * 256 := by rw [IntKind.wrap_u32]; omega
      have v2 : IntKind.u32.wrap ((b2 : Int) * 65536) = (b2 : Int) * 65536 := by rw [IntKind.wrap_u32]; omega
      have v3 : IntKind.u32.wrap ((b3 : Int) * 16777216) = (b3 : Int) * 16777216 := by rw [IntKind.wrap_u32]; omega
      have hraw := or_le4 b0 b1 b2 b3 x0 x1 x2 x3
      obtain ⟨x, hx⟩ : ∃ x, b0 + 256 * b1 + 65536 * b2 + 16777216 * b3 = x := ⟨_, rfl⟩
      rw [hx] at hraw
      have HV := Lib.hid (show Pl.le4 b (4 * j) = x by unfold Pl.le4; rw [HQ.out, hb0, hb1, hb2, hb3]; exact hx)
      clear hx
      have hmc := u32s_cell HM.out j (by rw [partW_len _ _ hj]; omega)
      have hmf := frozen_of wr w.heap.size j _ _ HM.out
      clear hb0 hb1 hb2 hb3 hSB
      go_wp2_with fail
      refine wp_region_held_drew (S := (fun w' => Four w' S q b0 b1 b2 b3)) (by kernel_rfl) (by exact ⟨HF.c0, HF.c1, HF.c2, HF.c3⟩) (fun hHeld => ?_)
      refine tk 0 (v := ?_) rfl ?_ hHeld ?_
      rotate_left
      · (intro w' hSw; obtain ⟨hS0, hS1, hS2, hS3⟩ := hSw; go_simp; try with_reducible rfl)
      simp only [Act.put, lay9]
      refine tk 1 (v := ?_) rfl ?_ hHeld ?_
      rotate_left
      · (intro w' hSw; obtain ⟨hS0, hS1, hS2, hS3⟩ := hSw; go_simp; try with_reducible rfl)
      simp only [Act.put, lay9]
      refine tk 2 (v := ?_) rfl ?_ hHeld ?_
      rotate_left
      · (intro w' hSw; obtain ⟨hS0, hS1, hS2, hS3⟩ := hSw; go_simp; try with_reducible rfl)
      simp only [Act.put, lay9]
      refine tk 3 (v := ?_) rfl ?_ hHeld ?_
      rotate_left
      · (intro w' hSw; obtain ⟨hS0, hS1, hS2, hS3⟩ := hSw; go_simp; try with_reducible rfl)
      simp only [Act.put, lay9]
      refine tk 4 (v := ?_) rfl ?_ hHeld ?_
      rotate_left
      · (intro w' hSw; obtain ⟨hS0, hS1, hS2, hS3⟩ := hSw; go_simp; try with_reducible rfl)
      simp only [Act.put, lay9]
      refine tk 5 (v := ?_) rfl ?_ hHeld ?_
      rotate_left
      · (intro w' hSw; obtain ⟨hS0, hS1, hS2, hS3⟩ := hSw; go_simp; try with_reducible rfl)
      simp only [Act.put, lay9]
      refine tk 6 (v := ?_) rfl ?_ hHeld ?_
      rotate_left
      · (intro w' hSw; obtain ⟨hS0, hS1, hS2, hS3⟩ := hSw; go_simp; try with_reducible rfl)
      simp only [Act.put, lay9]
      refine tk 7 (v := ?_) rfl ?_ hHeld ?_
      rotate_left
      · (intro w' hSw; obtain ⟨hS0, hS1, hS2, hS3⟩ := hSw; go_simp; try with_reducible rfl)
      simp only [Act.put, lay9]
      refine tk 8 (v := ?_) rfl ?_ hHeld ?_
      rotate_left
      · (intro w' hSw; obtain ⟨hS0, hS1, hS2, hS3⟩ := hSw; go_simp; try with_reducible rfl)
      simp only [Act.put, lay9]
      refine tk 9 (v := ?_) rfl ?_ hHeld ?_
      rotate_left
      · (intro w' hSw; obtain ⟨hS0, hS1, hS2, hS3⟩ := hSw; go_simp; try with_reducible rfl)
      simp only [Act.put, lay9]
      refine tk 10 (v := ?_) rfl ?_ hHeld ?_
      rotate_left
      · (intro w' hSw; obtain ⟨hS0, hS1, hS2, hS3⟩ := hSw; go_simp; try with_reducible rfl)
      simp only [Act.put, lay9]
      refine tk 11 (v := ?_) rfl ?_ hHeld ?_
      rotate_left
      · (intro w' hSw; obtain ⟨hS0, hS1, hS2, hS3⟩ := hSw; go_simp; try with_reducible rfl)
      simp only [Act.put, lay9]
      refine tk 12 (v := ?_) rfl ?_ hHeld ?_
      rotate_left
      · (intro w' hSw; obtain ⟨hS0, hS1, hS2, hS3⟩ := hSw; go_simp; try with_reducible rfl)
      simp only [Act.put, lay9]
      refine tk 13 (v := ?_) rfl ?_ hHeld ?_
      rotate_left
      · (intro w' hSw; obtain ⟨hS0, hS1, hS2, hS3⟩ := hSw; go_simp; try with_reducible rfl)
      simp only [Act.put, lay9]
      refine tk 14 (v := ?_) rfl ?_ hHeld ?_
      rotate_left
      · (intro w' hSw; obtain ⟨hS0, hS1, hS2, hS3⟩ := hSw; go_simp; try with_reducible rfl)
      simp only [Act.put, lay9]
      refine tk 15 (v := ?_) rfl ?_ hHeld ?_
      rotate_left
      · (intro w' hSw; obtain ⟨hS0, hS1, hS2, hS3⟩ := hSw; go_simp; try with_reducible rfl)
      simp only [Act.put, lay9]
      refine tk 16 (v := ?_) rfl ?_ hHeld ?_
      rotate_left
      · (intro w' hSw; obtain ⟨hS0, hS1, hS2, hS3⟩ := hSw; go_simp; try with_reducible rfl)
      simp only [Act.put, lay9]
      refine tk 17 (v := ?_) rfl ?_ hHeld ?_
      rotate_left
      · (intro w' hSw; obtain ⟨hS0, hS1, hS2, hS3⟩ := hSw; go_simp; try with_reducible rfl)
      simp only [Act.put, lay9]
      refine tk 18 (v := ?_) rfl ?_ hHeld ?_
      rotate_left
      · (intro w' hSw; obtain ⟨hS0, hS1, hS2, hS3⟩ := hSw; go_simp; try with_reducible rfl)
      simp only [Act.put, lay9]
      refine tk 19 (v := ?_) rfl ?_ hHeld ?_
      rotate_left
      · (intro w' hSw; obtain ⟨hS0, hS1, hS2, hS3⟩ := hSw; go_simp; try with_reducible rfl)
      simp only [Act.put, lay9]
      refine tk 20 (v := ?_) rfl ?_ hHeld ?_
      rotate_left
      · (intro w' hSw; obtain ⟨hS0, hS1, hS2, hS3⟩ := hSw; go_simp; try with_reducible rfl)
      simp only [Act.put, lay9]
      refine tk 21 (v := ?_) rfl ?_ hHeld ?_
      rotate_left
      · (intro w' hSw; obtain ⟨hS0, hS1, hS2, hS3⟩ := hSw; go_simp; try with_reducible rfl)
      simp only [Act.put, lay9]
      refine tk 22 (v := ?_) rfl ?_ hHeld ?_
      rotate_left
      · (intro w' hSw; obtain ⟨hS0, hS1, hS2, hS3⟩ := hSw; go_simp; try with_reducible rfl)
      simp only [Act.put, lay9]
      refine tk 23 (v := ?_) rfl ?_ hHeld ?_
      rotate_left
      · (intro w' hSw; obtain ⟨hS0, hS1, hS2, hS3⟩ := hSw; go_simp; try with_reducible rfl)
      simp only [Act.put, lay9]
      refine tk 24 (v := ?_) rfl ?_ hHeld ?_
      rotate_left
      · (intro w' hSw; obtain ⟨hS0, hS1, hS2, hS3⟩ := hSw; go_simp; try with_reducible rfl)
      simp only [Act.put, lay9]
      refine tk 25 (v := ?_) rfl ?_ hHeld ?_
      rotate_left
      · (intro w' hSw; obtain ⟨hS0, hS1, hS2, hS3⟩ := hSw; go_simp; try with_reducible rfl)
      simp only [Act.put, lay9]
      refine tk 26 (v := ?_) rfl ?_ hHeld ?_
      rotate_left
      · (intro w' hSw; obtain ⟨hS0, hS1, hS2, hS3⟩ := hSw; go_simp; try with_reducible rfl)
      simp only [Act.put, lay9]
      refine tk 27 (v := ?_) rfl ?_ hHeld ?_
      rotate_left
      · (intro w' hSw; obtain ⟨hS0, hS1, hS2, hS3⟩ := hSw; go_simp; try with_reducible rfl)
      simp only [Act.put, lay9]
      refine tk 28 (v := ?_) rfl ?_ hHeld ?_
      rotate_left
      · (intro w' hSw; obtain ⟨hS0, hS1, hS2, hS3⟩ := hSw; go_simp; try with_reducible rfl)
      simp only [Act.put, lay9]
      refine tk 29 (v := ?_) rfl ?_ hHeld ?_
      rotate_left
      · (intro w' hSw; obtain ⟨hS0, hS1, hS2, hS3⟩ := hSw; go_simp; try with_reducible rfl)
      simp only [Act.put, lay9]
      refine tk 30 (v := ?_) rfl ?_ hHeld ?_
      rotate_left
      · (intro w' hSw; obtain ⟨hS0, hS1, hS2, hS3⟩ := hSw; go_simp; try with_reducible rfl)
      simp only [Act.put, lay9]
      refine tk 31 (v := ?_) rfl ?_ hHeld ?_
      rotate_left
      · (intro w' hSw; obtain ⟨hS0, hS1, hS2, hS3⟩ := hSw; go_simp; try with_reducible rfl)
      simp only [Act.put, lay9]
      refine tk 32 (v := ?_) rfl ?_ hHeld ?_
      rotate_left
      · (intro w' hSw; obtain ⟨hS0, hS1, hS2, hS3⟩ := hSw; go_simp; try with_reducible rfl)
      simp only [Act.put, lay9]
      refine tk 33 (v := ?_) rfl ?_ hHeld ?_
      rotate_left
      · (intro w' hSw; obtain ⟨hS0, hS1, hS2, hS3⟩ := hSw; go_simp; try with_reducible rfl)
      simp only [Act.put, lay9]
      refine tk 34 (v := ?_) rfl ?_ hHeld ?_
      rotate_left
      · (intro w' hSw; obtain ⟨hS0, hS1, hS2, hS3⟩ := hSw; go_simp; try with_reducible rfl)
      simp only [Act.put, lay9]
      refine tk 35 (v := ?_) rfl ?_ hHeld ?_
      rotate_left
      · (intro w' hSw; obtain ⟨hS0, hS1, hS2, hS3⟩ := hSw; go_simp; try with_reducible rfl)
      simp only [Act.put, lay9]
      refine tk 36 (v := ?_) rfl ?_ hHeld ?_
      rotate_left
      · (intro w' hSw; obtain ⟨hS0, hS1, hS2, hS3⟩ := hSw; go_simp; try with_reducible rfl)
      simp only [Act.put, lay9]
      refine tk 37 (v := ?_) rfl ?_ hHeld ?_
      rotate_left
      · (intro w' hSw; obtain ⟨hS0, hS1, hS2, hS3⟩ := hSw; go_simp; try with_reducible rfl)
      simp only [Act.put, lay9]
      refine tk 38 (v := ?_) rfl ?_ hHeld ?_
      rotate_left
      · (intro w' hSw; obtain ⟨hS0, hS1, hS2, hS3⟩ := hSw; go_simp; try with_reducible rfl)
      simp only [Act.put, lay9]
      refine wpAnyH_ready (rs := [39]) (by kernel_rfl) (by simp) (AllReadyH.cons rfl (fun K hK => ?_) AllReadyH.nil)
      go_simp
      have hk : Four (wr.setCell ⟨w.heap.size, j, none⟩ (.int .u32 (x : Int))).drew S q b0 b1 b2 b3 := HF.kept (grown_drew (grown_set _ _ _ _)) (by simp; omega)
      refine hK.out _ _ hk (fun hHeld => ?_)
      clear hK K
      (try simp only [Act.put, lay9])
      refine wpAnyH_done (by kernel_rfl) ?_ _
      go_wp2_with fail
      go_roundw
      case rel =>
        refine ⟨j + 1, by omega, by go_num, ?_, ?_⟩
        · have := u32s_store HM.out j x
          rw [← HV.out, partW_step b j hlt] at this
          rw [← HV.out]
          exact this
        · exact (HB.out.setCell (Nat.le_refl _) _).drew
      case measure => simp [intOf]; omega
    · obtain rfl : j = 16 := by omega
      go_wp2_with fail
      have hS1 := HH.out.below HB.out
      have hh8 := HH.out.hl
      have hM0 : (wr.alloc (.cells (u32s (List.replicate 16 0)).toArray 190)).heap[w.heap.size]? = some (.cells (u32s (Pl.words16 b)).toArray 190 (0, 0)) := by
        rw [Below.heap_alloc _ _ _ (blk_lt HM.out), ← partW_16]; exact HM.out
      have hV0 : (wr.alloc (.cells (u32s (List.replicate 16 0)).toArray 190)).heap[wr.heap.size]? = some (.cells (u32s (List.replicate 16 0)).toArray 190 (0, 0)) := heap_alloc_new _ _
      have hbV : Below w.heap.size w (wr.alloc (.cells (u32s (List.replicate 16 0)).toArray 190)) := HB.out.alloc HB.out.size _
      have hBM : w.heap.size < wr.heap.size := blk_lt HM.out
      have hS0 := HH.out.below hbV
      refine wp_region_held_drew (S := (fun _ => True)) (by kernel_rfl) trivial (fun hHeld => ?_)
      refine tk 0 (v := ?_) rfl ?_ hHeld ?_
      rotate_left
      · (intro w' hSw; (try dsimp only at hSw); go_simp; try with_reducible rfl)
      simp only [Act.put, lay9]
      refine tk 1 (v := ?_) rfl ?_ hHeld ?_
      rotate_left
      · (intro w' hSw; (try dsimp only at hSw); go_simp; try with_reducible rfl)
      simp only [Act.put, lay9]
      refine tk 2 (v := ?_) rfl ?_ hHeld ?_
      rotate_left
      · (intro w' hSw; (try dsimp only at hSw); go_simp; try with_reducible rfl)
      simp only [Act.put, lay9]
      refine tk 3 (v := ?_) rfl ?_ hHeld ?_
      rotate_left
      · (intro w' hSw; (try dsimp only at hSw); go_simp; try with_reducible rfl)
      simp only [Act.put, lay9]
      refine tk 4 (v := ?_) rfl ?_ hHeld ?_
      rotate_left
      · (intro w' hSw; (try dsimp only at hSw); go_simp; try with_reducible rfl)
      simp only [Act.put, lay9]
      refine wpAnyH_ready (rs := [5]) (by kernel_rfl) (by simp) (AllReadyH.cons rfl (fun K hK => ?_) AllReadyH.nil)
      refine copy_step rfl (.tmp 58) (.tmp 62) 212 212 rfl 89 1 Tryz.underlying212 (by kernel_rfl) wr.heap.size 0 8 16 ⟨S, 0, none⟩ 8 8 rfl rfl (u32s (List.replicate 16 0)) 190 hV0 (u32s h) (by rw [u32s_len, hh8]; rfl) (fun j v hj => ?_) (by rw [u32s_len, u32s_len, hh8]; simp) (u32s_one h) wr.heap.size _ (Below.refl _ _) (Nat.le_refl _) ?_
      · have hj8 : j < 8 := by
          have := (List.getElem?_eq_some_iff.1 hj).1
          rwa [u32s_len, hh8] at this
        rw [u32s_get h j (by omega)] at hj
        rw [← hj, addr_add, Nat.zero_add]
        exact hS0.ch j hj8
      intro W2 hV2 hb2 hs2 ho2
      have hT2 : TK w W2 w.heap.size wr.heap.size (Pl.words16 b) (partV h 0) := by
        have e0 : splice (u32s (List.replicate 16 0)) 0 (u32s h) = u32s (partV h 0) := by
          have el : (u32s h).length = 8 := by rw [u32s_len, hh8]
          unfold splice partV
          rw [el]
          simp [u32s]
        refine ⟨(ho2 _ (by omega)).trans hM0, ?_, ?_⟩
        · rw [← e0]; exact hV2.out
        · have hb3 : Below wr.heap.size (wr.alloc (.cells (u32s (List.replicate 16 0)).toArray 190)) W2 := ⟨hb2.os, hb2.tape, hb2.output, hb2.size, hb2.block⟩
          exact hbV.trans (hb3.mono (Nat.le_of_lt hBM))
      have HT2 := Lib.hid hT2
      clear hV2 hb2 hs2 ho2 hM0 hV0 hbV hS0 hS1 hT2 HM HB hlt
      refine hK.out _ _ trivial (fun hHeld => ?_)
      clear hK K
      (try simp only [Act.put, lay9])
      refine wpAnyH_done (by kernel_rfl) ?_ _
      obtain ⟨B, hB⟩ : ∃ B, wr.heap.size = B := ⟨_, rfl⟩
      rw [hB] at hBM HT2 ⊢
      clear hB
      have hve := (hv.below HT2.out.bel).e
      obtain ⟨E8, hE8⟩ : ∃ V, Pl.eight = V := ⟨_, rfl⟩
      rw [hE8] at hve
      have hE8l : E8.length = 8 := by rw [← hE8]; rfl
      have HE8 := Lib.hid hE8; clear hE8
      go_wp2_with (with_reducible refine wpList_load_mid rfl 90 _ rfl 0 0 rfl (u32s E8) _ hve.range Tryz.underlying90 rfl (by rw [u32s_len, hE8l]; exact info_8) ?_)
      clear hve
      go_loopw [65] (fun i wr => ∃ (j : Nat), j ≤ 8 ∧ i = .int .i64 j ∧ Hid (TK w wr w.heap.size B (Pl.words16 b) (partV h j))) (fun i _ => 8 - (intOf i).toNat)
      case atStart => exact ⟨0, Nat.zero_le _, rfl, HT2.out⟩
      case round =>
        obtain ⟨j, hj, rfl, HT⟩ := hrel
        by_cases hlt : j < 8
        · have hx := index8 E8 hE8l j hlt
          obtain ⟨x, hxx⟩ : ∃ x, E8.getD j 0 = x := ⟨_, rfl⟩
          rw [hxx] at hx
          have HX := Lib.hid hxx; clear hxx
          have e1 : IntKind.i64.wrap (8 + (j : Int)) = 8 + (j : Int) := IntWalk.i64_in _ (by omega)
          have n1 : (0 : Int) ≤ 8 + (j : Int) := by omega
          have u1 : 8 + (j : Int) < 16 := by omega
          have t1 : (8 + (j : Int)).toNat = 8 + j := by omega
          have hvc := u32s_cell HT.out.v (8 + j) (by rw [partV_len _ hh8 _ hj]; omega)
          have hvf := frozen_of wr B (8 + j) _ _ HT.out.v
          go_wp2_with fail
          go_roundw
          case rel =>
            refine ⟨j + 1, by omega, by go_num, ?_⟩
            have := HT.out.set (Nat.le_refl _) hBM (8 + j) x
            rw [← HX.out, ← HE8.out, partV_step h hh8 j hlt] at this
            rw [← HX.out, ← HE8.out]
            exact this
          case measure => simp [intOf]; omega
        · obtain rfl : j = 8 := by omega
          rw [partV_8] at HT
          clear hlt hj
          obtain ⟨V0, hV0⟩ : ∃ V, h ++ Pl.eight = V := ⟨_, rfl⟩
          have hl0 : V0.length = 16 := by rw [← hV0, List.length_append, hh8]; rfl
          have hA0 : Pl.All32 V0 := by rw [← hV0]; exact app_all hA eight_all
          rw [hV0] at HT
          obtain ⟨r1, hr1⟩ : ∃ z, t % 4294967296 = z := ⟨_, rfl⟩
          have hw1 : IntKind.u32.wrap (t : Int) = (r1 : Int) := by rw [IntKind.wrap_u32]; omega
          have hr1l : r1 < 4294967296 := by omega
          obtain ⟨r2, hr2⟩ : ∃ z, t / 4294967296 % 4294967296 = z := ⟨_, rfl⟩
          have hw2 : IntKind.u32.wrap ((t : Int) / 4294967296) = (r2 : Int) := by rw [IntKind.wrap_u32]; omega
          have hr2l : r2 < 4294967296 := by omega
          have ht0 : (0 : Int) ≤ (t : Int) := by omega
          have ht1 : (t : Int) < 18446744073709551616 := by omega
          have HR1 := Lib.hid hr1; clear hr1
          have HR2 := Lib.hid hr2; clear hr2
          go_wp2_with fail
          obtain ⟨p1, hp1⟩ : ∃ z, V0.getD 12 0 = z := ⟨_, rfl⟩
          have q1 := u32s_cell HT.out.v 12 (by omega)
          have q3 := frozen_of wr B 12 _ _ HT.out.v
          have q4 := (HH.out.below HT.out.bel).ct
          rw [hp1] at q1
          have l1 : p1 < 4294967296 := by rw [← hp1]; exact hA0 _
          have ex : bits .xor .u32 (p1 : Int) (r1 : Int) = ((p1 ^^^ r1 : Nat) : Int) := Go.u32_xor_nat _ _ l1 hr1l
          refine wp_region_held_drew (S := (fun w' => w'.cell? ⟨S, 73, none⟩ = some (.int .u64 (t : Int)))) (by kernel_rfl) (by exact q4) (fun hHeld => ?_)
          refine tk 0 (v := ?_) rfl ?_ hHeld ?_
          rotate_left
          · (intro w' hSw; (try dsimp only at hSw); go_simp; try with_reducible rfl)
          simp only [Act.put, lay9]
          refine tk 2 (v := ?_) rfl ?_ hHeld ?_
          rotate_left
          · (intro w' hSw; (try dsimp only at hSw); go_simp; try with_reducible rfl)
          simp only [Act.put, lay9]
          refine tk 3 (v := ?_) rfl ?_ hHeld ?_
          rotate_left
          · (intro w' hSw; (try dsimp only at hSw); go_simp; try with_reducible rfl)
          simp only [Act.put, lay9]
          refine tk 4 (v := ?_) rfl ?_ hHeld ?_
          rotate_left
          · (intro w' hSw; (try dsimp only at hSw); go_simp; try with_reducible rfl)
          simp only [Act.put, lay9]
          refine tk 5 (v := ?_) rfl ?_ hHeld ?_
          rotate_left
          · (intro w' hSw; (try dsimp only at hSw); go_simp; try with_reducible rfl)
          simp only [Act.put, lay9]
          refine tk 6 (v := ?_) rfl ?_ hHeld ?_
          rotate_left
          · (intro w' hSw; (try dsimp only at hSw); go_simp; try with_reducible rfl)
          simp only [Act.put, lay9]
          refine wpAnyH_ready (rs := [1]) (by kernel_rfl) (by simp) (AllReadyH.cons rfl (fun K hK => ?_) AllReadyH.nil)
          go_simp
          refine hK.out _ _ hHeld (fun hHeld => ?_)
          clear hK K
          (try simp only [Act.put, lay9])
          refine tk 7 (v := ?_) rfl ?_ hHeld ?_
          rotate_left
          · (intro w' hSw; (try dsimp only at hSw); go_simp; try with_reducible rfl)
          simp only [Act.put, lay9]
          refine tk 8 (v := ?_) rfl ?_ hHeld ?_
          rotate_left
          · (intro w' hSw; (try dsimp only at hSw); go_simp; try with_reducible rfl)
          simp only [Act.put, lay9]
          refine wpAnyH_ready (rs := [9]) (by kernel_rfl) (by simp) (AllReadyH.cons rfl (fun K hK => ?_) AllReadyH.nil)
          go_simp
          have HTa : Hid (TK w (wr.setCell ⟨B, 12, none⟩ (.int .u32 ((p1 ^^^ r1 : Nat) : Int))).drew w.heap.size B (Pl.words16 b) (V0.set 12 (p1 ^^^ r1))) := (HT.out.set (Nat.le_refl _) hBM 12 (p1 ^^^ r1)).drew
          have hk : (wr.setCell ⟨B, 12, none⟩ (.int .u32 ((p1 ^^^ r1 : Nat) : Int))).drew.cell? ⟨S, 73, none⟩ = some (.int .u64 (t : Int)) := (HH.out.below HTa.out.bel).ct
          refine hK.out _ _ hk (fun hHeld => ?_)
          clear hK K
          (try simp only [Act.put, lay9])
          refine wpAnyH_done (by kernel_rfl) ?_ _
          obtain ⟨V1, hV1⟩ : ∃ V, V0.set 12 (p1 ^^^ r1) = V := ⟨_, rfl⟩
          rw [hV1] at HTa
          have hl1 : V1.length = 16 := by rw [← hV1, List.length_set]; exact hl0
          have hA1 : Pl.All32 V1 := by rw [← hV1]; exact hA0.set _ (Pl.xor_lt l1 hr1l)
          obtain ⟨Wa, hWa⟩ : ∃ W, (wr.setCell ⟨B, 12, none⟩ (.int .u32 ((p1 ^^^ r1 : Nat) : Int))).drew = W := ⟨_, rfl⟩
          rw [hWa] at HTa ⊢
          clear hWa hk q1 q3 q4 ex hHeld HT
          go_wp2_with fail
          obtain ⟨p2, hp2⟩ : ∃ z, V1.getD 13 0 = z := ⟨_, rfl⟩
          have q1 := u32s_cell HTa.out.v 13 (by omega)
          have q3 := frozen_of Wa B 13 _ _ HTa.out.v
          have q4 := (HH.out.below HTa.out.bel).ct
          rw [hp2] at q1
          have l2 : p2 < 4294967296 := by rw [← hp2]; exact hA1 _
          have ex : bits .xor .u32 (p2 : Int) (r2 : Int) = ((p2 ^^^ r2 : Nat) : Int) := Go.u32_xor_nat _ _ l2 hr2l
          refine wp_region_held_drew (S := (fun w' => w'.cell? ⟨S, 73, none⟩ = some (.int .u64 (t : Int)))) (by kernel_rfl) (by exact q4) (fun hHeld => ?_)
          refine tk 0 (v := ?_) rfl ?_ hHeld ?_
          rotate_left
          · (intro w' hSw; (try dsimp only at hSw); go_simp; try with_reducible rfl)
          simp only [Act.put, lay9]
          refine tk 2 (v := ?_) rfl ?_ hHeld ?_
          rotate_left
          · (intro w' hSw; (try dsimp only at hSw); go_simp; try with_reducible rfl)
          simp only [Act.put, lay9]
          refine tk 3 (v := ?_) rfl ?_ hHeld ?_
          rotate_left
          · (intro w' hSw; (try dsimp only at hSw); go_simp; try with_reducible rfl)
          simp only [Act.put, lay9]
          refine tk 4 (v := ?_) rfl ?_ hHeld ?_
          rotate_left
          · (intro w' hSw; (try dsimp only at hSw); go_simp; try with_reducible rfl)
          simp only [Act.put, lay9]
          refine tk 5 (v := ?_) rfl ?_ hHeld ?_
          rotate_left
          · (intro w' hSw; (try dsimp only at hSw); go_simp; try with_reducible rfl)
          simp only [Act.put, lay9]
          refine tk 6 (v := ?_) rfl ?_ hHeld ?_
          rotate_left
          · (intro w' hSw; (try dsimp only at hSw); go_simp; try with_reducible rfl)
          simp only [Act.put, lay9]
          refine tk 7 (v := ?_) rfl ?_ hHeld ?_
          rotate_left
          · (intro w' hSw; (try dsimp only at hSw); go_simp; try with_reducible rfl)
          simp only [Act.put, lay9]
          refine wpAnyH_ready (rs := [1]) (by kernel_rfl) (by simp) (AllReadyH.cons rfl (fun K hK => ?_) AllReadyH.nil)
          go_simp
          refine hK.out _ _ hHeld (fun hHeld => ?_)
          clear hK K
          (try simp only [Act.put, lay9])
          refine tk 8 (v := ?_) rfl ?_ hHeld ?_
          rotate_left
          · (intro w' hSw; (try dsimp only at hSw); go_simp; try with_reducible rfl)
          simp only [Act.put, lay9]
          refine tk 9 (v := ?_) rfl ?_ hHeld ?_
          rotate_left
          · (intro w' hSw; (try dsimp only at hSw); go_simp; try with_reducible rfl)
          simp only [Act.put, lay9]
          refine wpAnyH_ready (rs := [10]) (by kernel_rfl) (by simp) (AllReadyH.cons rfl (fun K hK => ?_) AllReadyH.nil)
          go_simp
          have HTb : Hid (TK w (Wa.setCell ⟨B, 13, none⟩ (.int .u32 ((p2 ^^^ r2 : Nat) : Int))).drew w.heap.size B (Pl.words16 b) (V1.set 13 (p2 ^^^ r2))) := (HTa.out.set (Nat.le_refl _) hBM 13 (p2 ^^^ r2)).drew
          have hk : (Wa.setCell ⟨B, 13, none⟩ (.int .u32 ((p2 ^^^ r2 : Nat) : Int))).drew.cell? ⟨S, 73, none⟩ = some (.int .u64 (t : Int)) := (HH.out.below HTb.out.bel).ct
          refine hK.out _ _ hk (fun hHeld => ?_)
          clear hK K
          (try simp only [Act.put, lay9])
          refine wpAnyH_done (by kernel_rfl) ?_ _
          obtain ⟨V2, hV2⟩ : ∃ V, V1.set 13 (p2 ^^^ r2) = V := ⟨_, rfl⟩
          rw [hV2] at HTb
          have hl2 : V2.length = 16 := by rw [← hV2, List.length_set]; exact hl1
          have hA2 : Pl.All32 V2 := by rw [← hV2]; exact hA1.set _ (Pl.xor_lt l2 hr2l)
          obtain ⟨Wb, hWb⟩ : ∃ W, (Wa.setCell ⟨B, 13, none⟩ (.int .u32 ((p2 ^^^ r2 : Nat) : Int))).drew = W := ⟨_, rfl⟩
          rw [hWb] at HTb ⊢
          clear hWb hk q1 q3 q4 ex hHeld HTa
          cases last
          · obtain ⟨V3, hV3⟩ : ∃ V, V2 = V := ⟨_, rfl⟩
            obtain ⟨W3, hW3⟩ : ∃ W, Wb = W := ⟨_, rfl⟩
            have HTc := HTb
            rw [hV3, hW3] at HTc; rw [hW3]
            have hl3 : V3.length = 16 := by rw [← hV3]; exact hl2
            have hA3 : Pl.All32 V3 := by rw [← hV3]; exact hA2
            have hst : Pl.startV h t false = V3 := by unfold Pl.startV; simp only [hV0, hp1, HR1.out, hV1, hp2, HR2.out, hV2]; exact hV3
            clear hW3 hV3 hV2 hV1 hV0 hp1 hp2 HTb
            clear hA2 hl2 hA1 hl1 hA0 hl0 HR1 HR2 hw1 hw2 hr1l hr2l l1 l2 ht0 ht1
            have hve := (hv.below HTc.out.bel).r
            obtain ⟨RU, hRU⟩ : ∃ V, rowsU = V := ⟨_, rfl⟩
            have hix : ∀ k : Nat, k < 10 → ∀ w : World, (Instr.index 214 (.agg (u8s RU).toArray) (.int .i64 (k : Int))).run Tryz.prog w = .ok (.agg (u8s (rowU k)).toArray) w := by rw [← hRU]; exact index_rows
            rw [hRU] at hve
            have hRl : RU.length = 160 := by rw [← hRU]; rfl
            clear hRU HE8 hE8l
            obtain ⟨mW, hmW⟩ : ∃ V, Pl.words16 b = V := ⟨_, rfl⟩
            have hml : mW.length = 16 := by rw [← hmW]; exact words16_len b
            rw [hmW] at HTc
            have hfin : ∀ V, V = Pl.rowsB.foldl (Pl.roundL mW) V3 → partH h V 8 = Pl.takeB h b t false := by intro V e; rw [partH_8, e, ← hst, ← hmW]; rfl
            clear hmW hst
            obtain ⟨M, hM⟩ : ∃ M, w.heap.size = M := ⟨_, rfl⟩
            have hMle : w.heap.size ≤ M := by omega
            rw [hM] at HTc hBM ⊢
            have hMS : S < M := by omega
            clear hM
            go_wp2_with (with_reducible refine wpList_load_mid rfl 214 _ rfl 1 0 rfl (u8s RU) _ hve.range Tryz.underlying214 rfl (by rw [u8s_len, hRl]; exact info_10) ?_)
            clear hve hRl
            go_loopw [99] (fun i wr => ∃ (k : Nat) (V : List Nat), k ≤ 10 ∧ i = .int .i64 k ∧ Hid (V = (Pl.rowsB.take k).foldl (Pl.roundL mW) V3) ∧ Hid (V.length = 16 ∧ Pl.All32 V ∧ TK w wr M B mW V)) (fun i _ => 10 - (intOf i).toNat)
            case atStart => exact ⟨0, V3, Nat.zero_le _, rfl, rfl, hl3, hA3, HTc.out⟩
            case round =>
              obtain ⟨k, V, hk, rfl, HV, HT⟩ := hrel
              clear HTc hl3 hA3
              by_cases hlt : k < 10
              · have hx := hix k hlt
                obtain ⟨R, hR⟩ : ∃ R, rowU k = R := ⟨_, rfl⟩
                have hRk : R.length = 16 := by rw [← hR]; exact rowU_len k hlt
                have hRv : ∀ i, i < 16 → (R.getD i 0).toNat = (Pl.rowsB.getD k []).getD i 0 := by rw [← hR]; exact rowU_get k hlt
                have hR16 : ∀ i, i < 16 → (R.getD i 0).toNat < 16 := by rw [← hR]; exact rowU_lt k hlt
                rw [hR] at hx
                clear hix
                obtain ⟨rk, hrk⟩ : ∃ r, Pl.rowsB.getD k [] = r := ⟨_, rfl⟩
                rw [hrk] at hRv
                have HRv := Lib.hid hRv; clear hRv
                have HR16 := Lib.hid hR16; clear hR16
                have HRK := Lib.hid hrk; clear hrk
                clear hR
                have HZ := Lib.hid (show (wr.alloc (.cells (u8s (List.replicate 16 0)).toArray 213)).heap[wr.heap.size]? = some (.cells (u8s (List.replicate 16 0)).toArray 213 (0, 0)) from heap_alloc_new _ _)
                have hB16 : (u8s (List.replicate 16 (0 : UInt8))).length = 16 := by rw [u8s_len, List.length_replicate]
                have HTHR := Lib.hid (show (wr.alloc (.cells #[.int .u8 0, .int .u8 0, .int .u8 0, .int .u8 0, .int .u8 0, .int .u8 0, .int .u8 0, .int .u8 0, .int .u8 0, .int .u8 0, .int .u8 0, .int .u8 0, .int .u8 0, .int .u8 0, .int .u8 0, .int .u8 0] 213)).there wr.heap.size 0 (u8s R).toArray.size from thereL HZ.out (by simp [u8s_len, hRk]))
                have HB16 := Lib.hid hB16; clear hB16
                go_wp2_with (with_reducible refine wpList_store_mid rfl 213 _ _ rfl wr.heap.size 0 (u8s R).toArray rfl rfl HTHR.out (by rw [List.size_toArray, u8s_len, hRk]; exact info_16b) (all_oneCell_toArray (u8s_one R)) ?_)
                obtain ⟨hVl, hVA, hT⟩ := HT.out
                have hr0 : ((wr.alloc (.cells (u8s (List.replicate 16 0)).toArray 213)).setCells wr.heap.size 0 (u8s R)).heap[wr.heap.size]? = some (.cells (u8s R).toArray 213 (0, 0)) := heap_setCells_all HZ.out (by rw [HB16.out, u8s_len, hRk])
                have HTr0 : Hid (TR w ((wr.alloc (.cells (u8s (List.replicate 16 0)).toArray 213)).setCells wr.heap.size 0 (u8s R)) M B wr.heap.size mW V R) := TR.new hT hr0 (blk_lt hT.m) (blk_lt hT.v)
                obtain ⟨D, hD⟩ : ∃ D, wr.heap.size = D := ⟨_, rfl⟩
                have hBD : B < D := by rw [← hD]; exact blk_lt hT.v
                have hMD : M < D := by omega
                rw [hD] at HTr0
                clear HZ HTHR hr0 HB16 hT HT
                rw [hD]
                obtain ⟨X0, hX0⟩ : ∃ W, ((wr.alloc (.cells (u8s (List.replicate 16 0)).toArray 213)).setCells D 0 (u8s R)) = W := ⟨_, rfl⟩
                rw [hX0] at HTr0
                have hX0' : ((wr.alloc (.cells #[.int .u8 0, .int .u8 0, .int .u8 0, .int .u8 0, .int .u8 0, .int .u8 0, .int .u8 0, .int .u8 0, .int .u8 0, .int .u8 0, .int .u8 0, .int .u8 0, .int .u8 0, .int .u8 0, .int .u8 0, .int .u8 0] 213)).setCells D 0 (u8s R)) = X0 := hX0
                rw [hX0']
                clear hX0 hX0' hD hx
                have HTd0 : Hid (TR w X0.drew M B D mW V R) := HTr0.out.drew
                obtain ⟨xa, hxa⟩ : ∃ z, (R.getD 0 0).toNat = z := ⟨_, rfl⟩
                obtain ⟨xb, hxb⟩ : ∃ z, (R.getD 1 0).toNat = z := ⟨_, rfl⟩
                have la : xa < 16 := by rw [← hxa]; exact HR16.out _ (by omega)
                have lb : xb < 16 := by rw [← hxb]; exact HR16.out _ (by omega)
                obtain ⟨ua, hua⟩ : ∃ z, mW.getD xa 0 = z := ⟨_, rfl⟩
                obtain ⟨ub, hub⟩ : ∃ z, mW.getD xb 0 = z := ⟨_, rfl⟩
                have hRM : RM X0.drew D M 0 1 xa xb ua ub := ⟨by rw [u8s_cell HTd0.out.r 0 (by omega), hxa], by rw [u8s_cell HTd0.out.r 1 (by omega), hxb], by rw [u32s_cell HTd0.out.t.m xa (by omega), hua], by rw [u32s_cell HTd0.out.t.m xb (by omega), hub]⟩
                obtain ⟨Y1, hVe⟩ : ∃ z, Pl.mixL V 0 4 8 12 ua ub = z := ⟨_, rfl⟩
                have hl1 : Y1.length = 16 := by rw [← hVe, Pl.mixL_len]; exact hVl
                have hA1 : Pl.All32 Y1 := by rw [← hVe]; exact Pl.mixL_all hVA _ _ _ _ _ _
                have H1 := Lib.hid (show Pl.mixL V 0 4 8 12 (mW.getD (rk.getD 0 0) 0) (mW.getD (rk.getD 1 0) 0) = Y1 by rw [← HRv.out 0 (by omega), ← HRv.out 1 (by omega), hxa, hxb, hua, hub]; exact hVe)
                have HC := Lib.hid (mix_0 V hVl hVA ua ub B X0.drew HTd0.out.t.v)
                rw [hVe] at HC
                have la0 : (0 : Int) ≤ (xa : Int) := by omega
                have la1 : (xa : Int) < 16 := by omega
                have lb0 : (0 : Int) ≤ (xb : Int) := by omega
                have lb1 : (xb : Int) < 16 := by omega
                clear hxa hxb hua hub hVe
                refine wp_region_held_drew (S := (fun w' => RM w' D M 0 1 xa xb ua ub)) (by kernel_rfl) (by exact hRM) (fun hHeld => ?_)
                refine tk 0 (v := ?_) rfl ?_ hHeld ?_
                rotate_left
                · (intro w' hSw; obtain ⟨hS0, hS1, hS2, hS3⟩ := hSw; go_simp; try with_reducible rfl)
                simp only [Act.put, lay9]
                refine tk 1 (v := ?_) rfl ?_ hHeld ?_
                rotate_left
                · (intro w' hSw; obtain ⟨hS0, hS1, hS2, hS3⟩ := hSw; go_simp; try with_reducible rfl)
                simp only [Act.put, lay9]
                refine tk 2 (v := ?_) rfl ?_ hHeld ?_
                rotate_left
                · (intro w' hSw; obtain ⟨hS0, hS1, hS2, hS3⟩ := hSw; go_simp; try with_reducible rfl)
                simp only [Act.put, lay9]
                refine tk 3 (v := ?_) rfl ?_ hHeld ?_
                rotate_left
                · (intro w' hSw; obtain ⟨hS0, hS1, hS2, hS3⟩ := hSw; go_simp; try with_reducible rfl)
                simp only [Act.put, lay9]
                refine tk 4 (v := ?_) rfl ?_ hHeld ?_
                rotate_left
                · (intro w' hSw; obtain ⟨hS0, hS1, hS2, hS3⟩ := hSw; go_simp; try with_reducible rfl)
                simp only [Act.put, lay9]
                refine tk 5 (v := ?_) rfl ?_ hHeld ?_
                rotate_left
                · (intro w' hSw; obtain ⟨hS0, hS1, hS2, hS3⟩ := hSw; go_simp; try with_reducible rfl)
                simp only [Act.put, lay9]
                refine tk 6 (v := ?_) rfl ?_ hHeld ?_
                rotate_left
                · (intro w' hSw; obtain ⟨hS0, hS1, hS2, hS3⟩ := hSw; go_simp; try with_reducible rfl)
                simp only [Act.put, lay9]
                refine tk 7 (v := ?_) rfl ?_ hHeld ?_
                rotate_left
                · (intro w' hSw; obtain ⟨hS0, hS1, hS2, hS3⟩ := hSw; go_simp; try with_reducible rfl)
                simp only [Act.put, lay9]
                refine wpAnyH_ready (rs := [8]) (by kernel_rfl) (by simp) (AllReadyH.cons rfl (fun K hK => ?_) AllReadyH.nil)
                go_simp
                with_reducible refine HC.out.mono ?_
                rintro _ X1 ⟨rfl, hv1, hg1⟩
                have hk1 : RM X1 D M 0 1 xa xb ua ub := hRM.kept hg1 (by omega) (by omega)
                refine hK.out _ _ hk1 (fun hHeld => ?_)
                clear hK K
                (try simp only [Act.put, lay9])
                refine wpAnyH_done (by kernel_rfl) ?_ _
                have HTr1 : Hid (TR w X1 M B D mW Y1 R) := HTd0.out.step hMle hBM hBD hg1 hv1
                clear hk1 hRM la lb la0 la1 lb0 lb1 HC hv1 hg1 HTd0 HTr0 hHeld
                go_wp2_with fail
                have HTd1 : Hid (TR w X1.drew M B D mW Y1 R) := HTr1.out.drew
                obtain ⟨xa, hxa⟩ : ∃ z, (R.getD 2 0).toNat = z := ⟨_, rfl⟩
                obtain ⟨xb, hxb⟩ : ∃ z, (R.getD 3 0).toNat = z := ⟨_, rfl⟩
                have la : xa < 16 := by rw [← hxa]; exact HR16.out _ (by omega)
                have lb : xb < 16 := by rw [← hxb]; exact HR16.out _ (by omega)
                obtain ⟨ua, hua⟩ : ∃ z, mW.getD xa 0 = z := ⟨_, rfl⟩
                obtain ⟨ub, hub⟩ : ∃ z, mW.getD xb 0 = z := ⟨_, rfl⟩
                have hRM : RM X1.drew D M 2 3 xa xb ua ub := ⟨by rw [u8s_cell HTd1.out.r 2 (by omega), hxa], by rw [u8s_cell HTd1.out.r 3 (by omega), hxb], by rw [u32s_cell HTd1.out.t.m xa (by omega), hua], by rw [u32s_cell HTd1.out.t.m xb (by omega), hub]⟩
                obtain ⟨Y2, hVe⟩ : ∃ z, Pl.mixL Y1 1 5 9 13 ua ub = z := ⟨_, rfl⟩
                have hl2 : Y2.length = 16 := by rw [← hVe, Pl.mixL_len]; exact hl1
                have hA2 : Pl.All32 Y2 := by rw [← hVe]; exact Pl.mixL_all hA1 _ _ _ _ _ _
                have H2 := Lib.hid (show Pl.mixL Y1 1 5 9 13 (mW.getD (rk.getD 2 0) 0) (mW.getD (rk.getD 3 0) 0) = Y2 by rw [← HRv.out 2 (by omega), ← HRv.out 3 (by omega), hxa, hxb, hua, hub]; exact hVe)
                have HC := Lib.hid (mix_1 Y1 hl1 hA1 ua ub B X1.drew HTd1.out.t.v)
                rw [hVe] at HC
                have la0 : (0 : Int) ≤ (xa : Int) := by omega
                have la1 : (xa : Int) < 16 := by omega
                have lb0 : (0 : Int) ≤ (xb : Int) := by omega
                have lb1 : (xb : Int) < 16 := by omega
                clear hxa hxb hua hub hVe
                refine wp_region_held_drew (S := (fun w' => RM w' D M 2 3 xa xb ua ub)) (by kernel_rfl) (by exact hRM) (fun hHeld => ?_)
                refine tk 0 (v := ?_) rfl ?_ hHeld ?_
                rotate_left
                · (intro w' hSw; obtain ⟨hS0, hS1, hS2, hS3⟩ := hSw; go_simp; try with_reducible rfl)
                simp only [Act.put, lay9]
                refine tk 1 (v := ?_) rfl ?_ hHeld ?_
                rotate_left
                · (intro w' hSw; obtain ⟨hS0, hS1, hS2, hS3⟩ := hSw; go_simp; try with_reducible rfl)
                simp only [Act.put, lay9]
                refine tk 2 (v := ?_) rfl ?_ hHeld ?_
                rotate_left
                · (intro w' hSw; obtain ⟨hS0, hS1, hS2, hS3⟩ := hSw; go_simp; try with_reducible rfl)
                simp only [Act.put, lay9]
                refine tk 3 (v := ?_) rfl ?_ hHeld ?_
                rotate_left
                · (intro w' hSw; obtain ⟨hS0, hS1, hS2, hS3⟩ := hSw; go_simp; try with_reducible rfl)
                simp only [Act.put, lay9]
                refine tk 4 (v := ?_) rfl ?_ hHeld ?_
                rotate_left
                · (intro w' hSw; obtain ⟨hS0, hS1, hS2, hS3⟩ := hSw; go_simp; try with_reducible rfl)
                simp only [Act.put, lay9]
                refine tk 5 (v := ?_) rfl ?_ hHeld ?_
                rotate_left
                · (intro w' hSw; obtain ⟨hS0, hS1, hS2, hS3⟩ := hSw; go_simp; try with_reducible rfl)
                simp only [Act.put, lay9]
                refine tk 6 (v := ?_) rfl ?_ hHeld ?_
                rotate_left
                · (intro w' hSw; obtain ⟨hS0, hS1, hS2, hS3⟩ := hSw; go_simp; try with_reducible rfl)
                simp only [Act.put, lay9]
                refine tk 7 (v := ?_) rfl ?_ hHeld ?_
                rotate_left
                · (intro w' hSw; obtain ⟨hS0, hS1, hS2, hS3⟩ := hSw; go_simp; try with_reducible rfl)
                simp only [Act.put, lay9]
                refine wpAnyH_ready (rs := [8]) (by kernel_rfl) (by simp) (AllReadyH.cons rfl (fun K hK => ?_) AllReadyH.nil)
                go_simp
                with_reducible refine HC.out.mono ?_
                rintro _ X2 ⟨rfl, hv1, hg1⟩
                have hk1 : RM X2 D M 2 3 xa xb ua ub := hRM.kept hg1 (by omega) (by omega)
                refine hK.out _ _ hk1 (fun hHeld => ?_)
                clear hK K
                (try simp only [Act.put, lay9])
                refine wpAnyH_done (by kernel_rfl) ?_ _
                have HTr2 : Hid (TR w X2 M B D mW Y2 R) := HTd1.out.step hMle hBM hBD hg1 hv1
                clear hk1 hRM la lb la0 la1 lb0 lb1 HC hv1 hg1 HTd1 HTr1 hHeld
                clear hl1 hA1
                go_wp2_with fail
                have HTd2 : Hid (TR w X2.drew M B D mW Y2 R) := HTr2.out.drew
                obtain ⟨xa, hxa⟩ : ∃ z, (R.getD 4 0).toNat = z := ⟨_, rfl⟩
                obtain ⟨xb, hxb⟩ : ∃ z, (R.getD 5 0).toNat = z := ⟨_, rfl⟩
                have la : xa < 16 := by rw [← hxa]; exact HR16.out _ (by omega)
                have lb : xb < 16 := by rw [← hxb]; exact HR16.out _ (by omega)
                obtain ⟨ua, hua⟩ : ∃ z, mW.getD xa 0 = z := ⟨_, rfl⟩
                obtain ⟨ub, hub⟩ : ∃ z, mW.getD xb 0 = z := ⟨_, rfl⟩
                have hRM : RM X2.drew D M 4 5 xa xb ua ub := ⟨by rw [u8s_cell HTd2.out.r 4 (by omega), hxa], by rw [u8s_cell HTd2.out.r 5 (by omega), hxb], by rw [u32s_cell HTd2.out.t.m xa (by omega), hua], by rw [u32s_cell HTd2.out.t.m xb (by omega), hub]⟩
                obtain ⟨Y3, hVe⟩ : ∃ z, Pl.mixL Y2 2 6 10 14 ua ub = z := ⟨_, rfl⟩
                have hl3 : Y3.length = 16 := by rw [← hVe, Pl.mixL_len]; exact hl2
                have hA3 : Pl.All32 Y3 := by rw [← hVe]; exact Pl.mixL_all hA2 _ _ _ _ _ _
                have H3 := Lib.hid (show Pl.mixL Y2 2 6 10 14 (mW.getD (rk.getD 4 0) 0) (mW.getD (rk.getD 5 0) 0) = Y3 by rw [← HRv.out 4 (by omega), ← HRv.out 5 (by omega), hxa, hxb, hua, hub]; exact hVe)
                have HC := Lib.hid (mix_2 Y2 hl2 hA2 ua ub B X2.drew HTd2.out.t.v)
                rw [hVe] at HC
                have la0 : (0 : Int) ≤ (xa : Int) := by omega
                have la1 : (xa : Int) < 16 := by omega
                have lb0 : (0 : Int) ≤ (xb : Int) := by omega
                have lb1 : (xb : Int) < 16 := by omega
                clear hxa hxb hua hub hVe
                refine wp_region_held_drew (S := (fun w' => RM w' D M 4 5 xa xb ua ub)) (by kernel_rfl) (by exact hRM) (fun hHeld => ?_)
                refine tk 0 (v := ?_) rfl ?_ hHeld ?_
                rotate_left
                · (intro w' hSw; obtain ⟨hS0, hS1, hS2, hS3⟩ := hSw; go_simp; try with_reducible rfl)
                simp only [Act.put, lay9]
                refine tk 1 (v := ?_) rfl ?_ hHeld ?_
                rotate_left
                · (intro w' hSw; obtain ⟨hS0, hS1, hS2, hS3⟩ := hSw; go_simp; try with_reducible rfl)
                simp only [Act.put, lay9]
                refine tk 2 (v := ?_) rfl ?_ hHeld ?_
                rotate_left
                · (intro w' hSw; obtain ⟨hS0, hS1, hS2, hS3⟩ := hSw; go_simp; try with_reducible rfl)
                simp only [Act.put, lay9]
                refine tk 3 (v := ?_) rfl ?_ hHeld ?_
                rotate_left
                · (intro w' hSw; obtain ⟨hS0, hS1, hS2, hS3⟩ := hSw; go_simp; try with_reducible rfl)
                simp only [Act.put, lay9]
                refine tk 4 (v := ?_) rfl ?_ hHeld ?_
                rotate_left
                · (intro w' hSw; obtain ⟨hS0, hS1, hS2, hS3⟩ := hSw; go_simp; try with_reducible rfl)
                simp only [Act.put, lay9]
                refine tk 5 (v := ?_) rfl ?_ hHeld ?_
                rotate_left
                · (intro w' hSw; obtain ⟨hS0, hS1, hS2, hS3⟩ := hSw; go_simp; try with_reducible rfl)
                simp only [Act.put, lay9]
                refine tk 6 (v := ?_) rfl ?_ hHeld ?_
                rotate_left
                · (intro w' hSw; obtain ⟨hS0, hS1, hS2, hS3⟩ := hSw; go_simp; try with_reducible rfl)
                simp only [Act.put, lay9]
                refine tk 7 (v := ?_) rfl ?_ hHeld ?_
                rotate_left
                · (intro w' hSw; obtain ⟨hS0, hS1, hS2, hS3⟩ := hSw; go_simp; try with_reducible rfl)
                simp only [Act.put, lay9]
                refine wpAnyH_ready (rs := [8]) (by kernel_rfl) (by simp) (AllReadyH.cons rfl (fun K hK => ?_) AllReadyH.nil)
                go_simp
                with_reducible refine HC.out.mono ?_
                rintro _ X3 ⟨rfl, hv1, hg1⟩
                have hk1 : RM X3 D M 4 5 xa xb ua ub := hRM.kept hg1 (by omega) (by omega)
                refine hK.out _ _ hk1 (fun hHeld => ?_)
                clear hK K
                (try simp only [Act.put, lay9])
                refine wpAnyH_done (by kernel_rfl) ?_ _
                have HTr3 : Hid (TR w X3 M B D mW Y3 R) := HTd2.out.step hMle hBM hBD hg1 hv1
                clear hk1 hRM la lb la0 la1 lb0 lb1 HC hv1 hg1 HTd2 HTr2 hHeld
                clear hl2 hA2
                go_wp2_with fail
                have HTd3 : Hid (TR w X3.drew M B D mW Y3 R) := HTr3.out.drew
                obtain ⟨xa, hxa⟩ : ∃ z, (R.getD 6 0).toNat = z := ⟨_, rfl⟩
                obtain ⟨xb, hxb⟩ : ∃ z, (R.getD 7 0).toNat = z := ⟨_, rfl⟩
                have la : xa < 16 := by rw [← hxa]; exact HR16.out _ (by omega)
                have lb : xb < 16 := by rw [← hxb]; exact HR16.out _ (by omega)
                obtain ⟨ua, hua⟩ : ∃ z, mW.getD xa 0 = z := ⟨_, rfl⟩
                obtain ⟨ub, hub⟩ : ∃ z, mW.getD xb 0 = z := ⟨_, rfl⟩
                have hRM : RM X3.drew D M 6 7 xa xb ua ub := ⟨by rw [u8s_cell HTd3.out.r 6 (by omega), hxa], by rw [u8s_cell HTd3.out.r 7 (by omega), hxb], by rw [u32s_cell HTd3.out.t.m xa (by omega), hua], by rw [u32s_cell HTd3.out.t.m xb (by omega), hub]⟩
                obtain ⟨Y4, hVe⟩ : ∃ z, Pl.mixL Y3 3 7 11 15 ua ub = z := ⟨_, rfl⟩
                have hl4 : Y4.length = 16 := by rw [← hVe, Pl.mixL_len]; exact hl3
                have hA4 : Pl.All32 Y4 := by rw [← hVe]; exact Pl.mixL_all hA3 _ _ _ _ _ _
                have H4 := Lib.hid (show Pl.mixL Y3 3 7 11 15 (mW.getD (rk.getD 6 0) 0) (mW.getD (rk.getD 7 0) 0) = Y4 by rw [← HRv.out 6 (by omega), ← HRv.out 7 (by omega), hxa, hxb, hua, hub]; exact hVe)
                have HC := Lib.hid (mix_3 Y3 hl3 hA3 ua ub B X3.drew HTd3.out.t.v)
                rw [hVe] at HC
                have la0 : (0 : Int) ≤ (xa : Int) := by omega
                have la1 : (xa : Int) < 16 := by omega
                have lb0 : (0 : Int) ≤ (xb : Int) := by omega
                have lb1 : (xb : Int) < 16 := by omega
                clear hxa hxb hua hub hVe
                refine wp_region_held_drew (S := (fun w' => RM w' D M 6 7 xa xb ua ub)) (by kernel_rfl) (by exact hRM) (fun hHeld => ?_)
                refine tk 0 (v := ?_) rfl ?_ hHeld ?_
                rotate_left
                · (intro w' hSw; obtain ⟨hS0, hS1, hS2, hS3⟩ := hSw; go_simp; try with_reducible rfl)
                simp only [Act.put, lay9]
                refine tk 1 (v := ?_) rfl ?_ hHeld ?_
                rotate_left
                · (intro w' hSw; obtain ⟨hS0, hS1, hS2, hS3⟩ := hSw; go_simp; try with_reducible rfl)
                simp only [Act.put, lay9]
                refine tk 2 (v := ?_) rfl ?_ hHeld ?_
                rotate_left
                · (intro w' hSw; obtain ⟨hS0, hS1, hS2, hS3⟩ := hSw; go_simp; try with_reducible rfl)
                simp only [Act.put, lay9]
                refine tk 3 (v := ?_) rfl ?_ hHeld ?_
                rotate_left
                · (intro w' hSw; obtain ⟨hS0, hS1, hS2, hS3⟩ := hSw; go_simp; try with_reducible rfl)
                simp only [Act.put, lay9]
                refine tk 4 (v := ?_) rfl ?_ hHeld ?_
                rotate_left
                · (intro w' hSw; obtain ⟨hS0, hS1, hS2, hS3⟩ := hSw; go_simp; try with_reducible rfl)
                simp only [Act.put, lay9]
                refine tk 5 (v := ?_) rfl ?_ hHeld ?_
                rotate_left
                · (intro w' hSw; obtain ⟨hS0, hS1, hS2, hS3⟩ := hSw; go_simp; try with_reducible rfl)
                simp only [Act.put, lay9]
                refine tk 6 (v := ?_) rfl ?_ hHeld ?_
                rotate_left
                · (intro w' hSw; obtain ⟨hS0, hS1, hS2, hS3⟩ := hSw; go_simp; try with_reducible rfl)
                simp only [Act.put, lay9]
                refine tk 7 (v := ?_) rfl ?_ hHeld ?_
                rotate_left
                · (intro w' hSw; obtain ⟨hS0, hS1, hS2, hS3⟩ := hSw; go_simp; try with_reducible rfl)
                simp only [Act.put, lay9]
                refine wpAnyH_ready (rs := [8]) (by kernel_rfl) (by simp) (AllReadyH.cons rfl (fun K hK => ?_) AllReadyH.nil)
                go_simp
                with_reducible refine HC.out.mono ?_
                rintro _ X4 ⟨rfl, hv1, hg1⟩
                have hk1 : RM X4 D M 6 7 xa xb ua ub := hRM.kept hg1 (by omega) (by omega)
                refine hK.out _ _ hk1 (fun hHeld => ?_)
                clear hK K
                (try simp only [Act.put, lay9])
                refine wpAnyH_done (by kernel_rfl) ?_ _
                have HTr4 : Hid (TR w X4 M B D mW Y4 R) := HTd3.out.step hMle hBM hBD hg1 hv1
                clear hk1 hRM la lb la0 la1 lb0 lb1 HC hv1 hg1 HTd3 HTr3 hHeld
                clear hl3 hA3
                go_wp2_with fail
                have HTd4 : Hid (TR w X4.drew M B D mW Y4 R) := HTr4.out.drew
                obtain ⟨xa, hxa⟩ : ∃ z, (R.getD 8 0).toNat = z := ⟨_, rfl⟩
                obtain ⟨xb, hxb⟩ : ∃ z, (R.getD 9 0).toNat = z := ⟨_, rfl⟩
                have la : xa < 16 := by rw [← hxa]; exact HR16.out _ (by omega)
                have lb : xb < 16 := by rw [← hxb]; exact HR16.out _ (by omega)
                obtain ⟨ua, hua⟩ : ∃ z, mW.getD xa 0 = z := ⟨_, rfl⟩
                obtain ⟨ub, hub⟩ : ∃ z, mW.getD xb 0 = z := ⟨_, rfl⟩
                have hRM : RM X4.drew D M 8 9 xa xb ua ub := ⟨by rw [u8s_cell HTd4.out.r 8 (by omega), hxa], by rw [u8s_cell HTd4.out.r 9 (by omega), hxb], by rw [u32s_cell HTd4.out.t.m xa (by omega), hua], by rw [u32s_cell HTd4.out.t.m xb (by omega), hub]⟩
                obtain ⟨Y5, hVe⟩ : ∃ z, Pl.mixL Y4 0 5 10 15 ua ub = z := ⟨_, rfl⟩
                have hl5 : Y5.length = 16 := by rw [← hVe, Pl.mixL_len]; exact hl4
                have hA5 : Pl.All32 Y5 := by rw [← hVe]; exact Pl.mixL_all hA4 _ _ _ _ _ _
                have H5 := Lib.hid (show Pl.mixL Y4 0 5 10 15 (mW.getD (rk.getD 8 0) 0) (mW.getD (rk.getD 9 0) 0) = Y5 by rw [← HRv.out 8 (by omega), ← HRv.out 9 (by omega), hxa, hxb, hua, hub]; exact hVe)
                have HC := Lib.hid (mix_4 Y4 hl4 hA4 ua ub B X4.drew HTd4.out.t.v)
                rw [hVe] at HC
                have la0 : (0 : Int) ≤ (xa : Int) := by omega
                have la1 : (xa : Int) < 16 := by omega
                have lb0 : (0 : Int) ≤ (xb : Int) := by omega
                have lb1 : (xb : Int) < 16 := by omega
                clear hxa hxb hua hub hVe
                refine wp_region_held_drew (S := (fun w' => RM w' D M 8 9 xa xb ua ub)) (by kernel_rfl) (by exact hRM) (fun hHeld => ?_)
                refine tk 0 (v := ?_) rfl ?_ hHeld ?_
                rotate_left
                · (intro w' hSw; obtain ⟨hS0, hS1, hS2, hS3⟩ := hSw; go_simp; try with_reducible rfl)
                simp only [Act.put, lay9]
                refine tk 1 (v := ?_) rfl ?_ hHeld ?_
                rotate_left
                · (intro w' hSw; obtain ⟨hS0, hS1, hS2, hS3⟩ := hSw; go_simp; try with_reducible rfl)
                simp only [Act.put, lay9]
                refine tk 2 (v := ?_) rfl ?_ hHeld ?_
                rotate_left
                · (intro w' hSw; obtain ⟨hS0, hS1, hS2, hS3⟩ := hSw; go_simp; try with_reducible rfl)
                simp only [Act.put, lay9]
                refine tk 3 (v := ?_) rfl ?_ hHeld ?_
                rotate_left
                · (intro w' hSw; obtain ⟨hS0, hS1, hS2, hS3⟩ := hSw; go_simp; try with_reducible rfl)
                simp only [Act.put, lay9]
                refine tk 4 (v := ?_) rfl ?_ hHeld ?_
                rotate_left
                · (intro w' hSw; obtain ⟨hS0, hS1, hS2, hS3⟩ := hSw; go_simp; try with_reducible rfl)
                simp only [Act.put, lay9]
                refine tk 5 (v := ?_) rfl ?_ hHeld ?_
                rotate_left
                · (intro w' hSw; obtain ⟨hS0, hS1, hS2, hS3⟩ := hSw; go_simp; try with_reducible rfl)
                simp only [Act.put, lay9]
                refine tk 6 (v := ?_) rfl ?_ hHeld ?_
                rotate_left
                · (intro w' hSw; obtain ⟨hS0, hS1, hS2, hS3⟩ := hSw; go_simp; try with_reducible rfl)
                simp only [Act.put, lay9]
                refine tk 7 (v := ?_) rfl ?_ hHeld ?_
                rotate_left
                · (intro w' hSw; obtain ⟨hS0, hS1, hS2, hS3⟩ := hSw; go_simp; try with_reducible rfl)
                simp only [Act.put, lay9]
                refine wpAnyH_ready (rs := [8]) (by kernel_rfl) (by simp) (AllReadyH.cons rfl (fun K hK => ?_) AllReadyH.nil)
                go_simp
                with_reducible refine HC.out.mono ?_
                rintro _ X5 ⟨rfl, hv1, hg1⟩
                have hk1 : RM X5 D M 8 9 xa xb ua ub := hRM.kept hg1 (by omega) (by omega)
                refine hK.out _ _ hk1 (fun hHeld => ?_)
                clear hK K
                (try simp only [Act.put, lay9])
                refine wpAnyH_done (by kernel_rfl) ?_ _
                have HTr5 : Hid (TR w X5 M B D mW Y5 R) := HTd4.out.step hMle hBM hBD hg1 hv1
                clear hk1 hRM la lb la0 la1 lb0 lb1 HC hv1 hg1 HTd4 HTr4 hHeld
                clear hl4 hA4
                go_wp2_with fail
                have HTd5 : Hid (TR w X5.drew M B D mW Y5 R) := HTr5.out.drew
                obtain ⟨xa, hxa⟩ : ∃ z, (R.getD 10 0).toNat = z := ⟨_, rfl⟩
                obtain ⟨xb, hxb⟩ : ∃ z, (R.getD 11 0).toNat = z := ⟨_, rfl⟩
                have la : xa < 16 := by rw [← hxa]; exact HR16.out _ (by omega)
                have lb : xb < 16 := by rw [← hxb]; exact HR16.out _ (by omega)
                obtain ⟨ua, hua⟩ : ∃ z, mW.getD xa 0 = z := ⟨_, rfl⟩
                obtain ⟨ub, hub⟩ : ∃ z, mW.getD xb 0 = z := ⟨_, rfl⟩
                have hRM : RM X5.drew D M 10 11 xa xb ua ub := ⟨by rw [u8s_cell HTd5.out.r 10 (by omega), hxa], by rw [u8s_cell HTd5.out.r 11 (by omega), hxb], by rw [u32s_cell HTd5.out.t.m xa (by omega), hua], by rw [u32s_cell HTd5.out.t.m xb (by omega), hub]⟩
                obtain ⟨Y6, hVe⟩ : ∃ z, Pl.mixL Y5 1 6 11 12 ua ub = z := ⟨_, rfl⟩
                have hl6 : Y6.length = 16 := by rw [← hVe, Pl.mixL_len]; exact hl5
                have hA6 : Pl.All32 Y6 := by rw [← hVe]; exact Pl.mixL_all hA5 _ _ _ _ _ _
                have H6 := Lib.hid (show Pl.mixL Y5 1 6 11 12 (mW.getD (rk.getD 10 0) 0) (mW.getD (rk.getD 11 0) 0) = Y6 by rw [← HRv.out 10 (by omega), ← HRv.out 11 (by omega), hxa, hxb, hua, hub]; exact hVe)
                have HC := Lib.hid (mix_5 Y5 hl5 hA5 ua ub B X5.drew HTd5.out.t.v)
                rw [hVe] at HC
                have la0 : (0 : Int) ≤ (xa : Int) := by omega
                have la1 : (xa : Int) < 16 := by omega
                have lb0 : (0 : Int) ≤ (xb : Int) := by omega
                have lb1 : (xb : Int) < 16 := by omega
                clear hxa hxb hua hub hVe
                refine wp_region_held_drew (S := (fun w' => RM w' D M 10 11 xa xb ua ub)) (by kernel_rfl) (by exact hRM) (fun hHeld => ?_)
                refine tk 0 (v := ?_) rfl ?_ hHeld ?_
                rotate_left
                · (intro w' hSw; obtain ⟨hS0, hS1, hS2, hS3⟩ := hSw; go_simp; try with_reducible rfl)
                simp only [Act.put, lay9]
                refine tk 1 (v := ?_) rfl ?_ hHeld ?_
                rotate_left
                · (intro w' hSw; obtain ⟨hS0, hS1, hS2, hS3⟩ := hSw; go_simp; try with_reducible rfl)
                simp only [Act.put, lay9]
                refine tk 2 (v := ?_) rfl ?_ hHeld ?_
                rotate_left
                · (intro w' hSw; obtain ⟨hS0, hS1, hS2, hS3⟩ := hSw; go_simp; try with_reducible rfl)
                simp only [Act.put, lay9]
                refine tk 3 (v := ?_) rfl ?_ hHeld ?_
                rotate_left
                · (intro w' hSw; obtain ⟨hS0, hS1, hS2, hS3⟩ := hSw; go_simp; try with_reducible rfl)
                simp only [Act.put, lay9]
                refine tk 4 (v := ?_) rfl ?_ hHeld ?_
                rotate_left
                · (intro w' hSw; obtain ⟨hS0, hS1, hS2, hS3⟩ := hSw; go_simp; try with_reducible rfl)
                simp only [Act.put, lay9]
                refine tk 5 (v := ?_) rfl ?_ hHeld ?_
                rotate_left
                · (intro w' hSw; obtain ⟨hS0, hS1, hS2, hS3⟩ := hSw; go_simp; try with_reducible rfl)
                simp only [Act.put, lay9]
                refine tk 6 (v := ?_) rfl ?_ hHeld ?_
                rotate_left
                · (intro w' hSw; obtain ⟨hS0, hS1, hS2, hS3⟩ := hSw; go_simp; try with_reducible rfl)
                simp only [Act.put, lay9]
                refine tk 7 (v := ?_) rfl ?_ hHeld ?_
                rotate_left
                · (intro w' hSw; obtain ⟨hS0, hS1, hS2, hS3⟩ := hSw; go_simp; try with_reducible rfl)
                simp only [Act.put, lay9]
                refine wpAnyH_ready (rs := [8]) (by kernel_rfl) (by simp) (AllReadyH.cons rfl (fun K hK => ?_) AllReadyH.nil)
                go_simp
                with_reducible refine HC.out.mono ?_
                rintro _ X6 ⟨rfl, hv1, hg1⟩
                have hk1 : RM X6 D M 10 11 xa xb ua ub := hRM.kept hg1 (by omega) (by omega)
                refine hK.out _ _ hk1 (fun hHeld => ?_)
                clear hK K
                (try simp only [Act.put, lay9])
                refine wpAnyH_done (by kernel_rfl) ?_ _
                have HTr6 : Hid (TR w X6 M B D mW Y6 R) := HTd5.out.step hMle hBM hBD hg1 hv1
                clear hk1 hRM la lb la0 la1 lb0 lb1 HC hv1 hg1 HTd5 HTr5 hHeld
                clear hl5 hA5
                go_wp2_with fail
                have HTd6 : Hid (TR w X6.drew M B D mW Y6 R) := HTr6.out.drew
                obtain ⟨xa, hxa⟩ : ∃ z, (R.getD 12 0).toNat = z := ⟨_, rfl⟩
                obtain ⟨xb, hxb⟩ : ∃ z, (R.getD 13 0).toNat = z := ⟨_, rfl⟩
                have la : xa < 16 := by rw [← hxa]; exact HR16.out _ (by omega)
                have lb : xb < 16 := by rw [← hxb]; exact HR16.out _ (by omega)
                obtain ⟨ua, hua⟩ : ∃ z, mW.getD xa 0 = z := ⟨_, rfl⟩
                obtain ⟨ub, hub⟩ : ∃ z, mW.getD xb 0 = z := ⟨_, rfl⟩
                have hRM : RM X6.drew D M 12 13 xa xb ua ub := ⟨by rw [u8s_cell HTd6.out.r 12 (by omega), hxa], by rw [u8s_cell HTd6.out.r 13 (by omega), hxb], by rw [u32s_cell HTd6.out.t.m xa (by omega), hua], by rw [u32s_cell HTd6.out.t.m xb (by omega), hub]⟩
                obtain ⟨Y7, hVe⟩ : ∃ z, Pl.mixL Y6 2 7 8 13 ua ub = z := ⟨_, rfl⟩
                have hl7 : Y7.length = 16 := by rw [← hVe, Pl.mixL_len]; exact hl6
                have hA7 : Pl.All32 Y7 := by rw [← hVe]; exact Pl.mixL_all hA6 _ _ _ _ _ _
                have H7 := Lib.hid (show Pl.mixL Y6 2 7 8 13 (mW.getD (rk.getD 12 0) 0) (mW.getD (rk.getD 13 0) 0) = Y7 by rw [← HRv.out 12 (by omega), ← HRv.out 13 (by omega), hxa, hxb, hua, hub]; exact hVe)
                have HC := Lib.hid (mix_6 Y6 hl6 hA6 ua ub B X6.drew HTd6.out.t.v)
                rw [hVe] at HC
                have la0 : (0 : Int) ≤ (xa : Int) := by omega
                have la1 : (xa : Int) < 16 := by omega
                have lb0 : (0 : Int) ≤ (xb : Int) := by omega
                have lb1 : (xb : Int) < 16 := by omega
                clear hxa hxb hua hub hVe
                refine wp_region_held_drew (S := (fun w' => RM w' D M 12 13 xa xb ua ub)) (by kernel_rfl) (by exact hRM) (fun hHeld => ?_)
                refine tk 0 (v := ?_) rfl ?_ hHeld ?_
                rotate_left
                · (intro w' hSw; obtain ⟨hS0, hS1, hS2, hS3⟩ := hSw; go_simp; try with_reducible rfl)
                simp only [Act.put, lay9]
                refine tk 1 (v := ?_) rfl ?_ hHeld ?_
                rotate_left
                · (intro w' hSw; obtain ⟨hS0, hS1, hS2, hS3⟩ := hSw; go_simp; try with_reducible rfl)
                simp only [Act.put, lay9]
                refine tk 2 (v := ?_) rfl ?_ hHeld ?_
                rotate_left
                · (intro w' hSw; obtain ⟨hS0, hS1, hS2, hS3⟩ := hSw; go_simp; try with_reducible rfl)
                simp only [Act.put, lay9]
                refine tk 3 (v := ?_) rfl ?_ hHeld ?_
                rotate_left
                · (intro w' hSw; obtain ⟨hS0, hS1, hS2, hS3⟩ := hSw; go_simp; try with_reducible rfl)
                simp only [Act.put, lay9]
                refine tk 4 (v := ?_) rfl ?_ hHeld ?_
                rotate_left
                · (intro w' hSw; obtain ⟨hS0, hS1, hS2, hS3⟩ := hSw; go_simp; try with_reducible rfl)
                simp only [Act.put, lay9]
                refine tk 5 (v := ?_) rfl ?_ hHeld ?_
                rotate_left
                · (intro w' hSw; obtain ⟨hS0, hS1, hS2, hS3⟩ := hSw; go_simp; try with_reducible rfl)
                simp only [Act.put, lay9]
                refine tk 6 (v := ?_) rfl ?_ hHeld ?_
                rotate_left
                · (intro w' hSw; obtain ⟨hS0, hS1, hS2, hS3⟩ := hSw; go_simp; try with_reducible rfl)
                simp only [Act.put, lay9]
                refine tk 7 (v := ?_) rfl ?_ hHeld ?_
                rotate_left
                · (intro w' hSw; obtain ⟨hS0, hS1, hS2, hS3⟩ := hSw; go_simp; try with_reducible rfl)
                simp only [Act.put, lay9]
                refine wpAnyH_ready (rs := [8]) (by kernel_rfl) (by simp) (AllReadyH.cons rfl (fun K hK => ?_) AllReadyH.nil)
                go_simp
                with_reducible refine HC.out.mono ?_
                rintro _ X7 ⟨rfl, hv1, hg1⟩
                have hk1 : RM X7 D M 12 13 xa xb ua ub := hRM.kept hg1 (by omega) (by omega)
                refine hK.out _ _ hk1 (fun hHeld => ?_)
                clear hK K
                (try simp only [Act.put, lay9])
                refine wpAnyH_done (by kernel_rfl) ?_ _
                have HTr7 : Hid (TR w X7 M B D mW Y7 R) := HTd6.out.step hMle hBM hBD hg1 hv1
                clear hk1 hRM la lb la0 la1 lb0 lb1 HC hv1 hg1 HTd6 HTr6 hHeld
                clear hl6 hA6
                go_wp2_with fail
                have HTd7 : Hid (TR w X7.drew M B D mW Y7 R) := HTr7.out.drew
                obtain ⟨xa, hxa⟩ : ∃ z, (R.getD 14 0).toNat = z := ⟨_, rfl⟩
                obtain ⟨xb, hxb⟩ : ∃ z, (R.getD 15 0).toNat = z := ⟨_, rfl⟩
                have la : xa < 16 := by rw [← hxa]; exact HR16.out _ (by omega)
                have lb : xb < 16 := by rw [← hxb]; exact HR16.out _ (by omega)
                obtain ⟨ua, hua⟩ : ∃ z, mW.getD xa 0 = z := ⟨_, rfl⟩
                obtain ⟨ub, hub⟩ : ∃ z, mW.getD xb 0 = z := ⟨_, rfl⟩
                have hRM : RM X7.drew D M 14 15 xa xb ua ub := ⟨by rw [u8s_cell HTd7.out.r 14 (by omega), hxa], by rw [u8s_cell HTd7.out.r 15 (by omega), hxb], by rw [u32s_cell HTd7.out.t.m xa (by omega), hua], by rw [u32s_cell HTd7.out.t.m xb (by omega), hub]⟩
                obtain ⟨Y8, hVe⟩ : ∃ z, Pl.mixL Y7 3 4 9 14 ua ub = z := ⟨_, rfl⟩
                have hl8 : Y8.length = 16 := by rw [← hVe, Pl.mixL_len]; exact hl7
                have hA8 : Pl.All32 Y8 := by rw [← hVe]; exact Pl.mixL_all hA7 _ _ _ _ _ _
                have H8 := Lib.hid (show Pl.mixL Y7 3 4 9 14 (mW.getD (rk.getD 14 0) 0) (mW.getD (rk.getD 15 0) 0) = Y8 by rw [← HRv.out 14 (by omega), ← HRv.out 15 (by omega), hxa, hxb, hua, hub]; exact hVe)
                have HC := Lib.hid (mix_7 Y7 hl7 hA7 ua ub B X7.drew HTd7.out.t.v)
                rw [hVe] at HC
                have la0 : (0 : Int) ≤ (xa : Int) := by omega
                have la1 : (xa : Int) < 16 := by omega
                have lb0 : (0 : Int) ≤ (xb : Int) := by omega
                have lb1 : (xb : Int) < 16 := by omega
                clear hxa hxb hua hub hVe
                refine wp_region_held_drew (S := (fun w' => RM w' D M 14 15 xa xb ua ub)) (by kernel_rfl) (by exact hRM) (fun hHeld => ?_)
                refine tk 0 (v := ?_) rfl ?_ hHeld ?_
                rotate_left
                · (intro w' hSw; obtain ⟨hS0, hS1, hS2, hS3⟩ := hSw; go_simp; try with_reducible rfl)
                simp only [Act.put, lay9]
                refine tk 1 (v := ?_) rfl ?_ hHeld ?_
                rotate_left
                · (intro w' hSw; obtain ⟨hS0, hS1, hS2, hS3⟩ := hSw; go_simp; try with_reducible rfl)
                simp only [Act.put, lay9]
                refine tk 2 (v := ?_) rfl ?_ hHeld ?_
                rotate_left
                · (intro w' hSw; obtain ⟨hS0, hS1, hS2, hS3⟩ := hSw; go_simp; try with_reducible rfl)
                simp only [Act.put, lay9]
                refine tk 3 (v := ?_) rfl ?_ hHeld ?_
                rotate_left
                · (intro w' hSw; obtain ⟨hS0, hS1, hS2, hS3⟩ := hSw; go_simp; try with_reducible rfl)
                simp only [Act.put, lay9]
                refine tk 4 (v := ?_) rfl ?_ hHeld ?_
                rotate_left
                · (intro w' hSw; obtain ⟨hS0, hS1, hS2, hS3⟩ := hSw; go_simp; try with_reducible rfl)
                simp only [Act.put, lay9]
                refine tk 5 (v := ?_) rfl ?_ hHeld ?_
                rotate_left
                · (intro w' hSw; obtain ⟨hS0, hS1, hS2, hS3⟩ := hSw; go_simp; try with_reducible rfl)
                simp only [Act.put, lay9]
                refine tk 6 (v := ?_) rfl ?_ hHeld ?_
                rotate_left
                · (intro w' hSw; obtain ⟨hS0, hS1, hS2, hS3⟩ := hSw; go_simp; try with_reducible rfl)
                simp only [Act.put, lay9]
                refine tk 7 (v := ?_) rfl ?_ hHeld ?_
                rotate_left
                · (intro w' hSw; obtain ⟨hS0, hS1, hS2, hS3⟩ := hSw; go_simp; try with_reducible rfl)
                simp only [Act.put, lay9]
                refine wpAnyH_ready (rs := [8]) (by kernel_rfl) (by simp) (AllReadyH.cons rfl (fun K hK => ?_) AllReadyH.nil)
                go_simp
                with_reducible refine HC.out.mono ?_
                rintro _ X8 ⟨rfl, hv1, hg1⟩
                have hk1 : RM X8 D M 14 15 xa xb ua ub := hRM.kept hg1 (by omega) (by omega)
                refine hK.out _ _ hk1 (fun hHeld => ?_)
                clear hK K
                (try simp only [Act.put, lay9])
                refine wpAnyH_done (by kernel_rfl) ?_ _
                have HTr8 : Hid (TR w X8 M B D mW Y8 R) := HTd7.out.step hMle hBM hBD hg1 hv1
                clear hk1 hRM la lb la0 la1 lb0 lb1 HC hv1 hg1 HTd7 HTr7 hHeld
                clear hl7 hA7
                have HV8 := Lib.hid (show Y8 = (Pl.rowsB.take (k + 1)).foldl (Pl.roundL mW) V3 by rw [rows_step k hlt, List.foldl_append, ← HV.out, HRK.out]; simp only [List.foldl_cons, List.foldl_nil, Pl.roundL]; rw [H1.out, H2.out, H3.out, H4.out, H5.out, H6.out, H7.out, H8.out])
                clear H1 H2 H3 H4 H5 H6 H7 H8 HV HRK HRv HR16
                go_wp2_with fail
                go_roundw
                case rel => exact ⟨k + 1, Y8, by omega, by go_num, HV8.out, hl8, hA8, HTr8.out.t⟩
                case measure => simp [intOf]; omega
              · obtain rfl : k = 10 := by omega
                have HF := Lib.hid (hfin V HV.out)
                obtain ⟨hVl, hVA, hT⟩ := HT.out
                have HS1 := Lib.hid (HH.out.below hT.bel)
                have HBe := Lib.hid hT.bel
                have HVB := Lib.hid hT.v
                clear HV HT hT hfin hlt hk hix HH
                go_wp2_with fail
                rw [show ((10 : Nat) : Int) = 10 from rfl]
                go_loopw [175] (fun i wr => ∃ (j : Nat), j ≤ 8 ∧ i = .int .i64 j ∧ Hid (StBox wr S (partH h V j) b f t) ∧ Hid (wr.heap[B]? = some (.cells (u32s V).toArray 190 (0, 0))) ∧ Hid (w.grownBy wr (some S))) (fun i _ => 8 - (intOf i).toNat)
                case atStart => exact ⟨0, Nat.zero_le _, rfl, by rw [partH_0 h V hh8]; exact HS1.out, HVB.out, grown_of_below HBe.out⟩
                case round =>
                  obtain ⟨j, hj, rfl, HS, HB, HG⟩ := hrel
                  by_cases hlt : j < 8
                  · obtain ⟨h0, hh0⟩ : ∃ z, h.getD j 0 = z := ⟨_, rfl⟩
                    obtain ⟨v0, hv0⟩ : ∃ z, V.getD j 0 = z := ⟨_, rfl⟩
                    obtain ⟨v8, hv8⟩ : ∃ z, V.getD (j + 8) 0 = z := ⟨_, rfl⟩
                    have l0 : h0 < 4294967296 := by rw [← hh0]; exact hA _
                    have l1 : v0 < 4294967296 := by rw [← hv0]; exact hVA _
                    have l2 : v8 < 4294967296 := by rw [← hv8]; exact hVA _
                    have ex1 : bits .xor .u32 (v0 : Int) (v8 : Int) = ((v0 ^^^ v8 : Nat) : Int) := Go.u32_xor_nat _ _ l1 l2
                    have ex2 : bits .xor .u32 (h0 : Int) ((v0 ^^^ v8 : Nat) : Int) = ((h0 ^^^ (v0 ^^^ v8) : Nat) : Int) := Go.u32_xor_nat _ _ l0 (Pl.xor_lt l1 l2)
                    have hVC : VC wr B j v0 v8 := ⟨by rw [u32s_cell HB.out j (by omega), hv0], by rw [u32s_cell HB.out (j + 8) (by omega), hv8]⟩
                    have q1 : wr.cell? ⟨S, j, none⟩ = some (.int .u32 (h0 : Int)) := by rw [HS.out.ch j hlt, partH_at h V j hlt, hh0]
                    have q3 := HS.out.froz j
                    have hST := Lib.hid (HS.out.set_h j (h0 ^^^ (v0 ^^^ v8)) hlt)
                    have hSt2 := Lib.hid (show (partH h V j).set j (h0 ^^^ (v0 ^^^ v8)) = partH h V (j + 1) by rw [← hh0, ← hv0, ← hv8]; exact partH_step h V j hlt)
                    rw [hSt2.out] at hST
                    have j0 : (0 : Int) ≤ (j : Int) := by omega
                    have j1 : (j : Int) < 8 := by omega
                    have j2 : (j : Int) < 16 := by omega
                    have e1 : IntKind.i64.wrap ((j : Int) + 8) = (j : Int) + 8 := IntWalk.i64_in _ (by omega)
                    have n1 : (0 : Int) ≤ (j : Int) + 8 := by omega
                    have u1 : (j : Int) + 8 < 16 := by omega
                    have t1 : ((j : Int) + 8).toNat = j + 8 := by omega
                    clear hh0 hv0 hv8 hSt2
                    go_wp2_with fail
                    refine wp_region_held_drew (S := (fun w' => VC w' B j v0 v8)) (by kernel_rfl) (by exact ⟨hVC.a, hVC.b⟩) (fun hHeld => ?_)
                    refine tk 0 (v := ?_) rfl ?_ hHeld ?_
                    rotate_left
                    · (intro w' hSw; obtain ⟨hS0, hS1⟩ := hSw; go_simp; try with_reducible rfl)
                    simp only [Act.put, lay9]
                    refine tk 1 (v := ?_) rfl ?_ hHeld ?_
                    rotate_left
                    · (intro w' hSw; obtain ⟨hS0, hS1⟩ := hSw; go_simp; try with_reducible rfl)
                    simp only [Act.put, lay9]
                    refine tk 2 (v := ?_) rfl ?_ hHeld ?_
                    rotate_left
                    · (intro w' hSw; obtain ⟨hS0, hS1⟩ := hSw; go_simp; try with_reducible rfl)
                    simp only [Act.put, lay9]
                    refine tk 3 (v := ?_) rfl ?_ hHeld ?_
                    rotate_left
                    · (intro w' hSw; obtain ⟨hS0, hS1⟩ := hSw; go_simp; try with_reducible rfl)
                    simp only [Act.put, lay9]
                    refine tk 4 (v := ?_) rfl ?_ hHeld ?_
                    rotate_left
                    · (intro w' hSw; obtain ⟨hS0, hS1⟩ := hSw; go_simp; try with_reducible rfl)
                    simp only [Act.put, lay9]
                    refine tk 6 (v := ?_) rfl ?_ hHeld ?_
                    rotate_left
                    · (intro w' hSw; obtain ⟨hS0, hS1⟩ := hSw; go_simp; try with_reducible rfl)
                    simp only [Act.put, lay9]
                    refine tk 7 (v := ?_) rfl ?_ hHeld ?_
                    rotate_left
                    · (intro w' hSw; obtain ⟨hS0, hS1⟩ := hSw; go_simp; try with_reducible rfl)
                    simp only [Act.put, lay9]
                    refine tk 8 (v := ?_) rfl ?_ hHeld ?_
                    rotate_left
                    · (intro w' hSw; obtain ⟨hS0, hS1⟩ := hSw; go_simp; try with_reducible rfl)
                    simp only [Act.put, lay9]
                    refine tk 9 (v := ?_) rfl ?_ hHeld ?_
                    rotate_left
                    · (intro w' hSw; obtain ⟨hS0, hS1⟩ := hSw; go_simp; try with_reducible rfl)
                    simp only [Act.put, lay9]
                    refine tk 10 (v := ?_) rfl ?_ hHeld ?_
                    rotate_left
                    · (intro w' hSw; obtain ⟨hS0, hS1⟩ := hSw; go_simp; try with_reducible rfl)
                    simp only [Act.put, lay9]
                    refine tk 11 (v := ?_) rfl ?_ hHeld ?_
                    rotate_left
                    · (intro w' hSw; obtain ⟨hS0, hS1⟩ := hSw; go_simp; try with_reducible rfl)
                    simp only [Act.put, lay9]
                    refine tk 12 (v := ?_) rfl ?_ hHeld ?_
                    rotate_left
                    · (intro w' hSw; obtain ⟨hS0, hS1⟩ := hSw; go_simp; try with_reducible rfl)
                    simp only [Act.put, lay9]
                    refine tk 13 (v := ?_) rfl ?_ hHeld ?_
                    rotate_left
                    · (intro w' hSw; obtain ⟨hS0, hS1⟩ := hSw; go_simp; try with_reducible rfl)
                    simp only [Act.put, lay9]
                    refine tk 15 (v := ?_) rfl ?_ hHeld ?_
                    rotate_left
                    · (intro w' hSw; obtain ⟨hS0, hS1⟩ := hSw; go_simp; try with_reducible rfl)
                    simp only [Act.put, lay9]
                    refine tk 16 (v := ?_) rfl ?_ hHeld ?_
                    rotate_left
                    · (intro w' hSw; obtain ⟨hS0, hS1⟩ := hSw; go_simp; try with_reducible rfl)
                    simp only [Act.put, lay9]
                    refine wpAnyH_ready (rs := [5]) (by kernel_rfl) (by simp) (AllReadyH.cons rfl (fun K hK => ?_) AllReadyH.nil)
                    go_simp
                    refine hK.out _ _ hHeld (fun hHeld => ?_)
                    clear hK K
                    (try simp only [Act.put, lay9])
                    refine tk 14 (v := ?_) rfl ?_ hHeld ?_
                    rotate_left
                    · (intro w' hSw; (try dsimp only at hSw); go_simp; try with_reducible rfl)
                    simp only [Act.put, lay9]
                    refine tk 17 (v := ?_) rfl ?_ hHeld ?_
                    rotate_left
                    · (intro w' hSw; (try dsimp only at hSw); go_simp; try with_reducible rfl)
                    simp only [Act.put, lay9]
                    refine wpAnyH_ready (rs := [18]) (by kernel_rfl) (by simp) (AllReadyH.cons rfl (fun K hK => ?_) AllReadyH.nil)
                    go_simp
                    have hk : VC (wr.setCell ⟨S, j, none⟩ (.int .u32 ((h0 ^^^ (v0 ^^^ v8) : Nat) : Int))).drew B j v0 v8 := hVC.kept (grown_drew (grown_set _ _ _ _)) (by simp; omega)
                    refine hK.out _ _ hk (fun hHeld => ?_)
                    clear hK K
                    (try simp only [Act.put, lay9])
                    refine wpAnyH_done (by kernel_rfl) ?_ _
                    go_wp2_with fail
                    go_roundw
                    case rel =>
                      refine ⟨j + 1, by omega, by go_num, ?_, ?_, ?_⟩
                      · exact ⟨hST.out.at_, hST.out.hl, hST.out.bl⟩
                      · exact ((grown_set wr S j _).block B (blk_lt HB.out) (by simp; omega)).trans HB.out
                      · exact HG.out.trans (grown_drew (grown_set _ _ _ _))
                    case measure => simp [intOf]; omega
                  · obtain rfl : j = 8 := by omega
                    go_wp2_with fail
                    refine bodyPost_end (results_none rfl _ _ _) rfl ?_
                    refine ⟨rfl, ?_, HG.out⟩
                    rw [← HF.out]; exact HS.out
          · go_upto_region 17 with (fail)
            obtain ⟨p3, hp3⟩ : ∃ z, V2.getD 14 0 = z := ⟨_, rfl⟩
            have q1 := u32s_cell HTb.out.v 14 (by omega)
            have q3 := frozen_of Wb B 14 _ _ HTb.out.v
            rw [hp3] at q1
            have l3 : p3 < 4294967296 := by rw [← hp3]; exact hA2 _
            have hw3 := xor_ones p3 l3
            go_upto_region 18 with (fail)
            have HTc : Hid (TK w (Wb.setCell ⟨B, 14, none⟩ (.int .u32 ((4294967295 - p3 : Nat) : Int))) w.heap.size B (Pl.words16 b) (V2.set 14 (4294967295 - p3))) := HTb.out.set (Nat.le_refl _) hBM 14 _
            obtain ⟨V3, hV3⟩ : ∃ V, V2.set 14 (4294967295 - p3) = V := ⟨_, rfl⟩
            obtain ⟨W3, hW3⟩ : ∃ W, Wb.setCell ⟨B, 14, none⟩ (.int .u32 ((4294967295 - p3 : Nat) : Int)) = W := ⟨_, rfl⟩
            rw [hV3, hW3] at HTc; rw [hW3]
            have hl3 : V3.length = 16 := by rw [← hV3, List.length_set]; exact hl2
            have hA3 : Pl.All32 V3 := by rw [← hV3]; exact hA2.set _ (by omega)
            have hst : Pl.startV h t true = V3 := by unfold Pl.startV; simp only [hV0, hp1, HR1.out, hV1, hp2, HR2.out, hV2, hp3]; exact hV3
            clear hW3 hV3 hV2 hV1 hV0 hp1 hp2 hp3 HTb q1 q3 hw3
            clear hA2 hl2 hA1 hl1 hA0 hl0 HR1 HR2 hw1 hw2 hr1l hr2l l1 l2 ht0 ht1
            have hve := (hv.below HTc.out.bel).r
            obtain ⟨RU, hRU⟩ : ∃ V, rowsU = V := ⟨_, rfl⟩
            have hix : ∀ k : Nat, k < 10 → ∀ w : World, (Instr.index 214 (.agg (u8s RU).toArray) (.int .i64 (k : Int))).run Tryz.prog w = .ok (.agg (u8s (rowU k)).toArray) w := by rw [← hRU]; exact index_rows
            rw [hRU] at hve
            have hRl : RU.length = 160 := by rw [← hRU]; rfl
            clear hRU HE8 hE8l
            obtain ⟨mW, hmW⟩ : ∃ V, Pl.words16 b = V := ⟨_, rfl⟩
            have hml : mW.length = 16 := by rw [← hmW]; exact words16_len b
            rw [hmW] at HTc
            have hfin : ∀ V, V = Pl.rowsB.foldl (Pl.roundL mW) V3 → partH h V 8 = Pl.takeB h b t true := by intro V e; rw [partH_8, e, ← hst, ← hmW]; rfl
            clear hmW hst
            obtain ⟨M, hM⟩ : ∃ M, w.heap.size = M := ⟨_, rfl⟩
            have hMle : w.heap.size ≤ M := by omega
            rw [hM] at HTc hBM ⊢
            have hMS : S < M := by omega
            clear hM
            go_wp2_with (with_reducible refine wpList_load_mid rfl 214 _ rfl 1 0 rfl (u8s RU) _ hve.range Tryz.underlying214 rfl (by rw [u8s_len, hRl]; exact info_10) ?_)
            clear hve hRl
            go_loopw [99] (fun i wr => ∃ (k : Nat) (V : List Nat), k ≤ 10 ∧ i = .int .i64 k ∧ Hid (V = (Pl.rowsB.take k).foldl (Pl.roundL mW) V3) ∧ Hid (V.length = 16 ∧ Pl.All32 V ∧ TK w wr M B mW V)) (fun i _ => 10 - (intOf i).toNat)
            case atStart => exact ⟨0, V3, Nat.zero_le _, rfl, rfl, hl3, hA3, HTc.out⟩
            case round =>
              obtain ⟨k, V, hk, rfl, HV, HT⟩ := hrel
              clear HTc hl3 hA3
              by_cases hlt : k < 10
              · have hx := hix k hlt
                obtain ⟨R, hR⟩ : ∃ R, rowU k = R := ⟨_, rfl⟩
                have hRk : R.length = 16 := by rw [← hR]; exact rowU_len k hlt
                have hRv : ∀ i, i < 16 → (R.getD i 0).toNat = (Pl.rowsB.getD k []).getD i 0 := by rw [← hR]; exact rowU_get k hlt
                have hR16 : ∀ i, i < 16 → (R.getD i 0).toNat < 16 := by rw [← hR]; exact rowU_lt k hlt
                rw [hR] at hx
                clear hix
                obtain ⟨rk, hrk⟩ : ∃ r, Pl.rowsB.getD k [] = r := ⟨_, rfl⟩
                rw [hrk] at hRv
                have HRv := Lib.hid hRv; clear hRv
                have HR16 := Lib.hid hR16; clear hR16
                have HRK := Lib.hid hrk; clear hrk
                clear hR
                have HZ := Lib.hid (show (wr.alloc (.cells (u8s (List.replicate 16 0)).toArray 213)).heap[wr.heap.size]? = some (.cells (u8s (List.replicate 16 0)).toArray 213 (0, 0)) from heap_alloc_new _ _)
                have hB16 : (u8s (List.replicate 16 (0 : UInt8))).length = 16 := by rw [u8s_len, List.length_replicate]
                have HTHR := Lib.hid (show (wr.alloc (.cells #[.int .u8 0, .int .u8 0, .int .u8 0, .int .u8 0, .int .u8 0, .int .u8 0, .int .u8 0, .int .u8 0, .int .u8 0, .int .u8 0, .int .u8 0, .int .u8 0, .int .u8 0, .int .u8 0, .int .u8 0, .int .u8 0] 213)).there wr.heap.size 0 (u8s R).toArray.size from thereL HZ.out (by simp [u8s_len, hRk]))
                have HB16 := Lib.hid hB16; clear hB16
                go_wp2_with (with_reducible refine wpList_store_mid rfl 213 _ _ rfl wr.heap.size 0 (u8s R).toArray rfl rfl HTHR.out (by rw [List.size_toArray, u8s_len, hRk]; exact info_16b) (all_oneCell_toArray (u8s_one R)) ?_)
                obtain ⟨hVl, hVA, hT⟩ := HT.out
                have hr0 : ((wr.alloc (.cells (u8s (List.replicate 16 0)).toArray 213)).setCells wr.heap.size 0 (u8s R)).heap[wr.heap.size]? = some (.cells (u8s R).toArray 213 (0, 0)) := heap_setCells_all HZ.out (by rw [HB16.out, u8s_len, hRk])
                have HTr0 : Hid (TR w ((wr.alloc (.cells (u8s (List.replicate 16 0)).toArray 213)).setCells wr.heap.size 0 (u8s R)) M B wr.heap.size mW V R) := TR.new hT hr0 (blk_lt hT.m) (blk_lt hT.v)
                obtain ⟨D, hD⟩ : ∃ D, wr.heap.size = D := ⟨_, rfl⟩
                have hBD : B < D := by rw [← hD]; exact blk_lt hT.v
                have hMD : M < D := by omega
                rw [hD] at HTr0
                clear HZ HTHR hr0 HB16 hT HT
                rw [hD]
                obtain ⟨X0, hX0⟩ : ∃ W, ((wr.alloc (.cells (u8s (List.replicate 16 0)).toArray 213)).setCells D 0 (u8s R)) = W := ⟨_, rfl⟩
                rw [hX0] at HTr0
                have hX0' : ((wr.alloc (.cells #[.int .u8 0, .int .u8 0, .int .u8 0, .int .u8 0, .int .u8 0, .int .u8 0, .int .u8 0, .int .u8 0, .int .u8 0, .int .u8 0, .int .u8 0, .int .u8 0, .int .u8 0, .int .u8 0, .int .u8 0, .int .u8 0] 213)).setCells D 0 (u8s R)) = X0 := hX0
                rw [hX0']
                clear hX0 hX0' hD hx
                have HTd0 : Hid (TR w X0.drew M B D mW V R) := HTr0.out.drew
                obtain ⟨xa, hxa⟩ : ∃ z, (R.getD 0 0).toNat = z := ⟨_, rfl⟩
                obtain ⟨xb, hxb⟩ : ∃ z, (R.getD 1 0).toNat = z := ⟨_, rfl⟩
                have la : xa < 16 := by rw [← hxa]; exact HR16.out _ (by omega)
                have lb : xb < 16 := by rw [← hxb]; exact HR16.out _ (by omega)
                obtain ⟨ua, hua⟩ : ∃ z, mW.getD xa 0 = z := ⟨_, rfl⟩
                obtain ⟨ub, hub⟩ : ∃ z, mW.getD xb 0 = z := ⟨_, rfl⟩
                have hRM : RM X0.drew D M 0 1 xa xb ua ub := ⟨by rw [u8s_cell HTd0.out.r 0 (by omega), hxa], by rw [u8s_cell HTd0.out.r 1 (by omega), hxb], by rw [u32s_cell HTd0.out.t.m xa (by omega), hua], by rw [u32s_cell HTd0.out.t.m xb (by omega), hub]⟩
                obtain ⟨Y1, hVe⟩ : ∃ z, Pl.mixL V 0 4 8 12 ua ub = z := ⟨_, rfl⟩
                have hl1 : Y1.length = 16 := by rw [← hVe, Pl.mixL_len]; exact hVl
                have hA1 : Pl.All32 Y1 := by rw [← hVe]; exact Pl.mixL_all hVA _ _ _ _ _ _
                have H1 := Lib.hid (show Pl.mixL V 0 4 8 12 (mW.getD (rk.getD 0 0) 0) (mW.getD (rk.getD 1 0) 0) = Y1 by rw [← HRv.out 0 (by omega), ← HRv.out 1 (by omega), hxa, hxb, hua, hub]; exact hVe)
                have HC := Lib.hid (mix_0 V hVl hVA ua ub B X0.drew HTd0.out.t.v)
                rw [hVe] at HC
                have la0 : (0 : Int) ≤ (xa : Int) := by omega
                have la1 : (xa : Int) < 16 := by omega
                have lb0 : (0 : Int) ≤ (xb : Int) := by omega
                have lb1 : (xb : Int) < 16 := by omega
                clear hxa hxb hua hub hVe
                refine wp_region_held_drew (S := (fun w' => RM w' D M 0 1 xa xb ua ub)) (by kernel_rfl) (by exact hRM) (fun hHeld => ?_)
                refine tk 0 (v := ?_) rfl ?_ hHeld ?_
                rotate_left
                · (intro w' hSw; obtain ⟨hS0, hS1, hS2, hS3⟩ := hSw; go_simp; try with_reducible rfl)
                simp only [Act.put, lay9]
                refine tk 1 (v := ?_) rfl ?_ hHeld ?_
                rotate_left
                · (intro w' hSw; obtain ⟨hS0, hS1, hS2, hS3⟩ := hSw; go_simp; try with_reducible rfl)
                simp only [Act.put, lay9]
                refine tk 2 (v := ?_) rfl ?_ hHeld ?_
                rotate_left
                · (intro w' hSw; obtain ⟨hS0, hS1, hS2, hS3⟩ := hSw; go_simp; try with_reducible rfl)
                simp only [Act.put, lay9]
                refine tk 3 (v := ?_) rfl ?_ hHeld ?_
                rotate_left
                · (intro w' hSw; obtain ⟨hS0, hS1, hS2, hS3⟩ := hSw; go_simp; try with_reducible rfl)
                simp only [Act.put, lay9]
                refine tk 4 (v := ?_) rfl ?_ hHeld ?_
                rotate_left
                · (intro w' hSw; obtain ⟨hS0, hS1, hS2, hS3⟩ := hSw; go_simp; try with_reducible rfl)
                simp only [Act.put, lay9]
                refine tk 5 (v := ?_) rfl ?_ hHeld ?_
                rotate_left
                · (intro w' hSw; obtain ⟨hS0, hS1, hS2, hS3⟩ := hSw; go_simp; try with_reducible rfl)
                simp only [Act.put, lay9]
                refine tk 6 (v := ?_) rfl ?_ hHeld ?_
                rotate_left
                · (intro w' hSw; obtain ⟨hS0, hS1, hS2, hS3⟩ := hSw; go_simp; try with_reducible rfl)
                simp only [Act.put, lay9]
                refine tk 7 (v := ?_) rfl ?_ hHeld ?_
                rotate_left
                · (intro w' hSw; obtain ⟨hS0, hS1, hS2, hS3⟩ := hSw; go_simp; try with_reducible rfl)
                simp only [Act.put, lay9]
                refine wpAnyH_ready (rs := [8]) (by kernel_rfl) (by simp) (AllReadyH.cons rfl (fun K hK => ?_) AllReadyH.nil)
                go_simp
                with_reducible refine HC.out.mono ?_
                rintro _ X1 ⟨rfl, hv1, hg1⟩
                have hk1 : RM X1 D M 0 1 xa xb ua ub := hRM.kept hg1 (by omega) (by omega)
                refine hK.out _ _ hk1 (fun hHeld => ?_)
                clear hK K
                (try simp only [Act.put, lay9])
                refine wpAnyH_done (by kernel_rfl) ?_ _
                have HTr1 : Hid (TR w X1 M B D mW Y1 R) := HTd0.out.step hMle hBM hBD hg1 hv1
                clear hk1 hRM la lb la0 la1 lb0 lb1 HC hv1 hg1 HTd0 HTr0 hHeld
                go_wp2_with fail
                have HTd1 : Hid (TR w X1.drew M B D mW Y1 R) := HTr1.out.drew
                obtain ⟨xa, hxa⟩ : ∃ z, (R.getD 2 0).toNat = z := ⟨_, rfl⟩
                obtain ⟨xb, hxb⟩ : ∃ z, (R.getD 3 0).toNat = z := ⟨_, rfl⟩
                have la : xa < 16 := by rw [← hxa]; exact HR16.out _ (by omega)
                have lb : xb < 16 := by rw [← hxb]; exact HR16.out _ (by omega)
                obtain ⟨ua, hua⟩ : ∃ z, mW.getD xa 0 = z := ⟨_, rfl⟩
                obtain ⟨ub, hub⟩ : ∃ z, mW.getD xb 0 = z := ⟨_, rfl⟩
                have hRM : RM X1.drew D M 2 3 xa xb ua ub := ⟨by rw [u8s_cell HTd1.out.r 2 (by omega), hxa], by rw [u8s_cell HTd1.out.r 3 (by omega), hxb], by rw [u32s_cell HTd1.out.t.m xa (by omega), hua], by rw [u32s_cell HTd1.out.t.m xb (by omega), hub]⟩
                obtain ⟨Y2, hVe⟩ : ∃ z, Pl.mixL Y1 1 5 9 13 ua ub = z := ⟨_, rfl⟩
                have hl2 : Y2.length = 16 := by rw [← hVe, Pl.mixL_len]; exact hl1
                have hA2 : Pl.All32 Y2 := by rw [← hVe]; exact Pl.mixL_all hA1 _ _ _ _ _ _
                have H2 := Lib.hid (show Pl.mixL Y1 1 5 9 13 (mW.getD (rk.getD 2 0) 0) (mW.getD (rk.getD 3 0) 0) = Y2 by rw [← HRv.out 2 (by omega), ← HRv.out 3 (by omega), hxa, hxb, hua, hub]; exact hVe)
                have HC := Lib.hid (mix_1 Y1 hl1 hA1 ua ub B X1.drew HTd1.out.t.v)
                rw [hVe] at HC
                have la0 : (0 : Int) ≤ (xa : Int) := by omega
                have la1 : (xa : Int) < 16 := by omega
                have lb0 : (0 : Int) ≤ (xb : Int) := by omega
                have lb1 : (xb : Int) < 16 := by omega
                clear hxa hxb hua hub hVe
                refine wp_region_held_drew (S := (fun w' => RM w' D M 2 3 xa xb ua ub)) (by kernel_rfl) (by exact hRM) (fun hHeld => ?_)
                refine tk 0 (v := ?_) rfl ?_ hHeld ?_
                rotate_left
                · (intro w' hSw; obtain ⟨hS0, hS1, hS2, hS3⟩ := hSw; go_simp; try with_reducible rfl)
                simp only [Act.put, lay9]
                refine tk 1 (v := ?_) rfl ?_ hHeld ?_
                rotate_left
                · (intro w' hSw; obtain ⟨hS0, hS1, hS2, hS3⟩ := hSw; go_simp; try with_reducible rfl)
                simp only [Act.put, lay9]
                refine tk 2 (v := ?_) rfl ?_ hHeld ?_
                rotate_left
                · (intro w' hSw; obtain ⟨hS0, hS1, hS2, hS3⟩ := hSw; go_simp; try with_reducible rfl)
                simp only [Act.put, lay9]
                refine tk 3 (v := ?_) rfl ?_ hHeld ?_
                rotate_left
                · (intro w' hSw; obtain ⟨hS0, hS1, hS2, hS3⟩ := hSw; go_simp; try with_reducible rfl)
                simp only [Act.put, lay9]
                refine tk 4 (v := ?_) rfl ?_ hHeld ?_
                rotate_left
                · (intro w' hSw; obtain ⟨hS0, hS1, hS2, hS3⟩ := hSw; go_simp; try with_reducible rfl)
                simp only [Act.put, lay9]
                refine tk 5 (v := ?_) rfl ?_ hHeld ?_
                rotate_left
                · (intro w' hSw; obtain ⟨hS0, hS1, hS2, hS3⟩ := hSw; go_simp; try with_reducible rfl)
                simp only [Act.put, lay9]
                refine tk 6 (v := ?_) rfl ?_ hHeld ?_
                rotate_left
                · (intro w' hSw; obtain ⟨hS0, hS1, hS2, hS3⟩ := hSw; go_simp; try with_reducible rfl)
                simp only [Act.put, lay9]
                refine tk 7 (v := ?_) rfl ?_ hHeld ?_
                rotate_left
                · (intro w' hSw; obtain ⟨hS0, hS1, hS2, hS3⟩ := hSw; go_simp; try with_reducible rfl)
                simp only [Act.put, lay9]
                refine wpAnyH_ready (rs := [8]) (by kernel_rfl) (by simp) (AllReadyH.cons rfl (fun K hK => ?_) AllReadyH.nil)
                go_simp
                with_reducible refine HC.out.mono ?_
                rintro _ X2 ⟨rfl, hv1, hg1⟩
                have hk1 : RM X2 D M 2 3 xa xb ua ub := hRM.kept hg1 (by omega) (by omega)
                refine hK.out _ _ hk1 (fun hHeld => ?_)
                clear hK K
                (try simp only [Act.put, lay9])
                refine wpAnyH_done (by kernel_rfl) ?_ _
                have HTr2 : Hid (TR w X2 M B D mW Y2 R) := HTd1.out.step hMle hBM hBD hg1 hv1
                clear hk1 hRM la lb la0 la1 lb0 lb1 HC hv1 hg1 HTd1 HTr1 hHeld
                clear hl1 hA1
                go_wp2_with fail
                have HTd2 : Hid (TR w X2.drew M B D mW Y2 R) := HTr2.out.drew
                obtain ⟨xa, hxa⟩ : ∃ z, (R.getD 4 0).toNat = z := ⟨_, rfl⟩
                obtain ⟨xb, hxb⟩ : ∃ z, (R.getD 5 0).toNat = z := ⟨_, rfl⟩
                have la : xa < 16 := by rw [← hxa]; exact HR16.out _ (by omega)
                have lb : xb < 16 := by rw [← hxb]; exact HR16.out _ (by omega)
                obtain ⟨ua, hua⟩ : ∃ z, mW.getD xa 0 = z := ⟨_, rfl⟩
                obtain ⟨ub, hub⟩ : ∃ z, mW.getD xb 0 = z := ⟨_, rfl⟩
                have hRM : RM X2.drew D M 4 5 xa xb ua ub := ⟨by rw [u8s_cell HTd2.out.r 4 (by omega), hxa], by rw [u8s_cell HTd2.out.r 5 (by omega), hxb], by rw [u32s_cell HTd2.out.t.m xa (by omega), hua], by rw [u32s_cell HTd2.out.t.m xb (by omega), hub]⟩
                obtain ⟨Y3, hVe⟩ : ∃ z, Pl.mixL Y2 2 6 10 14 ua ub = z := ⟨_, rfl⟩
                have hl3 : Y3.length = 16 := by rw [← hVe, Pl.mixL_len]; exact hl2
                have hA3 : Pl.All32 Y3 := by rw [← hVe]; exact Pl.mixL_all hA2 _ _ _ _ _ _
                have H3 := Lib.hid (show Pl.mixL Y2 2 6 10 14 (mW.getD (rk.getD 4 0) 0) (mW.getD (rk.getD 5 0) 0) = Y3 by rw [← HRv.out 4 (by omega), ← HRv.out 5 (by omega), hxa, hxb, hua, hub]; exact hVe)
                have HC := Lib.hid (mix_2 Y2 hl2 hA2 ua ub B X2.drew HTd2.out.t.v)
                rw [hVe] at HC
                have la0 : (0 : Int) ≤ (xa : Int) := by omega
                have la1 : (xa : Int) < 16 := by omega
                have lb0 : (0 : Int) ≤ (xb : Int) := by omega
                have lb1 : (xb : Int) < 16 := by omega
                clear hxa hxb hua hub hVe
                refine wp_region_held_drew (S := (fun w' => RM w' D M 4 5 xa xb ua ub)) (by kernel_rfl) (by exact hRM) (fun hHeld => ?_)
                refine tk 0 (v := ?_) rfl ?_ hHeld ?_
                rotate_left
                · (intro w' hSw; obtain ⟨hS0, hS1, hS2, hS3⟩ := hSw; go_simp; try with_reducible rfl)
                simp only [Act.put, lay9]
                refine tk 1 (v := ?_) rfl ?_ hHeld ?_
                rotate_left
                · (intro w' hSw; obtain ⟨hS0, hS1, hS2, hS3⟩ := hSw; go_simp; try with_reducible rfl)
                simp only [Act.put, lay9]
                refine tk 2 (v := ?_) rfl ?_ hHeld ?_
                rotate_left
                · (intro w' hSw; obtain ⟨hS0, hS1, hS2, hS3⟩ := hSw; go_simp; try with_reducible rfl)
                simp only [Act.put, lay9]
                refine tk 3 (v := ?_) rfl ?_ hHeld ?_
                rotate_left
                · (intro w' hSw; obtain ⟨hS0, hS1, hS2, hS3⟩ := hSw; go_simp; try with_reducible rfl)
                simp only [Act.put, lay9]
                refine tk 4 (v := ?_) rfl ?_ hHeld ?_
                rotate_left
                · (intro w' hSw; obtain ⟨hS0, hS1, hS2, hS3⟩ := hSw; go_simp; try with_reducible rfl)
                simp only [Act.put, lay9]
                refine tk 5 (v := ?_) rfl ?_ hHeld ?_
                rotate_left
                · (intro w' hSw; obtain ⟨hS0, hS1, hS2, hS3⟩ := hSw; go_simp; try with_reducible rfl)
                simp only [Act.put, lay9]
                refine tk 6 (v := ?_) rfl ?_ hHeld ?_
                rotate_left
                · (intro w' hSw; obtain ⟨hS0, hS1, hS2, hS3⟩ := hSw; go_simp; try with_reducible rfl)
                simp only [Act.put, lay9]
                refine tk 7 (v := ?_) rfl ?_ hHeld ?_
                rotate_left
                · (intro w' hSw; obtain ⟨hS0, hS1, hS2, hS3⟩ := hSw; go_simp; try with_reducible rfl)
                simp only [Act.put, lay9]
                refine wpAnyH_ready (rs := [8]) (by kernel_rfl) (by simp) (AllReadyH.cons rfl (fun K hK => ?_) AllReadyH.nil)
                go_simp
                with_reducible refine HC.out.mono ?_
                rintro _ X3 ⟨rfl, hv1, hg1⟩
                have hk1 : RM X3 D M 4 5 xa xb ua ub := hRM.kept hg1 (by omega) (by omega)
                refine hK.out _ _ hk1 (fun hHeld => ?_)
                clear hK K
                (try simp only [Act.put, lay9])
                refine wpAnyH_done (by kernel_rfl) ?_ _
                have HTr3 : Hid (TR w X3 M B D mW Y3 R) := HTd2.out.step hMle hBM hBD hg1 hv1
                clear hk1 hRM la lb la0 la1 lb0 lb1 HC hv1 hg1 HTd2 HTr2 hHeld
                clear hl2 hA2
                go_wp2_with fail
                have HTd3 : Hid (TR w X3.drew M B D mW Y3 R) := HTr3.out.drew
                obtain ⟨xa, hxa⟩ : ∃ z, (R.getD 6 0).toNat = z := ⟨_, rfl⟩
                obtain ⟨xb, hxb⟩ : ∃ z, (R.getD 7 0).toNat = z := ⟨_, rfl⟩
                have la : xa < 16 := by rw [← hxa]; exact HR16.out _ (by omega)
                have lb : xb < 16 := by rw [← hxb]; exact HR16.out _ (by omega)
                obtain ⟨ua, hua⟩ : ∃ z, mW.getD xa 0 = z := ⟨_, rfl⟩
                obtain ⟨ub, hub⟩ : ∃ z, mW.getD xb 0 = z := ⟨_, rfl⟩
                have hRM : RM X3.drew D M 6 7 xa xb ua ub := ⟨by rw [u8s_cell HTd3.out.r 6 (by omega), hxa], by rw [u8s_cell HTd3.out.r 7 (by omega), hxb], by rw [u32s_cell HTd3.out.t.m xa (by omega), hua], by rw [u32s_cell HTd3.out.t.m xb (by omega), hub]⟩
                obtain ⟨Y4, hVe⟩ : ∃ z, Pl.mixL Y3 3 7 11 15 ua ub = z := ⟨_, rfl⟩
                have hl4 : Y4.length = 16 := by rw [← hVe, Pl.mixL_len]; exact hl3
                have hA4 : Pl.All32 Y4 := by rw [← hVe]; exact Pl.mixL_all hA3 _ _ _ _ _ _
                have H4 := Lib.hid (show Pl.mixL Y3 3 7 11 15 (mW.getD (rk.getD 6 0) 0) (mW.getD (rk.getD 7 0) 0) = Y4 by rw [← HRv.out 6 (by omega), ← HRv.out 7 (by omega), hxa, hxb, hua, hub]; exact hVe)
                have HC := Lib.hid (mix_3 Y3 hl3 hA3 ua ub B X3.drew HTd3.out.t.v)
                rw [hVe] at HC
                have la0 : (0 : Int) ≤ (xa : Int) := by omega
                have la1 : (xa : Int) < 16 := by omega
                have lb0 : (0 : Int) ≤ (xb : Int) := by omega
                have lb1 : (xb : Int) < 16 := by omega
                clear hxa hxb hua hub hVe
                refine wp_region_held_drew (S := (fun w' => RM w' D M 6 7 xa xb ua ub)) (by kernel_rfl) (by exact hRM) (fun hHeld => ?_)
                refine tk 0 (v := ?_) rfl ?_ hHeld ?_
                rotate_left
                · (intro w' hSw; obtain ⟨hS0, hS1, hS2, hS3⟩ := hSw; go_simp; try with_reducible rfl)
                simp only [Act.put, lay9]
                refine tk 1 (v := ?_) rfl ?_ hHeld ?_
                rotate_left
                · (intro w' hSw; obtain ⟨hS0, hS1, hS2, hS3⟩ := hSw; go_simp; try with_reducible rfl)
                simp only [Act.put, lay9]
                refine tk 2 (v := ?_) rfl ?_ hHeld ?_
                rotate_left
                · (intro w' hSw; obtain ⟨hS0, hS1, hS2, hS3⟩ := hSw; go_simp; try with_reducible rfl)
                simp only [Act.put, lay9]
                refine tk 3 (v := ?_) rfl ?_ hHeld ?_
                rotate_left
                · (intro w' hSw; obtain ⟨hS0, hS1, hS2, hS3⟩ := hSw; go_simp; try with_reducible rfl)
                simp only [Act.put, lay9]
                refine tk 4 (v := ?_) rfl ?_ hHeld ?_
                rotate_left
                · (intro w' hSw; obtain ⟨hS0, hS1, hS2, hS3⟩ := hSw; go_simp; try with_reducible rfl)
                simp only [Act.put, lay9]
                refine tk 5 (v := ?_) rfl ?_ hHeld ?_
                rotate_left
                · (intro w' hSw; obtain ⟨hS0, hS1, hS2, hS3⟩ := hSw; go_simp; try with_reducible rfl)
                simp only [Act.put, lay9]
                refine tk 6 (v := ?_) rfl ?_ hHeld ?_
                rotate_left
                · (intro w' hSw; obtain ⟨hS0, hS1, hS2, hS3⟩ := hSw; go_simp; try with_reducible rfl)
                simp only [Act.put, lay9]
                refine tk 7 (v := ?_) rfl ?_ hHeld ?_
                rotate_left
                · (intro w' hSw; obtain ⟨hS0, hS1, hS2, hS3⟩ := hSw; go_simp; try with_reducible rfl)
                simp only [Act.put, lay9]
                refine wpAnyH_ready (rs := [8]) (by kernel_rfl) (by simp) (AllReadyH.cons rfl (fun K hK => ?_) AllReadyH.nil)
                go_simp
                with_reducible refine HC.out.mono ?_
                rintro _ X4 ⟨rfl, hv1, hg1⟩
                have hk1 : RM X4 D M 6 7 xa xb ua ub := hRM.kept hg1 (by omega) (by omega)
                refine hK.out _ _ hk1 (fun hHeld => ?_)
                clear hK K
                (try simp only [Act.put, lay9])
                refine wpAnyH_done (by kernel_rfl) ?_ _
                have HTr4 : Hid (TR w X4 M B D mW Y4 R) := HTd3.out.step hMle hBM hBD hg1 hv1
                clear hk1 hRM la lb la0 la1 lb0 lb1 HC hv1 hg1 HTd3 HTr3 hHeld
                clear hl3 hA3
                go_wp2_with fail
                have HTd4 : Hid (TR w X4.drew M B D mW Y4 R) := HTr4.out.drew
                obtain ⟨xa, hxa⟩ : ∃ z, (R.getD 8 0).toNat = z := ⟨_, rfl⟩
                obtain ⟨xb, hxb⟩ : ∃ z, (R.getD 9 0).toNat = z := ⟨_, rfl⟩
                have la : xa < 16 := by rw [← hxa]; exact HR16.out _ (by omega)
                have lb : xb < 16 := by rw [← hxb]; exact HR16.out _ (by omega)
                obtain ⟨ua, hua⟩ : ∃ z, mW.getD xa 0 = z := ⟨_, rfl⟩
                obtain ⟨ub, hub⟩ : ∃ z, mW.getD xb 0 = z := ⟨_, rfl⟩
                have hRM : RM X4.drew D M 8 9 xa xb ua ub := ⟨by rw [u8s_cell HTd4.out.r 8 (by omega), hxa], by rw [u8s_cell HTd4.out.r 9 (by omega), hxb], by rw [u32s_cell HTd4.out.t.m xa (by omega), hua], by rw [u32s_cell HTd4.out.t.m xb (by omega), hub]⟩
                obtain ⟨Y5, hVe⟩ : ∃ z, Pl.mixL Y4 0 5 10 15 ua ub = z := ⟨_, rfl⟩
                have hl5 : Y5.length = 16 := by rw [← hVe, Pl.mixL_len]; exact hl4
                have hA5 : Pl.All32 Y5 := by rw [← hVe]; exact Pl.mixL_all hA4 _ _ _ _ _ _
                have H5 := Lib.hid (show Pl.mixL Y4 0 5 10 15 (mW.getD (rk.getD 8 0) 0) (mW.getD (rk.getD 9 0) 0) = Y5 by rw [← HRv.out 8 (by omega), ← HRv.out 9 (by omega), hxa, hxb, hua, hub]; exact hVe)
                have HC := Lib.hid (mix_4 Y4 hl4 hA4 ua ub B X4.drew HTd4.out.t.v)
                rw [hVe] at HC
                have la0 : (0 : Int) ≤ (xa : Int) := by omega
                have la1 : (xa : Int) < 16 := by omega
                have lb0 : (0 : Int) ≤ (xb : Int) := by omega
                have lb1 : (xb : Int) < 16 := by omega
                clear hxa hxb hua hub hVe
                refine wp_region_held_drew (S := (fun w' => RM w' D M 8 9 xa xb ua ub)) (by kernel_rfl) (by exact hRM) (fun hHeld => ?_)
                refine tk 0 (v := ?_) rfl ?_ hHeld ?_
                rotate_left
                · (intro w' hSw; obtain ⟨hS0, hS1, hS2, hS3⟩ := hSw; go_simp; try with_reducible rfl)
                simp only [Act.put, lay9]
                refine tk 1 (v := ?_) rfl ?_ hHeld ?_
                rotate_left
                · (intro w' hSw; obtain ⟨hS0, hS1, hS2, hS3⟩ := hSw; go_simp; try with_reducible rfl)
                simp only [Act.put, lay9]
                refine tk 2 (v := ?_) rfl ?_ hHeld ?_
                rotate_left
                · (intro w' hSw; obtain ⟨hS0, hS1, hS2, hS3⟩ := hSw; go_simp; try with_reducible rfl)
                simp only [Act.put, lay9]
                refine tk 3 (v := ?_) rfl ?_ hHeld ?_
                rotate_left
                · (intro w' hSw; obtain ⟨hS0, hS1, hS2, hS3⟩ := hSw; go_simp; try with_reducible rfl)
                simp only [Act.put, lay9]
                refine tk 4 (v := ?_) rfl ?_ hHeld ?_
                rotate_left
                · (intro w' hSw; obtain ⟨hS0, hS1, hS2, hS3⟩ := hSw; go_simp; try with_reducible rfl)
                simp only [Act.put, lay9]
                refine tk 5 (v := ?_) rfl ?_ hHeld ?_
                rotate_left
                · (intro w' hSw; obtain ⟨hS0, hS1, hS2, hS3⟩ := hSw; go_simp; try with_reducible rfl)
                simp only [Act.put, lay9]
                refine tk 6 (v := ?_) rfl ?_ hHeld ?_
                rotate_left
                · (intro w' hSw; obtain ⟨hS0, hS1, hS2, hS3⟩ := hSw; go_simp; try with_reducible rfl)
                simp only [Act.put, lay9]
                refine tk 7 (v := ?_) rfl ?_ hHeld ?_
                rotate_left
                · (intro w' hSw; obtain ⟨hS0, hS1, hS2, hS3⟩ := hSw; go_simp; try with_reducible rfl)
                simp only [Act.put, lay9]
                refine wpAnyH_ready (rs := [8]) (by kernel_rfl) (by simp) (AllReadyH.cons rfl (fun K hK => ?_) AllReadyH.nil)
                go_simp
                with_reducible refine HC.out.mono ?_
                rintro _ X5 ⟨rfl, hv1, hg1⟩
                have hk1 : RM X5 D M 8 9 xa xb ua ub := hRM.kept hg1 (by omega) (by omega)
                refine hK.out _ _ hk1 (fun hHeld => ?_)
                clear hK K
                (try simp only [Act.put, lay9])
                refine wpAnyH_done (by kernel_rfl) ?_ _
                have HTr5 : Hid (TR w X5 M B D mW Y5 R) := HTd4.out.step hMle hBM hBD hg1 hv1
                clear hk1 hRM la lb la0 la1 lb0 lb1 HC hv1 hg1 HTd4 HTr4 hHeld
                clear hl4 hA4
                go_wp2_with fail
                have HTd5 : Hid (TR w X5.drew M B D mW Y5 R) := HTr5.out.drew
                obtain ⟨xa, hxa⟩ : ∃ z, (R.getD 10 0).toNat = z := ⟨_, rfl⟩
                obtain ⟨xb, hxb⟩ : ∃ z, (R.getD 11 0).toNat = z := ⟨_, rfl⟩
                have la : xa < 16 := by rw [← hxa]; exact HR16.out _ (by omega)
                have lb : xb < 16 := by rw [← hxb]; exact HR16.out _ (by omega)
                obtain ⟨ua, hua⟩ : ∃ z, mW.getD xa 0 = z := ⟨_, rfl⟩
                obtain ⟨ub, hub⟩ : ∃ z, mW.getD xb 0 = z := ⟨_, rfl⟩
                have hRM : RM X5.drew D M 10 11 xa xb ua ub := ⟨by rw [u8s_cell HTd5.out.r 10 (by omega), hxa], by rw [u8s_cell HTd5.out.r 11 (by omega), hxb], by rw [u32s_cell HTd5.out.t.m xa (by omega), hua], by rw [u32s_cell HTd5.out.t.m xb (by omega), hub]⟩
                obtain ⟨Y6, hVe⟩ : ∃ z, Pl.mixL Y5 1 6 11 12 ua ub = z := ⟨_, rfl⟩
                have hl6 : Y6.length = 16 := by rw [← hVe, Pl.mixL_len]; exact hl5
                have hA6 : Pl.All32 Y6 := by rw [← hVe]; exact Pl.mixL_all hA5 _ _ _ _ _ _
                have H6 := Lib.hid (show Pl.mixL Y5 1 6 11 12 (mW.getD (rk.getD 10 0) 0) (mW.getD (rk.getD 11 0) 0) = Y6 by rw [← HRv.out 10 (by omega), ← HRv.out 11 (by omega), hxa, hxb, hua, hub]; exact hVe)
                have HC := Lib.hid (mix_5 Y5 hl5 hA5 ua ub B X5.drew HTd5.out.t.v)
                rw [hVe] at HC
                have la0 : (0 : Int) ≤ (xa : Int) := by omega
                have la1 : (xa : Int) < 16 := by omega
                have lb0 : (0 : Int) ≤ (xb : Int) := by omega
                have lb1 : (xb : Int) < 16 := by omega
                clear hxa hxb hua hub hVe
                refine wp_region_held_drew (S := (fun w' => RM w' D M 10 11 xa xb ua ub)) (by kernel_rfl) (by exact hRM) (fun hHeld => ?_)
                refine tk 0 (v := ?_) rfl ?_ hHeld ?_
                rotate_left
                · (intro w' hSw; obtain ⟨hS0, hS1, hS2, hS3⟩ := hSw; go_simp; try with_reducible rfl)
                simp only [Act.put, lay9]
                refine tk 1 (v := ?_) rfl ?_ hHeld ?_
                rotate_left
                · (intro w' hSw; obtain ⟨hS0, hS1, hS2, hS3⟩ := hSw; go_simp; try with_reducible rfl)
                simp only [Act.put, lay9]
                refine tk 2 (v := ?_) rfl ?_ hHeld ?_
                rotate_left
                · (intro w' hSw; obtain ⟨hS0, hS1, hS2, hS3⟩ := hSw; go_simp; try with_reducible rfl)
                simp only [Act.put, lay9]
                refine tk 3 (v := ?_) rfl ?_ hHeld ?_
                rotate_left
                · (intro w' hSw; obtain ⟨hS0, hS1, hS2, hS3⟩ := hSw; go_simp; try with_reducible rfl)
                simp only [Act.put, lay9]
                refine tk 4 (v := ?_) rfl ?_ hHeld ?_
                rotate_left
                · (intro w' hSw; obtain ⟨hS0, hS1, hS2, hS3⟩ := hSw; go_simp; try with_reducible rfl)
                simp only [Act.put, lay9]
                refine tk 5 (v := ?_) rfl ?_ hHeld ?_
                rotate_left
                · (intro w' hSw; obtain ⟨hS0, hS1, hS2, hS3⟩ := hSw; go_simp; try with_reducible rfl)
                simp only [Act.put, lay9]
                refine tk 6 (v := ?_) rfl ?_ hHeld ?_
                rotate_left
                · (intro w' hSw; obtain ⟨hS0, hS1, hS2, hS3⟩ := hSw; go_simp; try with_reducible rfl)
                simp only [Act.put, lay9]
                refine tk 7 (v := ?_) rfl ?_ hHeld ?_
                rotate_left
                · (intro w' hSw; obtain ⟨hS0, hS1, hS2, hS3⟩ := hSw; go_simp; try with_reducible rfl)
                simp only [Act.put, lay9]
                refine wpAnyH_ready (rs := [8]) (by kernel_rfl) (by simp) (AllReadyH.cons rfl (fun K hK => ?_) AllReadyH.nil)
                go_simp
                with_reducible refine HC.out.mono ?_
                rintro _ X6 ⟨rfl, hv1, hg1⟩
                have hk1 : RM X6 D M 10 11 xa xb ua ub := hRM.kept hg1 (by omega) (by omega)
                refine hK.out _ _ hk1 (fun hHeld => ?_)
                clear hK K
                (try simp only [Act.put, lay9])
                refine wpAnyH_done (by kernel_rfl) ?_ _
                have HTr6 : Hid (TR w X6 M B D mW Y6 R) := HTd5.out.step hMle hBM hBD hg1 hv1
                clear hk1 hRM la lb la0 la1 lb0 lb1 HC hv1 hg1 HTd5 HTr5 hHeld
                clear hl5 hA5
                go_wp2_with fail
                have HTd6 : Hid (TR w X6.drew M B D mW Y6 R) := HTr6.out.drew
                obtain ⟨xa, hxa⟩ : ∃ z, (R.getD 12 0).toNat = z := ⟨_, rfl⟩
                obtain ⟨xb, hxb⟩ : ∃ z, (R.getD 13 0).toNat = z := ⟨_, rfl⟩
                have la : xa < 16 := by rw [← hxa]; exact HR16.out _ (by omega)
                have lb : xb < 16 := by rw [← hxb]; exact HR16.out _ (by omega)
                obtain ⟨ua, hua⟩ : ∃ z, mW.getD xa 0 = z := ⟨_, rfl⟩
                obtain ⟨ub, hub⟩ : ∃ z, mW.getD xb 0 = z := ⟨_, rfl⟩
                have hRM : RM X6.drew D M 12 13 xa xb ua ub := ⟨by rw [u8s_cell HTd6.out.r 12 (by omega), hxa], by rw [u8s_cell HTd6.out.r 13 (by omega), hxb], by rw [u32s_cell HTd6.out.t.m xa (by omega), hua], by rw [u32s_cell HTd6.out.t.m xb (by omega), hub]⟩
                obtain ⟨Y7, hVe⟩ : ∃ z, Pl.mixL Y6 2 7 8 13 ua ub = z := ⟨_, rfl⟩
                have hl7 : Y7.length = 16 := by rw [← hVe, Pl.mixL_len]; exact hl6
                have hA7 : Pl.All32 Y7 := by rw [← hVe]; exact Pl.mixL_all hA6 _ _ _ _ _ _
                have H7 := Lib.hid (show Pl.mixL Y6 2 7 8 13 (mW.getD (rk.getD 12 0) 0) (mW.getD (rk.getD 13 0) 0) = Y7 by rw [← HRv.out 12 (by omega), ← HRv.out 13 (by omega), hxa, hxb, hua, hub]; exact hVe)
                have HC := Lib.hid (mix_6 Y6 hl6 hA6 ua ub B X6.drew HTd6.out.t.v)
                rw [hVe] at HC
                have la0 : (0 : Int) ≤ (xa : Int) := by omega
                have la1 : (xa : Int) < 16 := by omega
                have lb0 : (0 : Int) ≤ (xb : Int) := by omega
                have lb1 : (xb : Int) < 16 := by omega
                clear hxa hxb hua hub hVe
                refine wp_region_held_drew (S := (fun w' => RM w' D M 12 13 xa xb ua ub)) (by kernel_rfl) (by exact hRM) (fun hHeld => ?_)
                refine tk 0 (v := ?_) rfl ?_ hHeld ?_
                rotate_left
                · (intro w' hSw; obtain ⟨hS0, hS1, hS2, hS3⟩ := hSw; go_simp; try with_reducible rfl)
                simp only [Act.put, lay9]
                refine tk 1 (v := ?_) rfl ?_ hHeld ?_
                rotate_left
                · (intro w' hSw; obtain ⟨hS0, hS1, hS2, hS3⟩ := hSw; go_simp; try with_reducible rfl)
                simp only [Act.put, lay9]
                refine tk 2 (v := ?_) rfl ?_ hHeld ?_
                rotate_left
                · (intro w' hSw; obtain ⟨hS0, hS1, hS2, hS3⟩ := hSw; go_simp; try with_reducible rfl)
                simp only [Act.put, lay9]
                refine tk 3 (v := ?_) rfl ?_ hHeld ?_
                rotate_left
                · (intro w' hSw; obtain ⟨hS0, hS1, hS2, hS3⟩ := hSw; go_simp; try with_reducible rfl)
                simp only [Act.put, lay9]
                refine tk 4 (v := ?_) rfl ?_ hHeld ?_
                rotate_left
                · (intro w' hSw; obtain ⟨hS0, hS1, hS2, hS3⟩ := hSw; go_simp; try with_reducible rfl)
                simp only [Act.put, lay9]
                refine tk 5 (v := ?_) rfl ?_ hHeld ?_
                rotate_left
                · (intro w' hSw; obtain ⟨hS0, hS1, hS2, hS3⟩ := hSw; go_simp; try with_reducible rfl)
                simp only [Act.put, lay9]
                refine tk 6 (v := ?_) rfl ?_ hHeld ?_
                rotate_left
                · (intro w' hSw; obtain ⟨hS0, hS1, hS2, hS3⟩ := hSw; go_simp; try with_reducible rfl)
                simp only [Act.put, lay9]
                refine tk 7 (v := ?_) rfl ?_ hHeld ?_
                rotate_left
                · (intro w' hSw; obtain ⟨hS0, hS1, hS2, hS3⟩ := hSw; go_simp; try with_reducible rfl)
                simp only [Act.put, lay9]
                refine wpAnyH_ready (rs := [8]) (by kernel_rfl) (by simp) (AllReadyH.cons rfl (fun K hK => ?_) AllReadyH.nil)
                go_simp
                with_reducible refine HC.out.mono ?_
                rintro _ X7 ⟨rfl, hv1, hg1⟩
                have hk1 : RM X7 D M 12 13 xa xb ua ub := hRM.kept hg1 (by omega) (by omega)
                refine hK.out _ _ hk1 (fun hHeld => ?_)
                clear hK K
                (try simp only [Act.put, lay9])
                refine wpAnyH_done (by kernel_rfl) ?_ _
                have HTr7 : Hid (TR w X7 M B D mW Y7 R) := HTd6.out.step hMle hBM hBD hg1 hv1
                clear hk1 hRM la lb la0 la1 lb0 lb1 HC hv1 hg1 HTd6 HTr6 hHeld
                clear hl6 hA6
                go_wp2_with fail
                have HTd7 : Hid (TR w X7.drew M B D mW Y7 R) := HTr7.out.drew
                obtain ⟨xa, hxa⟩ : ∃ z, (R.getD 14 0).toNat = z := ⟨_, rfl⟩
                obtain ⟨xb, hxb⟩ : ∃ z, (R.getD 15 0).toNat = z := ⟨_, rfl⟩
                have la : xa < 16 := by rw [← hxa]; exact HR16.out _ (by omega)
                have lb : xb < 16 := by rw [← hxb]; exact HR16.out _ (by omega)
                obtain ⟨ua, hua⟩ : ∃ z, mW.getD xa 0 = z := ⟨_, rfl⟩
                obtain ⟨ub, hub⟩ : ∃ z, mW.getD xb 0 = z := ⟨_, rfl⟩
                have hRM : RM X7.drew D M 14 15 xa xb ua ub := ⟨by rw [u8s_cell HTd7.out.r 14 (by omega), hxa], by rw [u8s_cell HTd7.out.r 15 (by omega), hxb], by rw [u32s_cell HTd7.out.t.m xa (by omega), hua], by rw [u32s_cell HTd7.out.t.m xb (by omega), hub]⟩
                obtain ⟨Y8, hVe⟩ : ∃ z, Pl.mixL Y7 3 4 9 14 ua ub = z := ⟨_, rfl⟩
                have hl8 : Y8.length = 16 := by rw [← hVe, Pl.mixL_len]; exact hl7
                have hA8 : Pl.All32 Y8 := by rw [← hVe]; exact Pl.mixL_all hA7 _ _ _ _ _ _
                have H8 := Lib.hid (show Pl.mixL Y7 3 4 9 14 (mW.getD (rk.getD 14 0) 0) (mW.getD (rk.getD 15 0) 0) = Y8 by rw [← HRv.out 14 (by omega), ← HRv.out 15 (by omega), hxa, hxb, hua, hub]; exact hVe)
                have HC := Lib.hid (mix_7 Y7 hl7 hA7 ua ub B X7.drew HTd7.out.t.v)
                rw [hVe] at HC
                have la0 : (0 : Int) ≤ (xa : Int) := by omega
                have la1 : (xa : Int) < 16 := by omega
                have lb0 : (0 : Int) ≤ (xb : Int) := by omega
                have lb1 : (xb : Int) < 16 := by omega
                clear hxa hxb hua hub hVe
                refine wp_region_held_drew (S := (fun w' => RM w' D M 14 15 xa xb ua ub)) (by kernel_rfl) (by exact hRM) (fun hHeld => ?_)
                refine tk 0 (v := ?_) rfl ?_ hHeld ?_
                rotate_left
                · (intro w' hSw; obtain ⟨hS0, hS1, hS2, hS3⟩ := hSw; go_simp; try with_reducible rfl)
                simp only [Act.put, lay9]
                refine tk 1 (v := ?_) rfl ?_ hHeld ?_
                rotate_left
                · (intro w' hSw; obtain ⟨hS0, hS1, hS2, hS3⟩ := hSw; go_simp; try with_reducible rfl)
                simp only [Act.put, lay9]
                refine tk 2 (v := ?_) rfl ?_ hHeld ?_
                rotate_left
                · (intro w' hSw; obtain ⟨hS0, hS1, hS2, hS3⟩ := hSw; go_simp; try with_reducible rfl)
                simp only [Act.put, lay9]
                refine tk 3 (v := ?_) rfl ?_ hHeld ?_
                rotate_left
                · (intro w' hSw; obtain ⟨hS0, hS1, hS2, hS3⟩ := hSw; go_simp; try with_reducible rfl)
                simp only [Act.put, lay9]
                refine tk 4 (v := ?_) rfl ?_ hHeld ?_
                rotate_left
                · (intro w' hSw; obtain ⟨hS0, hS1, hS2, hS3⟩ := hSw; go_simp; try with_reducible rfl)
                simp only [Act.put, lay9]
                refine tk 5 (v := ?_) rfl ?_ hHeld ?_
                rotate_left
                · (intro w' hSw; obtain ⟨hS0, hS1, hS2, hS3⟩ := hSw; go_simp; try with_reducible rfl)
                simp only [Act.put, lay9]
                refine tk 6 (v := ?_) rfl ?_ hHeld ?_
                rotate_left
                · (intro w' hSw; obtain ⟨hS0, hS1, hS2, hS3⟩ := hSw; go_simp; try with_reducible rfl)
                simp only [Act.put, lay9]
                refine tk 7 (v := ?_) rfl ?_ hHeld ?_
                rotate_left
                · (intro w' hSw; obtain ⟨hS0, hS1, hS2, hS3⟩ := hSw; go_simp; try with_reducible rfl)
                simp only [Act.put, lay9]
                refine wpAnyH_ready (rs := [8]) (by kernel_rfl) (by simp) (AllReadyH.cons rfl (fun K hK => ?_) AllReadyH.nil)
                go_simp
                with_reducible refine HC.out.mono ?_
                rintro _ X8 ⟨rfl, hv1, hg1⟩
                have hk1 : RM X8 D M 14 15 xa xb ua ub := hRM.kept hg1 (by omega) (by omega)
                refine hK.out _ _ hk1 (fun hHeld => ?_)
                clear hK K
                (try simp only [Act.put, lay9])
                refine wpAnyH_done (by kernel_rfl) ?_ _
                have HTr8 : Hid (TR w X8 M B D mW Y8 R) := HTd7.out.step hMle hBM hBD hg1 hv1
                clear hk1 hRM la lb la0 la1 lb0 lb1 HC hv1 hg1 HTd7 HTr7 hHeld
                clear hl7 hA7
                have HV8 := Lib.hid (show Y8 = (Pl.rowsB.take (k + 1)).foldl (Pl.roundL mW) V3 by rw [rows_step k hlt, List.foldl_append, ← HV.out, HRK.out]; simp only [List.foldl_cons, List.foldl_nil, Pl.roundL]; rw [H1.out, H2.out, H3.out, H4.out, H5.out, H6.out, H7.out, H8.out])
                clear H1 H2 H3 H4 H5 H6 H7 H8 HV HRK HRv HR16
                go_wp2_with fail
                go_roundw
                case rel => exact ⟨k + 1, Y8, by omega, by go_num, HV8.out, hl8, hA8, HTr8.out.t⟩
                case measure => simp [intOf]; omega
              · obtain rfl : k = 10 := by omega
                have HF := Lib.hid (hfin V HV.out)
                obtain ⟨hVl, hVA, hT⟩ := HT.out
                have HS1 := Lib.hid (HH.out.below hT.bel)
                have HBe := Lib.hid hT.bel
                have HVB := Lib.hid hT.v
                clear HV HT hT hfin hlt hk hix HH
                go_wp2_with fail
                rw [show ((10 : Nat) : Int) = 10 from rfl]
                go_loopw [175] (fun i wr => ∃ (j : Nat), j ≤ 8 ∧ i = .int .i64 j ∧ Hid (StBox wr S (partH h V j) b f t) ∧ Hid (wr.heap[B]? = some (.cells (u32s V).toArray 190 (0, 0))) ∧ Hid (w.grownBy wr (some S))) (fun i _ => 8 - (intOf i).toNat)
                case atStart => exact ⟨0, Nat.zero_le _, rfl, by rw [partH_0 h V hh8]; exact HS1.out, HVB.out, grown_of_below HBe.out⟩
                case round =>
                  obtain ⟨j, hj, rfl, HS, HB, HG⟩ := hrel
                  by_cases hlt : j < 8
                  · obtain ⟨h0, hh0⟩ : ∃ z, h.getD j 0 = z := ⟨_, rfl⟩
                    obtain ⟨v0, hv0⟩ : ∃ z, V.getD j 0 = z := ⟨_, rfl⟩
                    obtain ⟨v8, hv8⟩ : ∃ z, V.getD (j + 8) 0 = z := ⟨_, rfl⟩
                    have l0 : h0 < 4294967296 := by rw [← hh0]; exact hA _
                    have l1 : v0 < 4294967296 := by rw [← hv0]; exact hVA _
                    have l2 : v8 < 4294967296 := by rw [← hv8]; exact hVA _
                    have ex1 : bits .xor .u32 (v0 : Int) (v8 : Int) = ((v0 ^^^ v8 : Nat) : Int) := Go.u32_xor_nat _ _ l1 l2
                    have ex2 : bits .xor .u32 (h0 : Int) ((v0 ^^^ v8 : Nat) : Int) = ((h0 ^^^ (v0 ^^^ v8) : Nat) : Int) := Go.u32_xor_nat _ _ l0 (Pl.xor_lt l1 l2)
                    have hVC : VC wr B j v0 v8 := ⟨by rw [u32s_cell HB.out j (by omega), hv0], by rw [u32s_cell HB.out (j + 8) (by omega), hv8]⟩
                    have q1 : wr.cell? ⟨S, j, none⟩ = some (.int .u32 (h0 : Int)) := by rw [HS.out.ch j hlt, partH_at h V j hlt, hh0]
                    have q3 := HS.out.froz j
                    have hST := Lib.hid (HS.out.set_h j (h0 ^^^ (v0 ^^^ v8)) hlt)
                    have hSt2 := Lib.hid (show (partH h V j).set j (h0 ^^^ (v0 ^^^ v8)) = partH h V (j + 1) by rw [← hh0, ← hv0, ← hv8]; exact partH_step h V j hlt)
                    rw [hSt2.out] at hST
                    have j0 : (0 : Int) ≤ (j : Int) := by omega
                    have j1 : (j : Int) < 8 := by omega
                    have j2 : (j : Int) < 16 := by omega
                    have e1 : IntKind.i64.wrap ((j : Int) + 8) = (j : Int) + 8 := IntWalk.i64_in _ (by omega)
                    have n1 : (0 : Int) ≤ (j : Int) + 8 := by omega
                    have u1 : (j : Int) + 8 < 16 := by omega
                    have t1 : ((j : Int) + 8).toNat = j + 8 := by omega
                    clear hh0 hv0 hv8 hSt2
                    go_wp2_with fail
                    refine wp_region_held_drew (S := (fun w' => VC w' B j v0 v8)) (by kernel_rfl) (by exact ⟨hVC.a, hVC.b⟩) (fun hHeld => ?_)
                    refine tk 0 (v := ?_) rfl ?_ hHeld ?_
                    rotate_left
                    · (intro w' hSw; obtain ⟨hS0, hS1⟩ := hSw; go_simp; try with_reducible rfl)
                    simp only [Act.put, lay9]
                    refine tk 1 (v := ?_) rfl ?_ hHeld ?_
                    rotate_left
                    · (intro w' hSw; obtain ⟨hS0, hS1⟩ := hSw; go_simp; try with_reducible rfl)
                    simp only [Act.put, lay9]
                    refine tk 2 (v := ?_) rfl ?_ hHeld ?_
                    rotate_left
                    · (intro w' hSw; obtain ⟨hS0, hS1⟩ := hSw; go_simp; try with_reducible rfl)
                    simp only [Act.put, lay9]
                    refine tk 3 (v := ?_) rfl ?_ hHeld ?_
                    rotate_left
                    · (intro w' hSw; obtain ⟨hS0, hS1⟩ := hSw; go_simp; try with_reducible rfl)
                    simp only [Act.put, lay9]
                    refine tk 4 (v := ?_) rfl ?_ hHeld ?_
                    rotate_left
                    · (intro w' hSw; obtain ⟨hS0, hS1⟩ := hSw; go_simp; try with_reducible rfl)
                    simp only [Act.put, lay9]
                    refine tk 6 (v := ?_) rfl ?_ hHeld ?_
                    rotate_left
                    · (intro w' hSw; obtain ⟨hS0, hS1⟩ := hSw; go_simp; try with_reducible rfl)
                    simp only [Act.put, lay9]
                    refine tk 7 (v := ?_) rfl ?_ hHeld ?_
                    rotate_left
                    · (intro w' hSw; obtain ⟨hS0, hS1⟩ := hSw; go_simp; try with_reducible rfl)
                    simp only [Act.put, lay9]
                    refine tk 8 (v := ?_) rfl ?_ hHeld ?_
                    rotate_left
                    · (intro w' hSw; obtain ⟨hS0, hS1⟩ := hSw; go_simp; try with_reducible rfl)
                    simp only [Act.put, lay9]
                    refine tk 9 (v := ?_) rfl ?_ hHeld ?_
                    rotate_left
                    · (intro w' hSw; obtain ⟨hS0, hS1⟩ := hSw; go_simp; try with_reducible rfl)
                    simp only [Act.put, lay9]
                    refine tk 10 (v := ?_) rfl ?_ hHeld ?_
                    rotate_left
                    · (intro w' hSw; obtain ⟨hS0, hS1⟩ := hSw; go_simp; try with_reducible rfl)
                    simp only [Act.put, lay9]
                    refine tk 11 (v := ?_) rfl ?_ hHeld ?_
                    rotate_left
                    · (intro w' hSw; obtain ⟨hS0, hS1⟩ := hSw; go_simp; try with_reducible rfl)
                    simp only [Act.put, lay9]
                    refine tk 12 (v := ?_) rfl ?_ hHeld ?_
                    rotate_left
                    · (intro w' hSw; obtain ⟨hS0, hS1⟩ := hSw; go_simp; try with_reducible rfl)
                    simp only [Act.put, lay9]
                    refine tk 13 (v := ?_) rfl ?_ hHeld ?_
                    rotate_left
                    · (intro w' hSw; obtain ⟨hS0, hS1⟩ := hSw; go_simp; try with_reducible rfl)
                    simp only [Act.put, lay9]
                    refine tk 15 (v := ?_) rfl ?_ hHeld ?_
                    rotate_left
                    · (intro w' hSw; obtain ⟨hS0, hS1⟩ := hSw; go_simp; try with_reducible rfl)
                    simp only [Act.put, lay9]
                    refine tk 16 (v := ?_) rfl ?_ hHeld ?_
                    rotate_left
                    · (intro w' hSw; obtain ⟨hS0, hS1⟩ := hSw; go_simp; try with_reducible rfl)
                    simp only [Act.put, lay9]
                    refine wpAnyH_ready (rs := [5]) (by kernel_rfl) (by simp) (AllReadyH.cons rfl (fun K hK => ?_) AllReadyH.nil)
                    go_simp
                    refine hK.out _ _ hHeld (fun hHeld => ?_)
                    clear hK K
                    (try simp only [Act.put, lay9])
                    refine tk 14 (v := ?_) rfl ?_ hHeld ?_
                    rotate_left
                    · (intro w' hSw; (try dsimp only at hSw); go_simp; try with_reducible rfl)
                    simp only [Act.put, lay9]
                    refine tk 17 (v := ?_) rfl ?_ hHeld ?_
                    rotate_left
                    · (intro w' hSw; (try dsimp only at hSw); go_simp; try with_reducible rfl)
                    simp only [Act.put, lay9]
                    refine wpAnyH_ready (rs := [18]) (by kernel_rfl) (by simp) (AllReadyH.cons rfl (fun K hK => ?_) AllReadyH.nil)
                    go_simp
                    have hk : VC (wr.setCell ⟨S, j, none⟩ (.int .u32 ((h0 ^^^ (v0 ^^^ v8) : Nat) : Int))).drew B j v0 v8 := hVC.kept (grown_drew (grown_set _ _ _ _)) (by simp; omega)
                    refine hK.out _ _ hk (fun hHeld => ?_)
                    clear hK K
                    (try simp only [Act.put, lay9])
                    refine wpAnyH_done (by kernel_rfl) ?_ _
                    go_wp2_with fail
                    go_roundw
                    case rel =>
                      refine ⟨j + 1, by omega, by go_num, ?_, ?_, ?_⟩
                      · exact ⟨hST.out.at_, hST.out.hl, hST.out.bl⟩
                      · exact ((grown_set wr S j _).block B (blk_lt HB.out) (by simp; omega)).trans HB.out
                      · exact HG.out.trans (grown_drew (grown_set _ _ _ _))
                    case measure => simp [intOf]; omega
                  · obtain rfl : j = 8 := by omega
                    go_wp2_with fail
                    refine bodyPost_end (results_none rfl _ _ _) rfl ?_
                    refine ⟨rfl, ?_, HG.out⟩
                    rw [← HF.out]; exact HS.out
end Go.Proofs.YtdnebgilkfafhaaGreatDoor
-- PARTS
