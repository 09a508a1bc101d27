/- The walk of the document's take (layer 2): a block taken in. -/
import Derived.Test.YtdnebgilkfafhaaGreatDoorRs02
import Derived.Deep.Cut
import Derived.Deep.CutRange
import Derived.Test.YtdnebgilkfafhaaGreatDoorShelf
namespace Go.Proofs.YtdnebgilkfafhaaGreatDoor
open Go.RowKit
set_option linter.unusedVariables false
set_option linter.unusedSimpArgs false
attribute [local go_sem] ba_get ba_cut ba_add
/-- The first numbers of a row of sixteen, then zeros. -/
def partP (L : List Nat) (j : Nat) : List Nat := L.take j ++ List.replicate (16 - j) 0
theorem partP_len {L : List Nat} (hL : L.length = 16) {j : Nat} (hj : j ≤ 16) : (partP L j).length = 16 := by unfold partP; rw [List.length_append, List.length_take, List.length_replicate]; omega
theorem partP_16 {L : List Nat} (hL : L.length = 16) : partP L 16 = L := by unfold partP; rw [List.take_of_length_le (by omega)]; simp
theorem partP_step {L : List Nat} (hL : L.length = 16) {j : Nat} (hj : j < 16) : (partP L j).set j (L.getD j 0) = partP L (j + 1) := by
  unfold partP
  rw [List.set_append_right _ _ (by rw [List.length_take]; omega), List.length_take, Nat.min_eq_left (by omega), Nat.sub_self, show 16 - j = (16 - (j + 1)) + 1 by omega, List.replicate_succ, List.set_cons_zero, List.take_succ_eq_append_getElem (by omega), List.append_assoc, List.getD_eq_getElem?_getD, List.getElem?_eq_getElem (by omega)]
  rfl
set_option maxRecDepth 100000 in
theorem reight_any (w : World) : Calls Tryz.prog 44 #[] w (RetB (fun v _ => v = .agg (u32s Pl.eight).toArray) w) := by
  go_enter Tryz.func44, Tryz.ntmps44
  go_wp2_with fail
  have hb : (w.alloc (.cells (u32s Pl.eight).toArray 90)).rangeAt w.heap.size 0 (u32s Pl.eight) := rangeL (heap_alloc_new _ _)
  exact bodyPost_ret (v := .agg (u32s Pl.eight).toArray) (results_rowS (B := w.heap.size) rfl rfl hb Tryz.underlying90 rfl (by rw [u32s_len]; exact info_8)) rfl ⟨_, rfl, rfl, (Below.refl _ _).alloc (Nat.le_refl _) _⟩
abbrev z8 : Array Value := #[.int .u32 0, .int .u32 0, .int .u32 0, .int .u32 0, .int .u32 0, .int .u32 0, .int .u32 0, .int .u32 0]
abbrev z16 : Array Value := #[.int .u32 0, .int .u32 0, .int .u32 0, .int .u32 0, .int .u32 0, .int .u32 0, .int .u32 0, .int .u32 0, .int .u32 0, .int .u32 0, .int .u32 0, .int .u32 0, .int .u32 0, .int .u32 0, .int .u32 0, .int .u32 0]
/-- The five boxes of take: the eight numbers, the answer's, the sixteen, the block's, the first eight. -/
structure T5 (W : World) (N T : Nat) (h v m : List Nat) : Prop where
  h : W.heap[N]? = some (.cells (u32s h).toArray 90 (0, 0))
  r : ∃ Z : Array Value, Z.size = 8 ∧ W.heap[N + 1]? = some (.cells Z 90 (0, 0))
  v : W.heap[N + 2]? = some (.cells (u32s v).toArray 190 (0, 0))
  m : W.heap[N + 3]? = some (.cells (u32s m).toArray 190 (0, 0))
  f : W.heap[T]? = some (.cells (u32s Pl.eight).toArray 90 (0, 0))
theorem T5.below {W W' : World} {N T : Nat} {h v m : List Nat} (x : T5 W N T h v m) (hb : Below W.heap.size W W') : T5 W' N T h v m :=
  ⟨heap_keep x.h hb, let ⟨Z, h1, h2⟩ := x.r; ⟨Z, h1, heap_keep h2 hb⟩, heap_keep x.v hb, heap_keep x.m hb, heap_keep x.f hb⟩
theorem T5.setM {W : World} {N T : Nat} {h v m : List Nat} (x : T5 W N T h v m) (hT : N + 4 ≤ T) (i y : Nat) : T5 (W.setCell ⟨N + 3, i, none⟩ (.int .u32 (y : Int))) N T h v (m.set i y) :=
  ⟨(Below.heap_setCell _ _ _ _ (by show N ≠ N + 3; omega)).trans x.h, let ⟨Z, h1, h2⟩ := x.r; ⟨Z, h1, (Below.heap_setCell _ _ _ _ (by show N + 1 ≠ N + 3; omega)).trans h2⟩, (Below.heap_setCell _ _ _ _ (by show N + 2 ≠ N + 3; omega)).trans x.v, u32s_store x.m i y, (Below.heap_setCell _ _ _ _ (by show T ≠ N + 3; omega)).trans x.f⟩
theorem T5.setV {W : World} {N T : Nat} {h v m : List Nat} (x : T5 W N T h v m) (hT : N + 4 ≤ T) (i y : Nat) : T5 (W.setCell ⟨N + 2, i, none⟩ (.int .u32 (y : Int))) N T h (v.set i y) m :=
  ⟨(Below.heap_setCell _ _ _ _ (by show N ≠ N + 2; omega)).trans x.h, let ⟨Z, h1, h2⟩ := x.r; ⟨Z, h1, (Below.heap_setCell _ _ _ _ (by show N + 1 ≠ N + 2; omega)).trans h2⟩, u32s_store x.v i y, (Below.heap_setCell _ _ _ _ (by show N + 3 ≠ N + 2; omega)).trans x.m, (Below.heap_setCell _ _ _ _ (by show T ≠ N + 2; omega)).trans x.f⟩
theorem T5.setH {W : World} {N T : Nat} {h v m : List Nat} (x : T5 W N T h v m) (hT : N + 4 ≤ T) (i y : Nat) : T5 (W.setCell ⟨N, i, none⟩ (.int .u32 (y : Int))) N T (h.set i y) v m :=
  ⟨u32s_store x.h i y, let ⟨Z, h1, h2⟩ := x.r; ⟨Z, h1, (Below.heap_setCell _ _ _ _ (by show N + 1 ≠ N; omega)).trans h2⟩, (Below.heap_setCell _ _ _ _ (by show N + 2 ≠ N; omega)).trans x.v, (Below.heap_setCell _ _ _ _ (by show N + 3 ≠ N; omega)).trans x.m, (Below.heap_setCell _ _ _ _ (by show T ≠ N; omega)).trans x.f⟩
theorem T5.setsV {W : World} {N T : Nat} {h v m : List Nat} (x : T5 W N T h v m) (hT : N + 4 ≤ T) {v' : List Nat} (hl : v'.length = v.length) : T5 (W.setCells (N + 2) 0 (u32s v')) N T h v' m :=
  have ho : ∀ g, g ≠ N + 2 → g < W.heap.size → (W.setCells (N + 2) 0 (u32s v')).heap[g]? = W.heap[g]? := fun g hg hs => World.heap_setCells_other _ _ _ _ hs hg
  ⟨(ho _ (by omega) (blk_lt x.h)).trans x.h, let ⟨Z, h1, h2⟩ := x.r; ⟨Z, h1, (ho _ (by omega) (blk_lt h2)).trans h2⟩, heap_setCells_all (C := u32s v) x.v (by rw [u32s_len, u32s_len, hl]), (ho _ (by omega) (blk_lt x.m)).trans x.m, (ho _ (by omega) (blk_lt x.f)).trans x.f⟩
def rowsT : List (List UInt8) := [[48, 49, 50, 51, 52, 53, 54, 55, 56, 57, 97, 98, 99, 100, 101, 102], [101, 97, 52, 56, 57, 102, 100, 54, 49, 99, 48, 50, 98, 55, 53, 51], [98, 56, 99, 48, 53, 50, 102, 100, 97, 101, 51, 54, 55, 49, 57, 52], [55, 57, 51, 49, 100, 99, 98, 101, 50, 54, 53, 97, 52, 48, 102, 56], [57, 48, 53, 55, 50, 52, 97, 102, 101, 49, 98, 99, 54, 56, 51, 100], [50, 99, 54, 97, 48, 98, 56, 51, 52, 100, 55, 53, 102, 101, 49, 57], [99, 53, 49, 102, 101, 100, 52, 97, 48, 55, 54, 51, 57, 50, 56, 98], [100, 98, 55, 101, 99, 49, 51, 57, 53, 48, 102, 52, 56, 54, 50, 97], [54, 102, 101, 57, 98, 51, 48, 56, 99, 50, 100, 55, 49, 52, 97, 53], [97, 50, 56, 52, 55, 54, 49, 53, 102, 98, 57, 101, 51, 99, 100, 48]]
theorem row_place : ∀ r : Fin 10, ∀ k : Fin 16, 48 ≤ ((rowsT.getD r.val []).getD k.val 0).toNat ∧ placeN ((rowsT.getD r.val []).getD k.val 0) = (Pl.rowsB.getD r.val []).getD k.val 0 := by decide
theorem row_len : ∀ r : Fin 10, (rowsT.getD r.val []).length = 16 := by decide
set_option maxRecDepth 100000 in
theorem rrows_any (w : World) : Calls Tryz.prog 117 #[] w (RetB (fun v w' => ∃ B, v = .slice (some ⟨B, 0, none⟩) 10 10 ∧ w'.heap[B]? = some (.cells (strs rowsT).toArray 9 (0, 0))) w) := by
  go_enter Tryz.func117, Tryz.ntmps117
  go_wp2_with fail
  go_ret
  exact ⟨_, rfl, ⟨w.heap.size, rfl, heap_alloc_new w _⟩, (Below.refl _ _).alloc (Nat.le_refl _) _⟩
/-- Which four are mixed, the k-th time of a round. -/
def qB (k : Nat) : Nat := if k < 4 then k + 4 else 4 + (k - 4 + 1) % 4
def qC (k : Nat) : Nat := if k < 4 then k + 8 else 8 + (k - 4 + 2) % 4
def qD (k : Nat) : Nat := if k < 4 then k + 12 else 12 + (k - 4 + 3) % 4
def qA (k : Nat) : Nat := if k < 4 then k else k - 4
def stepR (m row : List Nat) (v : List Nat) (k : Nat) : List Nat := Pl.mixL v (qA k) (qB k) (qC k) (qD k) (m.getD (row.getD (2 * k) 0) 0) (m.getD (row.getD (2 * k + 1) 0) 0)
def roundI (m row V : List Nat) (i : Nat) : List Nat := (List.range i).foldl (stepR m row) V
theorem roundI_zero (m row V : List Nat) : roundI m row V 0 = V := rfl
theorem roundI_succ (m row V : List Nat) (i : Nat) : roundI m row V (i + 1) = stepR m row (roundI m row V i) i := by unfold roundI; rw [List.range_succ, List.foldl_append]; rfl
theorem roundI_8 (m row V : List Nat) : roundI m row V 8 = Pl.roundL m V row := by
  have e0 : ∀ v, stepR m row v 0 = Pl.mixL v 0 4 8 12 (m.getD (row.getD 0 0) 0) (m.getD (row.getD 1 0) 0) := fun _ => rfl
  have e1 : ∀ v, stepR m row v 1 = Pl.mixL v 1 5 9 13 (m.getD (row.getD 2 0) 0) (m.getD (row.getD 3 0) 0) := fun _ => rfl
  have e2 : ∀ v, stepR m row v 2 = Pl.mixL v 2 6 10 14 (m.getD (row.getD 4 0) 0) (m.getD (row.getD 5 0) 0) := fun _ => rfl
  have e3 : ∀ v, stepR m row v 3 = Pl.mixL v 3 7 11 15 (m.getD (row.getD 6 0) 0) (m.getD (row.getD 7 0) 0) := fun _ => rfl
  have e4 : ∀ v, stepR m row v 4 = Pl.mixL v 0 5 10 15 (m.getD (row.getD 8 0) 0) (m.getD (row.getD 9 0) 0) := fun _ => rfl
  have e5 : ∀ v, stepR m row v 5 = Pl.mixL v 1 6 11 12 (m.getD (row.getD 10 0) 0) (m.getD (row.getD 11 0) 0) := fun _ => rfl
  have e6 : ∀ v, stepR m row v 6 = Pl.mixL v 2 7 8 13 (m.getD (row.getD 12 0) 0) (m.getD (row.getD 13 0) 0) := fun _ => rfl
  have e7 : ∀ v, stepR m row v 7 = Pl.mixL v 3 4 9 14 (m.getD (row.getD 14 0) 0) (m.getD (row.getD 15 0) 0) := fun _ => rfl
  unfold roundI Pl.roundL
  rw [show List.range 8 = [0, 1, 2, 3, 4, 5, 6, 7] from rfl]
  simp only [List.foldl_cons, List.foldl_nil, e0, e1, e2, e3, e4, e5, e6, e7]
theorem roundI_ok (m row : List Nat) {V : List Nat} (hl : V.length = 16) (hA : Pl.All32 V) : ∀ i, (roundI m row V i).length = 16 ∧ Pl.All32 (roundI m row V i)
  | 0 => ⟨hl, hA⟩
  | i + 1 => by
    obtain ⟨h1, h2⟩ := roundI_ok m row hl hA i
    rw [roundI_succ]
    exact ⟨by unfold stepR; rw [Pl.mixL_len]; exact h1, Pl.mixL_all h2 _ _ _ _ _ _⟩
def foldR (m VS : List Nat) (r : Nat) : List Nat := (Pl.rowsB.take r).foldl (Pl.roundL m) VS
theorem foldR_succ (m VS : List Nat) {r : Nat} (hr : r < 10) : foldR m VS (r + 1) = Pl.roundL m (foldR m VS r) (Pl.rowsB.getD r []) := by
  unfold foldR
  rw [List.take_succ_eq_append_getElem (show r < Pl.rowsB.length from hr), List.foldl_append, List.getD_eq_getElem?_getD, List.getElem?_eq_getElem (show r < Pl.rowsB.length from hr)]
  simp only [List.foldl_cons, List.foldl_nil, Option.getD_some]
theorem foldR_10 (m VS : List Nat) : foldR m VS 10 = Pl.rowsB.foldl (Pl.roundL m) VS := by
  unfold foldR
  rw [List.take_of_length_le (by decide)]
theorem foldR_ok (m : List Nat) {VS : List Nat} (hl : VS.length = 16) (hA : Pl.All32 VS) : ∀ r, r ≤ 10 → (foldR m VS r).length = 16 ∧ Pl.All32 (foldR m VS r)
  | 0, _ => ⟨hl, hA⟩
  | r + 1, hr => by
    obtain ⟨h1, h2⟩ := foldR_ok m hl hA r (by omega)
    rw [foldR_succ m VS (by omega)]
    exact ⟨by rw [Pl.roundL_len]; exact h1, Pl.roundL_all h2 _⟩
/-- The eight numbers, the first i of them done. -/
def outH (h v : List Nat) (i : Nat) : List Nat := (List.range 8).map fun k => if k < i then h.getD k 0 ^^^ (v.getD k 0 ^^^ v.getD (k + 8) 0) else h.getD k 0
theorem outH_len (h v : List Nat) (i : Nat) : (outH h v i).length = 8 := by simp [outH]
theorem outH_get (h v : List Nat) {i k : Nat} (hk : k < 8) : (outH h v i).getD k 0 = if k < i then h.getD k 0 ^^^ (v.getD k 0 ^^^ v.getD (k + 8) 0) else h.getD k 0 := by
  unfold outH
  rw [List.getD_eq_getElem?_getD, List.getElem?_map, List.getElem?_range hk]; rfl
theorem outH_zero {h : List Nat} (hh : h.length = 8) (v : List Nat) : outH h v 0 = h := by
  refine List.ext_getElem (by rw [outH_len, hh]) fun i h1 h2 => ?_
  have e := outH_get h v (i := 0) (k := i) (by rw [outH_len] at h1; exact h1)
  rw [if_neg (by omega), List.getD_eq_getElem?_getD, List.getElem?_eq_getElem h1, List.getD_eq_getElem?_getD, List.getElem?_eq_getElem h2] at e
  exact e
theorem outH_step (h v : List Nat) {i : Nat} (hi : i < 8) : (outH h v i).set i (h.getD i 0 ^^^ (v.getD i 0 ^^^ v.getD (i + 8) 0)) = outH h v (i + 1) := by
  refine List.ext_getElem (by rw [List.length_set, outH_len, outH_len]) fun k h1 h2 => ?_
  have hk : k < 8 := by rw [outH_len] at h2; exact h2
  have e1 := outH_get h v (i := i + 1) hk
  have e2 := outH_get h v (i := i) hk
  rw [List.getD_eq_getElem?_getD, List.getElem?_eq_getElem h2] at e1
  rw [List.getElem_set]
  split
  · next e => subst e; rw [if_pos (by omega)] at e1; exact e1.symm
  · next e =>
    rw [List.getD_eq_getElem?_getD, List.getElem?_eq_getElem (by rw [outH_len]; exact hk)] at e2
    by_cases hki : k < i
    · rw [if_pos hki] at e2; rw [if_pos (by omega)] at e1; exact e2.trans e1.symm
    · rw [if_neg hki] at e2; rw [if_neg (by omega)] at e1; exact e2.trans e1.symm
theorem outH_8 (h v : List Nat) : outH h v 8 = (List.range 8).map fun i => h.getD i 0 ^^^ (v.getD i 0 ^^^ v.getD (i + 8) 0) :=
  List.map_congr_left fun k hk => by rw [if_pos (List.mem_range.1 hk)]
theorem all32_eight {h : List Nat} (hA : Pl.All32 h) (hh : h.length = 8) : Pl.All32 (h ++ Pl.eight) := fun i => by
  rw [List.getD_eq_getElem?_getD]
  by_cases hi : i < 8
  · rw [List.getElem?_append_left (by omega), ← List.getD_eq_getElem?_getD]; exact hA i
  · rw [List.getElem?_append_right (by omega), ← List.getD_eq_getElem?_getD]
    have he : ∀ k, Pl.eight.getD k 0 < 4294967296 := fun k => by
      have h8 : ∀ x ∈ Pl.eight, x < 4294967296 := by decide
      rw [List.getD_eq_getElem?_getD]
      rcases Nat.lt_or_ge k Pl.eight.length with hk | hk
      · rw [List.getElem?_eq_getElem hk]; exact h8 _ (List.getElem_mem hk)
      · rw [List.getElem?_eq_none hk]; decide
    exact he _
theorem startV_eq {h : List Nat} (hh : h.length = 8) {n : Nat} (hn : n < 18446744073709551616) (last : Bool) : Pl.startV h n last = if last then (((h ++ Pl.eight).set 12 ((h ++ Pl.eight).getD 12 0 ^^^ n % 4294967296)).set 13 ((h ++ Pl.eight).getD 13 0 ^^^ n / 4294967296)).set 14 (4294967295 - (h ++ Pl.eight).getD 14 0) else ((h ++ Pl.eight).set 12 ((h ++ Pl.eight).getD 12 0 ^^^ n % 4294967296)).set 13 ((h ++ Pl.eight).getD 13 0 ^^^ n / 4294967296) := by
  unfold Pl.startV
  have e : n / 4294967296 % 4294967296 = n / 4294967296 := Nat.mod_eq_of_lt (by omega)
  simp only [e]
  rw [getD_set_ne' _ (by decide), getD_set_ne' _ (by decide), getD_set_ne' _ (by decide)]
set_option maxRecDepth 100000 in
set_option maxHeartbeats 8000000 in
theorem rtake_any (h : List Nat) (hh : h.length = 8) (hA : Pl.All32 h) (b : List UInt8) (hb : b.length = 64) (n : Nat) (hn : n < 18446744073709551616) (last : Bool) (w : World) :
    Calls Tryz.prog 83 #[.agg (u32s h).toArray, .string ⟨b.toArray⟩, .int .u64 (n : Int), .bool last] w (RetB (fun v _ => v = .agg (u32s (Pl.takeB h b n last)).toArray) w) := by
  obtain ⟨N, hN⟩ : ∃ N, w.heap.size = N := ⟨_, rfl⟩
  obtain ⟨R, hR⟩ : ∃ R, Pl.takeB h b n last = R := ⟨_, rfl⟩
  have HR := Lib.hid hR
  rw [hR]
  clear hR
  go_enter Tryz.func83, Tryz.ntmps83
  go_upto_region 2 with (fail)
  generalize hW : World.alloc _ _ = W0
  have hVa : allocs w [.cells (u32s h).toArray 90, .cells z8 90, .cells z16 190, .cells z16 190] = W0 := hW
  have hbV : Below N w W0 := by rw [← hVa]; exact allocs_below w _ N (by omega)
  have hsV : W0.heap.size = N + 4 := by rw [← hVa, allocs_size, hN]; simp only [List.length_cons, List.length_nil]
  have h0 : W0.heap[N]? = some (.cells (u32s h).toArray 90 (0, 0)) := allocs_at hVa hN 0 rfl
  have h1 : W0.heap[N + 1]? = some (.cells z8 90 (0, 0)) := allocs_at hVa hN 1 rfl
  have h2 : W0.heap[N + 2]? = some (.cells (u32s (partP (h ++ Pl.eight) 0)).toArray 190 (0, 0)) := allocs_at hVa hN 2 rfl
  have h3 : W0.heap[N + 3]? = some (.cells (u32s (partP (Pl.words16 b) 0)).toArray 190 (0, 0)) := allocs_at hVa hN 3 rfl
  try simp only [Nat.add_assoc, Nat.reduceAdd]
  clear hW hVa
  go_upto_region 3 with (with_reducible refine (reight_any W0).mono ?_)
  rintro _ w1 ⟨v, rfl, rfl, hb1⟩
  obtain ⟨L8, hL8⟩ : ∃ L, u32s Pl.eight = L := ⟨_, rfl⟩
  have hl8 : L8.length = 8 := by rw [← hL8]; rfl
  have ho8 : ∀ v ∈ L8, v.oneCell' = true := by rw [← hL8]; exact u32s_one _
  rw [hL8]
  have hbt : (w1.alloc (.cells z8 90)).there w1.heap.size 0 L8.toArray.size := thereL (heap_alloc_new w1 _) (by rw [List.size_toArray, hl8]; exact Nat.le_refl 8)
  have hbi : (Tryz.prog.info? 90).map (·.size) = some L8.toArray.size := by rw [List.size_toArray, hl8]; exact info_8
  go_upto_region 4 with first
    | with_reducible refine wpList_store_mid rfl 90 _ _ rfl w1.heap.size 0 L8.toArray rfl rfl hbt hbi (all_oneCell_toArray ho8) ?_
  obtain ⟨W2, hW2⟩ : ∃ W', (w1.alloc (.cells z8 90)).setCells w1.heap.size 0 L8 = W' := ⟨_, rfl⟩
  have hat : W2.heap[w1.heap.size]? = some (.cells (u32s Pl.eight).toArray 90 (0, 0)) := by
    rw [← hW2, hL8]
    exact heap_setCells_all (C := z8.toList) (heap_alloc_new w1 _) (by rw [hl8]; rfl)
  have hbl : Below w1.heap.size w1 W2 := by
    rw [← hW2]
    exact ((Below.refl _ _).alloc (Nat.le_refl _) _).trans (Lib.below_setCells_w (Nat.le_refl _) L8 0 _)
  obtain ⟨T, hT⟩ : ∃ T', w1.heap.size = T' := ⟨_, rfl⟩
  rw [hT] at hW2 hat
  simp only [hT]
  simp only [hW2]
  have hs1 := hb1.size
  have hNT : N + 4 ≤ T := by omega
  have hb12 := hb1.trans (hbl.mono (by omega))
  have hbw : Below N w W2 := hbV.trans (hb12.mono (by omega))
  have HT := Lib.hid (T5.mk (heap_keep h0 hb12) ⟨z8, rfl, heap_keep h1 hb12⟩ (heap_keep h2 hb12) (heap_keep h3 hb12) hat)
  have HB := Lib.hid hbw
  clear hbV hsV h0 h1 h2 h3 hb1 hL8 hl8 ho8 hbt hbi hW2 hat hbl hT hs1 hb12 hbw
  go_loopw [12] (fun iv wr => ∃ (j : Nat), j ≤ 16 ∧ iv = .int .i64 (j : Int) ∧ Hid (T5 wr N T h (partP (h ++ Pl.eight) j) (partP (Pl.words16 b) j)) ∧ Hid (Below N w wr)) (fun iv _ => 16 - (intOf iv).toNat)
  case atStart => exact ⟨0, by omega, rfl, HT, HB⟩
  case round =>
    obtain ⟨j, hj, rfl, HS, HW⟩ := hrel
    clear HT HB
    by_cases hj6 : j < 16
    · have g1 : ((j : Int) < 16) = True := eq_true (by omega)
      have g0 : (0 : Int) ≤ (j : Int) := by omega
      obtain ⟨m0, hm0⟩ : ∃ m, 4 * j = m := ⟨_, rfl⟩
      obtain ⟨m1, hm1⟩ : ∃ m, 4 * j + 1 = m := ⟨_, rfl⟩
      obtain ⟨m2, hm2⟩ : ∃ m, 4 * j + 2 = m := ⟨_, rfl⟩
      obtain ⟨m3, hm3⟩ : ∃ m, 4 * j + 3 = m := ⟨_, rfl⟩
      have w0 : IntKind.i64.wrap (4 * (j : Int)) = (m0 : Int) := by rw [IntKind.wrap_i64]; omega
      have w1 : IntKind.i64.wrap ((m0 : Int) + 1) = (m1 : Int) := by rw [IntKind.wrap_i64]; omega
      have w2 : IntKind.i64.wrap ((m0 : Int) + 2) = (m2 : Int) := by rw [IntKind.wrap_i64]; omega
      have w3 : IntKind.i64.wrap ((m0 : Int) + 3) = (m3 : Int) := by rw [IntKind.wrap_i64]; omega
      have i0 : ((m0 : Int) < 64) = True := eq_true (by omega)
      have i1 : ((m1 : Int) < 64) = True := eq_true (by omega)
      have i2 : ((m2 : Int) < 64) = True := eq_true (by omega)
      have i3 : ((m3 : Int) < 64) = True := eq_true (by omega)
      have HM := Lib.hid (And.intro hm0 (And.intro hm1 (And.intro hm2 hm3)))
      clear hm0 hm1 hm2 hm3
      have q3 := frozen_of wr (N + 3) j _ _ HS.out.m
      have qm := u32s_cell HS.out.m j (by rw [partP_len (words16_len b) hj]; exact hj6)
      go_wp2_with fail
      refine wp_regionL 31 (fun w' => w'.cell? ⟨N + 3, j, none⟩ = some (.int .u32 (((partP (Pl.words16 b) j).getD j 0 : Nat) : Int))) (by kernel_rfl) (by exact qm) (fun hHeld => ?_)
      refine tkL 0 (v := ?_) rfl ?_ hHeld ?_
      rotate_left
      · (intro w' hSw; (try dsimp only at hSw); go_simp; try with_reducible rfl)
      simp only [Act.put, lay9]
      refine tkL 1 (v := ?_) rfl ?_ hHeld ?_
      rotate_left
      · (intro w' hSw; (try dsimp only at hSw); go_simp; try with_reducible rfl)
      simp only [Act.put, lay9]
      refine tkL 2 (v := ?_) rfl ?_ hHeld ?_
      rotate_left
      · (intro w' hSw; (try dsimp only at hSw); go_simp; try with_reducible rfl)
      simp only [Act.put, lay9]
      refine tkL 3 (v := ?_) rfl ?_ hHeld ?_
      rotate_left
      · (intro w' hSw; (try dsimp only at hSw); go_simp; try with_reducible rfl)
      simp only [Act.put, lay9]
      refine tkL 4 (v := ?_) rfl ?_ hHeld ?_
      rotate_left
      · (intro w' hSw; (try dsimp only at hSw); go_simp; try with_reducible rfl)
      simp only [Act.put, lay9]
      refine tkL 5 (v := ?_) rfl ?_ hHeld ?_
      rotate_left
      · (intro w' hSw; (try dsimp only at hSw); go_simp; try with_reducible rfl)
      simp only [Act.put, lay9]
      refine tkL 6 (v := ?_) rfl ?_ hHeld ?_
      rotate_left
      · (intro w' hSw; (try dsimp only at hSw); go_simp; try with_reducible rfl)
      simp only [Act.put, lay9]
      refine tkL 7 (v := ?_) rfl ?_ hHeld ?_
      rotate_left
      · (intro w' hSw; (try dsimp only at hSw); go_simp; try with_reducible rfl)
      simp only [Act.put, lay9]
      refine tkL 8 (v := ?_) rfl ?_ hHeld ?_
      rotate_left
      · (intro w' hSw; (try dsimp only at hSw); go_simp; try with_reducible rfl)
      simp only [Act.put, lay9]
      refine tkL 9 (v := ?_) rfl ?_ hHeld ?_
      rotate_left
      · (intro w' hSw; (try dsimp only at hSw); go_simp; try with_reducible rfl)
      simp only [Act.put, lay9]
      refine tkL 10 (v := ?_) rfl ?_ hHeld ?_
      rotate_left
      · (intro w' hSw; (try dsimp only at hSw); go_simp; try with_reducible rfl)
      simp only [Act.put, lay9]
      refine tkL 11 (v := ?_) rfl ?_ hHeld ?_
      rotate_left
      · (intro w' hSw; (try dsimp only at hSw); go_simp; try with_reducible rfl)
      simp only [Act.put, lay9]
      refine tkL 12 (v := ?_) rfl ?_ hHeld ?_
      rotate_left
      · (intro w' hSw; (try dsimp only at hSw); go_simp; try with_reducible rfl)
      simp only [Act.put, lay9]
      refine tkL 13 (v := ?_) rfl ?_ hHeld ?_
      rotate_left
      · (intro w' hSw; (try dsimp only at hSw); go_simp; try with_reducible rfl)
      simp only [Act.put, lay9]
      refine tkL 14 (v := ?_) rfl ?_ hHeld ?_
      rotate_left
      · (intro w' hSw; (try dsimp only at hSw); go_simp; try with_reducible rfl)
      simp only [Act.put, lay9]
      refine tkL 15 (v := ?_) rfl ?_ hHeld ?_
      rotate_left
      · (intro w' hSw; (try dsimp only at hSw); go_simp; try with_reducible rfl)
      simp only [Act.put, lay9]
      refine tkL 16 (v := ?_) rfl ?_ hHeld ?_
      rotate_left
      · (intro w' hSw; (try dsimp only at hSw); go_simp; try with_reducible rfl)
      simp only [Act.put, lay9]
      refine tkL 17 (v := ?_) rfl ?_ hHeld ?_
      rotate_left
      · (intro w' hSw; (try dsimp only at hSw); go_simp; try with_reducible rfl)
      simp only [Act.put, lay9]
      refine tkL 18 (v := ?_) rfl ?_ hHeld ?_
      rotate_left
      · (intro w' hSw; (try dsimp only at hSw); go_simp; try with_reducible rfl)
      simp only [Act.put, lay9]
      refine tkL 19 (v := ?_) rfl ?_ hHeld ?_
      rotate_left
      · (intro w' hSw; (try dsimp only at hSw); go_simp; try with_reducible rfl)
      simp only [Act.put, lay9]
      refine tkL 20 (v := ?_) rfl ?_ hHeld ?_
      rotate_left
      · (intro w' hSw; (try dsimp only at hSw); go_simp; try with_reducible rfl)
      simp only [Act.put, lay9]
      refine tkL 21 (v := ?_) rfl ?_ hHeld ?_
      rotate_left
      · (intro w' hSw; (try dsimp only at hSw); go_simp; try with_reducible rfl)
      simp only [Act.put, lay9]
      refine tkL 22 (v := ?_) rfl ?_ hHeld ?_
      rotate_left
      · (intro w' hSw; (try dsimp only at hSw); go_simp; try with_reducible rfl)
      simp only [Act.put, lay9]
      refine tkL 23 (v := ?_) rfl ?_ hHeld ?_
      rotate_left
      · (intro w' hSw; (try dsimp only at hSw); go_simp; try with_reducible rfl)
      simp only [Act.put, lay9]
      refine tkL 24 (v := ?_) rfl ?_ hHeld ?_
      rotate_left
      · (intro w' hSw; (try dsimp only at hSw); go_simp; try with_reducible rfl)
      simp only [Act.put, lay9]
      refine tkL 25 (v := ?_) rfl ?_ hHeld ?_
      rotate_left
      · (intro w' hSw; (try dsimp only at hSw); go_simp; try with_reducible rfl)
      simp only [Act.put, lay9]
      refine tkL 26 (v := ?_) rfl ?_ hHeld ?_
      rotate_left
      · (intro w' hSw; (try dsimp only at hSw); go_simp; try with_reducible rfl)
      simp only [Act.put, lay9]
      refine tkL 27 (v := ?_) rfl ?_ hHeld ?_
      rotate_left
      · (intro w' hSw; (try dsimp only at hSw); go_simp; try with_reducible rfl)
      simp only [Act.put, lay9]
      refine tkL 28 (v := ?_) rfl ?_ hHeld ?_
      rotate_left
      · (intro w' hSw; (try dsimp only at hSw); go_simp; try with_reducible rfl)
      simp only [Act.put, lay9]
      refine tkL 29 (v := ?_) rfl ?_ hHeld ?_
      rotate_left
      · (intro w' hSw; (try dsimp only at hSw); go_simp; try with_reducible rfl)
      simp only [Act.put, lay9]
      refine tkL 30 (v := ?_) rfl ?_ hHeld ?_
      rotate_left
      · (intro w' hSw; (try dsimp only at hSw); go_simp; try with_reducible rfl)
      simp only [Act.put, lay9]
      refine readyL (rs := [31]) (by kernel_rfl) (by simp) (ReadyL.last rfl (fun K hK => ?_))
      go_simp
      refine hK.out _ _ ?_
      clear hK K
      (try simp only [Act.put, lay9])
      refine doneL (by kernel_rfl) ?_ _
      have n0 : m0 < b.length := by have := HM.out.1; omega
      have n1 : m1 < b.length := by have := HM.out.2.1; omega
      have n2 : m2 < b.length := by have := HM.out.2.2.1; omega
      have n3 : m3 < b.length := by have := HM.out.2.2.2; omega
      have hval : IntKind.u32.wrap (IntKind.u32.wrap (IntKind.u32.wrap (IntKind.u32.wrap ((b[m0]'n0).toNat : Int) + IntKind.u32.wrap (IntKind.u32.wrap ((b[m1]'n1).toNat : Int) * 256)) + IntKind.u32.wrap (IntKind.u32.wrap ((b[m2]'n2).toNat : Int) * 65536)) + IntKind.u32.wrap (IntKind.u32.wrap ((b[m3]'n3).toNat : Int) * 16777216)) = ((Pl.le4 b (4 * j) : Nat) : Int) := by
        unfold Pl.le4
        rw [HM.out.2.1, HM.out.2.2.1, HM.out.2.2.2, HM.out.1]
        simp only [List.getD_eq_getElem?_getD, List.getElem?_eq_getElem n0, List.getElem?_eq_getElem n1, List.getElem?_eq_getElem n2, List.getElem?_eq_getElem n3, Option.getD_some]
        have h0 := (b[m0]'n0).toNat_lt
        have h1 := (b[m1]'n1).toNat_lt
        have h2 := (b[m2]'n2).toNat_lt
        have h3 := (b[m3]'n3).toNat_lt
        generalize (b[m0]'n0).toNat = e0 at *
        generalize (b[m1]'n1).toNat = e1 at *
        generalize (b[m2]'n2).toNat = e2 at *
        generalize (b[m3]'n3).toNat = e3 at *
        simp only [IntKind.wrap_u32]
        omega
      simp only [hval]
      generalize hW : World.drew (World.setCell _ _ _) = W1
      have hwd : (Pl.words16 b).getD j 0 = Pl.le4 b (4 * j) := by simp [Pl.words16, List.getD_eq_getElem?_getD, hj6]
      have hS1 : T5 W1 N T h (partP (h ++ Pl.eight) j) (partP (Pl.words16 b) (j + 1)) := by
        rw [← hW, ← partP_step (words16_len b) hj6, hwd]
        exact (HS.out.setM hNT j _).below (Below.refl _ _).drew
      have hb1 : Below N w W1 := by rw [← hW]; exact (HW.out.setCell (p := ⟨N + 3, j, none⟩) (by show N ≤ N + 3; omega) _).drew
      have hl16 : (h ++ Pl.eight).length = 16 := by rw [List.length_append, hh]; rfl
      have HS1 := Lib.hid (And.intro hS1 hb1)
      have cV := u32s_cell hS1.v j (by rw [partP_len hl16 hj]; exact hj6)
      have fV := frozen_of W1 (N + 2) j _ _ hS1.v
      clear hW hval hHeld qm q3 hwd hS1 hb1 HS HW
      by_cases hj8 : j < 8
      · have g2 : decide ((j : Int) < 8) = true := by simp; omega
        have g3 : ((j : Int) < 8) = True := eq_true (by omega)
        have cH := u32s_cell HS1.out.1.h j (by omega)
        have hgd : (h ++ Pl.eight).getD j 0 = h.getD j 0 := by rw [List.getD_eq_getElem?_getD, List.getD_eq_getElem?_getD, List.getElem?_append_left (by omega)]
        obtain ⟨x, hx⟩ : ∃ x, h.getD j 0 = x := ⟨_, rfl⟩
        rw [hx] at cH hgd
        clear hx
        go_wp2_with fail
        have hS2 : T5 (W1.setCell ⟨N + 2, j, none⟩ (.int .u32 (x : Int))) N T h (partP (h ++ Pl.eight) (j + 1)) (partP (Pl.words16 b) (j + 1)) := by
          rw [← partP_step hl16 hj6, hgd]
          exact HS1.out.1.setV hNT j _
        exact ⟨⟨j + 1, by omega, ret_i (by omega), Lib.hid hS2, Lib.hid (HS1.out.2.setCell (p := ⟨N + 2, j, none⟩) (by show N ≤ N + 2; omega) _)⟩, by simp only [intOf]; omega⟩
      · obtain ⟨k, hk⟩ : ∃ k, j - 8 = k := ⟨_, rfl⟩
        have g2 : decide ((j : Int) < 8) = false := by simp; omega
        have g3 : ((j : Int) < 8) = False := eq_false (by omega)
        have e8 : ((j : Int) - 8) = (k : Int) := by omega
        have g4 : ((k : Int) < 8) = True := eq_true (by omega)
        have g5 : (0 : Int) ≤ (k : Int) := by omega
        have cF := u32s_cell HS1.out.1.f k (by show k < 8; omega)
        have hgd : (h ++ Pl.eight).getD j 0 = Pl.eight.getD k 0 := by rw [List.getD_eq_getElem?_getD, List.getD_eq_getElem?_getD, List.getElem?_append_right (by omega), hh, hk]
        have hjj : j < 16 := hj6
        clear hk
        obtain ⟨x, hx⟩ : ∃ x, Pl.eight.getD k 0 = x := ⟨_, rfl⟩
        rw [hx] at cF hgd
        clear hx
        go_wp2_with fail
        have hS2 : T5 (W1.setCell ⟨N + 2, j, none⟩ (.int .u32 (x : Int))) N T h (partP (h ++ Pl.eight) (j + 1)) (partP (Pl.words16 b) (j + 1)) := by
          rw [← partP_step hl16 hj6, hgd]
          exact HS1.out.1.setV hNT j _
        exact ⟨⟨j + 1, by omega, ret_i (by omega), Lib.hid hS2, Lib.hid (HS1.out.2.setCell (p := ⟨N + 2, j, none⟩) (by show N ≤ N + 2; omega) _)⟩, by simp only [intOf]; omega⟩
    · have hj16 : j = 16 := by omega
      have gj : ((j : Int) < 16) = False := eq_false (by omega)
      have gj' : decide ((j : Int) < 16) = false := decide_eq_false (by omega)
      rw [hj16] at HS
      clear hj hj6 hj16
      have hl16 : (h ++ Pl.eight).length = 16 := by rw [List.length_append, hh]; rfl
      have hS := HS.out
      rw [partP_16 hl16, partP_16 (words16_len b)] at hS
      have HS0 := Lib.hid (And.intro hS HW.out)
      clear hS HS HW
      obtain ⟨V, hV⟩ : ∃ V, h ++ Pl.eight = V := ⟨_, rfl⟩
      rw [hV] at HS0 hl16
      have hAV : Pl.All32 V := by rw [← hV]; exact all32_eight hA hh
      have HV := Lib.hid (show Pl.startV h n last = if last then ((V.set 12 (V.getD 12 0 ^^^ n % 4294967296)).set 13 (V.getD 13 0 ^^^ n / 4294967296)).set 14 (4294967295 - V.getD 14 0) else (V.set 12 (V.getD 12 0 ^^^ n % 4294967296)).set 13 (V.getD 13 0 ^^^ n / 4294967296) by rw [← hV]; exact startV_eq hh hn last)
      clear hV
      have cs := fun k (hk : k < 16) => u32s_cell HS0.out.1.v k (by rw [hl16]; exact hk)
      have c12 := cs 12 (by omega)
      have c13 := cs 13 (by omega)
      have c14 := cs 14 (by omega)
      have f12 := frozen_of wr (N + 2) 12 _ _ HS0.out.1.v
      have f13 := frozen_of wr (N + 2) 13 _ _ HS0.out.1.v
      have f14 := frozen_of wr (N + 2) 14 _ _ HS0.out.1.v
      have l12 := hAV 12
      have l13 := hAV 13
      have l14 := hAV 14
      obtain ⟨a12, e12⟩ : ∃ a, V.getD 12 0 = a := ⟨_, rfl⟩
      obtain ⟨a13, e13⟩ : ∃ a, V.getD 13 0 = a := ⟨_, rfl⟩
      obtain ⟨a14, e14⟩ : ∃ a, V.getD 14 0 = a := ⟨_, rfl⟩
      rw [e12] at c12 l12 HV
      rw [e13] at c13 l13 HV
      rw [e14] at c14 l14 HV
      obtain ⟨r0, hr0⟩ : ∃ r, n % 4294967296 = r := ⟨_, rfl⟩
      obtain ⟨q0, hq0⟩ : ∃ r, n / 4294967296 = r := ⟨_, rfl⟩
      rw [hr0, hq0] at HV
      have lr : r0 < 4294967296 := by omega
      have lq : q0 < 4294967296 := by omega
      have hrem : Int.tmod (n : Int) 4294967296 = (r0 : Int) := by rw [Int.tmod_eq_emod_of_nonneg (by omega)]; omega
      have hquo : Int.tdiv (n : Int) 4294967296 = (q0 : Int) := by rw [Int.tdiv_eq_ediv_of_nonneg (by omega)]; omega
      have wr0 : IntKind.u32.wrap (r0 : Int) = (r0 : Int) := by rw [IntKind.wrap_u32]; omega
      have wq0 : IntKind.u32.wrap (q0 : Int) = (q0 : Int) := by rw [IntKind.wrap_u32]; omega
      have wq64 : IntKind.u64.wrap (q0 : Int) = (q0 : Int) := by rw [IntKind.wrap_u64]; omega
      have wr64 : IntKind.u64.wrap (r0 : Int) = (r0 : Int) := by rw [IntKind.wrap_u64]; omega
      have wqm : (q0 : Int) % 4294967296 = (q0 : Int) := by omega
      have x12 : bits .xor .u32 (a12 : Int) (r0 : Int) = ((a12 ^^^ r0 : Nat) : Int) := Go.u32_xor_nat _ _ l12 lr
      have x13 : bits .xor .u32 (a13 : Int) (q0 : Int) = ((a13 ^^^ q0 : Nat) : Int) := Go.u32_xor_nat _ _ l13 lq
      have s14 : IntKind.u32.wrap (4294967295 - (a14 : Int)) = ((4294967295 - a14 : Nat) : Int) := by rw [IntKind.wrap_u32]; omega
      obtain ⟨y12, hy12⟩ : ∃ y, a12 ^^^ r0 = y := ⟨_, rfl⟩
      obtain ⟨y13, hy13⟩ : ∃ y, a13 ^^^ q0 = y := ⟨_, rfl⟩
      obtain ⟨y14, hy14⟩ : ∃ y, 4294967295 - a14 = y := ⟨_, rfl⟩
      rw [hy12] at x12 HV
      rw [hy13] at x13 HV
      rw [hy14] at s14 HV
      have ly12 : y12 < 4294967296 := by rw [← hy12]; exact Pl.xor_lt l12 lr
      have ly13 : y13 < 4294967296 := by rw [← hy13]; exact Pl.xor_lt l13 lq
      have ly14 : y14 < 4294967296 := by omega
      have HAV := Lib.hid (And.intro hAV (And.intro ly12 (And.intro ly13 ly14)))
      clear cs hr0 hq0 e12 e13 e14 hy12 hy13 hy14 l12 l13 l14 lr lq hAV ly12 ly13 ly14
      have key : ∃ VS, Pl.startV h n last = VS ∧ VS.length = 16 ∧ Pl.All32 VS := by
        refine ⟨_, rfl, ?_, ?_⟩
        · rw [HV.out]; split <;> simp [hl16]
        · rw [HV.out]; split
          · exact ((HAV.out.1.set 12 HAV.out.2.1).set 13 HAV.out.2.2.1).set 14 HAV.out.2.2.2
          · exact (HAV.out.1.set 12 HAV.out.2.1).set 13 HAV.out.2.2.1
      obtain ⟨VS, hVS, hlS, hAS⟩ := key
      have hbN : N ≤ N + 2 := by omega
      go_upto_if 83 with (fail)
      go_cut [] from 83 to 88 (fun wx => Hid (T5 wx N T h VS (Pl.words16 b) ∧ Below N w wx))
      case first =>
        have hV2 := ((HS0.out.1.setV hNT 12 y12).setV hNT 13 y13)
        have hB2 := (HS0.out.2.setCell (p := ⟨N + 2, 12, none⟩) hbN (.int .u32 (y12 : Int))).setCell (p := ⟨N + 2, 13, none⟩) hbN (.int .u32 (y13 : Int))
        cases last
        · have hvv : VS = (V.set 12 y12).set 13 y13 := by rw [← hVS, HV.out]; rfl
          rw [← hvv] at hV2
          have HC := Lib.hid (And.intro hV2 hB2)
          clear hV2 hB2 hvv hVS
          go_wp2_with fail
          go_meet
          case rel => exact HC
        · have hvv : VS = ((V.set 12 y12).set 13 y13).set 14 y14 := by rw [← hVS, HV.out]; rfl
          have hV3 := hV2.setV hNT 14 y14
          rw [← hvv] at hV3
          have HC := Lib.hid (And.intro hV3 (hB2.setCell (p := ⟨N + 2, 14, none⟩) hbN (.int .u32 (y14 : Int))))
          clear hV2 hB2 hV3 hvv hVS
          go_wp2_with fail
          go_meet
          case rel => exact HC
      case rest =>
        clear HS0 HV c12 c13 c14 f12 f13 f14 hrem hquo wr0 wq0 wq64 wr64 wqm x12 x13 s14 HAV hl16
        have HC := hcut
        clear hcut
        obtain ⟨W5, rfl⟩ : ∃ W, W = wc := ⟨_, rfl⟩
        obtain ⟨m, hm⟩ : ∃ m, Pl.words16 b = m := ⟨_, rfl⟩
        have hlm : m.length = 16 := by rw [← hm]; exact words16_len b
        have hRR : (List.range 8).map (fun i => h.getD i 0 ^^^ ((foldR m VS 10).getD i 0 ^^^ (foldR m VS 10).getD (i + 8) 0)) = R := by
          rw [← HR.out, foldR_10, ← hm, ← hVS]; rfl
        rw [← outH_8] at hRR
        rw [hm] at HC
        have hfo := foldR_ok m hlS hAS
        have HRR := Lib.hid hRR
        have HFO := Lib.hid hfo
        clear hRR hVS hm hfo hlS hAS
        go_upto_region 15 with (fail)
        go_loopw [13] (fun iv wr => ∃ (r : Nat), r ≤ 10 ∧ iv = .int .i64 (r : Int) ∧ Hid (T5 wr N T h (foldR m VS r) m ∧ Below N w wr)) (fun iv _ => 10 - (intOf iv).toNat)
        case atStart => exact ⟨0, by omega, rfl, HC⟩
        case round =>
          obtain ⟨r, hr, rfl, HS⟩ := hrel
          clear HC
          by_cases hr10 : r < 10
          · have g1 : ((r : Int) < 10) = True := eq_true (by omega)
            have g0 : (0 : Int) ≤ (r : Int) := by omega
            go_upto_region 17 with (fail)
            go_upto_region 18 with (with_reducible refine (rrows_any _).mono ?_)
            rintro _ w3 ⟨v, rfl, ⟨B, rfl, hB⟩, hb3⟩
            have hS3 := HS.out.1.below hb3
            have hbw3 : Below N w w3 := HS.out.2.trans (hb3.mono (by have := blk_lt HS.out.1.h; omega))
            have hcr := cell_row w3 B r _ _ hB
            obtain ⟨ts, hts⟩ : ∃ ts, rowsT.getD r [] = ts := ⟨_, rfl⟩
            have hcr2 : w3.cell? ⟨B, r, none⟩ = some (.string ⟨ts.toArray⟩) := by
              rw [hcr, List.getElem?_toArray, strs_get rowsT r (show r < rowsT.length from hr10), ← hts, List.getD_eq_getElem?_getD, List.getElem?_eq_getElem (show r < rowsT.length from hr10)]
              rfl
            have hrow := fun k (hk : k < 16) => row_place ⟨r, hr10⟩ ⟨k, hk⟩
            have htl := row_len ⟨r, hr10⟩
            simp only [hts] at hrow htl
            have hst := foldR_succ m VS hr10
            have hrs : ∀ k, (Pl.rowsB.getD r []).getD k 0 < 16 := (Pl.rowsB_fit _ (by rw [List.getD_eq_getElem?_getD, List.getElem?_eq_getElem (show r < Pl.rowsB.length from hr10)]; exact List.getElem_mem _)).2
            obtain ⟨row, hro⟩ : ∃ row, Pl.rowsB.getD r [] = row := ⟨_, rfl⟩
            obtain ⟨V, hVr⟩ : ∃ V, foldR m VS r = V := ⟨_, rfl⟩
            have hok := HFO.out r hr
            rw [hVr] at hok hS3 hst
            simp only [hro] at hrow
            rw [hro] at hst hrs
            have HS3 := Lib.hid (And.intro hS3 hbw3)
            have HRW := Lib.hid (And.intro hrow (And.intro htl (And.intro hst (And.intro hok hrs))))
            clear hcr hts hrow htl hst hok hrs hS3 hbw3 hb3 hB hro hVr HS
            go_upto_region 19 with (fail)
            go_loopw [15] (fun iv wr => ∃ (i : Nat), i ≤ 8 ∧ iv = .int .i64 (i : Int) ∧ Hid (T5 wr N T h (roundI m row V i) m ∧ Below N w wr)) (fun iv _ => 8 - (intOf iv).toNat)
            case atStart => exact ⟨0, by omega, rfl, HS3⟩
            case round =>
              obtain ⟨i, hi, rfl, HS⟩ := hrel
              clear HS3 hcr2
              by_cases hi8 : i < 8
              · have gi : ((i : Int) < 8) = True := eq_true (by omega)
                have gi' : decide ((i : Int) < 8) = true := decide_eq_true (by omega)
                obtain ⟨m0, hm0⟩ : ∃ x, 2 * i = x := ⟨_, rfl⟩
                obtain ⟨m1, hm1⟩ : ∃ x, 2 * i + 1 = x := ⟨_, rfl⟩
                have w0 : IntKind.i64.wrap (2 * (i : Int)) = (m0 : Int) := by rw [IntKind.wrap_i64]; omega
                have w1 : IntKind.i64.wrap ((m0 : Int) + 1) = (m1 : Int) := by rw [IntKind.wrap_i64]; omega
                have i0 : ((m0 : Int) < 16) = True := eq_true (by omega)
                have i1 : ((m1 : Int) < 16) = True := eq_true (by omega)
                have htl := HRW.out.2.1
                have n0 : m0 < ts.length := by omega
                have n1 : m1 < ts.length := by omega
                have hp0 := HRW.out.1 m0 (by omega)
                have hp1 := HRW.out.1 m1 (by omega)
                rw [List.getD_eq_getElem?_getD, List.getElem?_eq_getElem n0, Option.getD_some] at hp0
                rw [List.getD_eq_getElem?_getD, List.getElem?_eq_getElem n1, Option.getD_some] at hp1
                have hpl0 := fun W => place_any ts[m0] W hp0.1
                have hpl1 := fun W => place_any ts[m1] W hp1.1
                rw [hp0.2] at hpl0
                rw [hp1.2] at hpl1
                have hst := roundI_succ m row V i
                unfold stepR at hst
                rw [hm1, hm0] at hst
                obtain ⟨x0, hx0⟩ : ∃ x, row.getD m0 0 = x := ⟨_, rfl⟩
                obtain ⟨x1, hx1⟩ : ∃ x, row.getD m1 0 = x := ⟨_, rfl⟩
                rw [hx0, hx1] at hst
                rw [hx0] at hpl0 hp0
                rw [hx1] at hpl1 hp1
                have lx0 : x0 < 16 := by rw [← hx0]; exact HRW.out.2.2.2.2 _
                have lx1 : x1 < 16 := by rw [← hx1]; exact HRW.out.2.2.2.2 _
                have lX0 : ((x0 : Int) < 16) = True := eq_true (by omega)
                have lX1 : ((x1 : Int) < 16) = True := eq_true (by omega)
                have cm0 := u32s_cell HS.out.1.m x0 (by omega)
                have cm1 := u32s_cell HS.out.1.m x1 (by omega)
                obtain ⟨a, ha⟩ : ∃ z, m.getD x0 0 = z := ⟨_, rfl⟩
                obtain ⟨c, hc⟩ : ∃ z, m.getD x1 0 = z := ⟨_, rfl⟩
                rw [ha] at cm0 hst
                rw [hc] at cm1 hst
                have hU := roundI_ok m row HRW.out.2.2.2.1.1 HRW.out.2.2.2.1.2 i
                obtain ⟨U, hUe⟩ : ∃ z, roundI m row V i = z := ⟨_, rfl⟩
                rw [hUe] at HS hU hst
                clear ha hc hUe hx0 hx1 hp0 hp1 htl hm0 hm1
                go_upto_region 21 with (fail)
                refine wp_region_held_drew (S := (fun w' => w'.cell? ⟨N + 3, x0, none⟩ = some (.int .u32 (a : Int)) ∧ w'.cell? ⟨N + 3, x1, none⟩ = some (.int .u32 (c : Int)))) (by kernel_rfl) (by exact ⟨cm0, cm1⟩) (fun hHeld => ?_)
                refine tk 0 (v := ?_) rfl ?_ hHeld ?_
                rotate_left
                · (intro w' hSw; (try dsimp only at hSw); (try obtain ⟨hS0, hS1⟩ := hSw); go_simp; try with_reducible rfl)
                simp only [Act.put, lay9]
                refine tk 1 (v := ?_) rfl ?_ hHeld ?_
                rotate_left
                · (intro w' hSw; (try dsimp only at hSw); (try obtain ⟨hS0, hS1⟩ := hSw); go_simp; try with_reducible rfl)
                simp only [Act.put, lay9]
                refine tk 2 (v := ?_) rfl ?_ hHeld ?_
                rotate_left
                · (intro w' hSw; (try dsimp only at hSw); (try obtain ⟨hS0, hS1⟩ := hSw); go_simp; try with_reducible rfl)
                simp only [Act.put, lay9]
                refine tk 3 (v := ?_) rfl ?_ hHeld ?_
                rotate_left
                · (intro w' hSw; (try dsimp only at hSw); (try obtain ⟨hS0, hS1⟩ := hSw); go_simp; try with_reducible rfl)
                simp only [Act.put, lay9]
                refine still_take (i := 4) (v := (.int .i64 (x0 : Int))) rfl (by kernel_rfl) (fun _ _ _ h => h) _ _ _ _ (by kernel_rfl) (by kernel_rfl) ⟨by rfl, _, _, fun w' hSw => ⟨?_, (hpl0 w')⟩⟩ hHeld ?_
                · (try dsimp only at hSw); go_simp; try with_reducible rfl
                simp only [Act.put, lay9]
                refine tk 5 (v := ?_) rfl ?_ hHeld ?_
                rotate_left
                · (intro w' hSw; (try dsimp only at hSw); (try obtain ⟨hS0, hS1⟩ := hSw); go_simp; try with_reducible rfl)
                simp only [Act.put, lay9]
                refine tk 6 (v := ?_) rfl ?_ hHeld ?_
                rotate_left
                · (intro w' hSw; (try dsimp only at hSw); (try obtain ⟨hS0, hS1⟩ := hSw); go_simp; try with_reducible rfl)
                simp only [Act.put, lay9]
                refine tk 7 (v := ?_) rfl ?_ hHeld ?_
                rotate_left
                · (intro w' hSw; (try dsimp only at hSw); (try obtain ⟨hS0, hS1⟩ := hSw); go_simp; try with_reducible rfl)
                simp only [Act.put, lay9]
                refine tk 8 (v := ?_) rfl ?_ hHeld ?_
                rotate_left
                · (intro w' hSw; (try dsimp only at hSw); (try obtain ⟨hS0, hS1⟩ := hSw); go_simp; try with_reducible rfl)
                simp only [Act.put, lay9]
                refine tk 9 (v := ?_) rfl ?_ hHeld ?_
                rotate_left
                · (intro w' hSw; (try dsimp only at hSw); (try obtain ⟨hS0, hS1⟩ := hSw); go_simp; try with_reducible rfl)
                simp only [Act.put, lay9]
                refine tk 10 (v := ?_) rfl ?_ hHeld ?_
                rotate_left
                · (intro w' hSw; (try dsimp only at hSw); (try obtain ⟨hS0, hS1⟩ := hSw); go_simp; try with_reducible rfl)
                simp only [Act.put, lay9]
                refine tk 11 (v := ?_) rfl ?_ hHeld ?_
                rotate_left
                · (intro w' hSw; (try dsimp only at hSw); (try obtain ⟨hS0, hS1⟩ := hSw); go_simp; try with_reducible rfl)
                simp only [Act.put, lay9]
                refine still_take (i := 12) (v := (.int .i64 (x1 : Int))) rfl (by kernel_rfl) (fun _ _ _ h => h) _ _ _ _ (by kernel_rfl) (by kernel_rfl) ⟨by rfl, _, _, fun w' hSw => ⟨?_, (hpl1 w')⟩⟩ hHeld ?_
                · (try dsimp only at hSw); go_simp; try with_reducible rfl
                simp only [Act.put, lay9]
                refine tk 13 (v := ?_) rfl ?_ hHeld ?_
                rotate_left
                · (intro w' hSw; (try dsimp only at hSw); (try obtain ⟨hS0, hS1⟩ := hSw); go_simp; try with_reducible rfl)
                simp only [Act.put, lay9]
                refine tk 14 (v := ?_) rfl ?_ hHeld ?_
                rotate_left
                · (intro w' hSw; (try dsimp only at hSw); (try obtain ⟨hS0, hS1⟩ := hSw); go_simp; try with_reducible rfl)
                simp only [Act.put, lay9]
                refine tk 15 (v := ?_) rfl ?_ hHeld ?_
                rotate_left
                · (intro w' hSw; (try dsimp only at hSw); (try obtain ⟨hS0, hS1⟩ := hSw); go_simp; try with_reducible rfl)
                simp only [Act.put, lay9]
                refine tk 16 (v := ?_) rfl ?_ hHeld ?_
                rotate_left
                · (intro w' hSw; (try dsimp only at hSw); (try obtain ⟨hS0, hS1⟩ := hSw); go_simp; try with_reducible rfl)
                simp only [Act.put, lay9]
                refine wpAnyH_done (by kernel_rfl) ?_ _
                clear hHeld hpl0 hpl1 cm0 cm1
                replace HS := Lib.hid (And.intro (HS.out.1.below (Below.refl _ _).drew) HS.out.2.drew)
                obtain ⟨wd, hwd⟩ : ∃ z, wr.drew = z := ⟨_, rfl⟩
                rw [hwd] at HS
                try simp only [hwd]
                clear hwd wr
                obtain ⟨wr, rfl⟩ : ∃ z, z = wd := ⟨_, rfl⟩
                by_cases hi4 : i < 4
                · have g4 : ((i : Int) < 4) = True := eq_true (by omega)
                  have g4' : decide ((i : Int) < 4) = true := decide_eq_true (by omega)
                  rw [show qA i = i from if_pos hi4, show qB i = i + 4 from if_pos hi4, show qC i = i + 8 from if_pos hi4, show qD i = i + 12 from if_pos hi4] at hst
                  obtain ⟨b4, hb4⟩ : ∃ z, i + 4 = z := ⟨_, rfl⟩
                  obtain ⟨c4, hc4⟩ : ∃ z, i + 8 = z := ⟨_, rfl⟩
                  obtain ⟨d4, hd4⟩ : ∃ z, i + 12 = z := ⟨_, rfl⟩
                  have eb : (i : Int) + 4 = (b4 : Int) := by omega
                  have ec : (i : Int) + 8 = (c4 : Int) := by omega
                  have ed : (i : Int) + 12 = (d4 : Int) := by omega
                  rw [hb4, hc4, hd4] at hst
                  have hmx := fun W => rmix_any U hU.1 hU.2 i b4 c4 d4 a c (by omega) (by omega) (by omega) (by omega) W
                  rw [← hst] at hmx
                  obtain ⟨U2, hU2⟩ : ∃ z, roundI m row V (i + 1) = z := ⟨_, rfl⟩
                  rw [hU2] at hmx
                  have hl2 : U2.length = 16 := by rw [← hU2]; exact (roundI_ok m row HRW.out.2.2.2.1.1 HRW.out.2.2.2.1.2 (i + 1)).1
                  have HMX := Lib.hid hmx
                  have HU2 := Lib.hid (And.intro hU2 hl2)
                  have hrU : wr.rangeAt (N + 2) 0 (u32s U) := rangeL HS.out.1.v
                  have hiU : (Tryz.prog.info? 190).map (·.size) = some (u32s U).length := by rw [u32s_len, hU.1]; exact info_16
                  clear hst hmx hU2 hl2 hb4 hc4 hd4
                  go_upto_region 20 with first
                    | with_reducible refine wpList_load_mid rfl 190 _ rfl (N + 2) 0 rfl (u32s U) _ hrU Tryz.underlying190 rfl hiU ?_
                    | (with_reducible refine (HMX.out _).mono ?_)
                  rintro _ w5 ⟨v, rfl, rfl, hb5⟩
                  have hS5 := HS.out.1.below (hb5)
                  have hT5 : w5.there (N + 2) 0 (u32s U2).toArray.size := thereL hS5.v (by rw [List.size_toArray, List.size_toArray, u32s_len, u32s_len, HU2.out.2, hU.1]; exact Nat.le_refl 16)
                  have hi5 : (Tryz.prog.info? 190).map (·.size) = some (u32s U2).toArray.size := by rw [List.size_toArray, u32s_len, HU2.out.2]; exact info_16
                  have ho5 := u32s_one U2
                  have hS6 := hS5.setsV hNT (v' := U2) (by rw [HU2.out.2, hU.1])
                  rw [← HU2.out.1] at hS6
                  have hB6 : Below N w (w5.setCells (N + 2) 0 (u32s U2)) := (HS.out.2.trans (hb5.mono (by have := blk_lt HS.out.1.h; show N ≤ wr.heap.size; omega))).trans (Lib.below_setCells_w hbN (u32s U2) 0 w5)
                  rw [← HU2.out.1] at hB6
                  have HC := Lib.hid (And.intro hS6 hB6)
                  rw [HU2.out.1] at HC
                  clear hS5 hS6 hB6 hb5 hrU hiU
                  go_wp2_with first
                    | with_reducible refine wpList_store_mid rfl 190 _ _ rfl (N + 2) 0 (u32s U2).toArray rfl rfl hT5 hi5 (all_oneCell_toArray ho5) ?_
                  exact ⟨⟨i + 1, by omega, ret_i (by omega), by rw [HU2.out.1]; exact HC⟩, by simp only [intOf]; omega⟩
                · have g4 : ((i : Int) < 4) = False := eq_false (by omega)
                  have g4' : decide ((i : Int) < 4) = false := decide_eq_false (by omega)
                  rw [show qA i = i - 4 from if_neg hi4, show qB i = 4 + (i - 4 + 1) % 4 from if_neg hi4, show qC i = 8 + (i - 4 + 2) % 4 from if_neg hi4, show qD i = 12 + (i - 4 + 3) % 4 from if_neg hi4] at hst
                  obtain ⟨k, hk⟩ : ∃ z, i - 4 = z := ⟨_, rfl⟩
                  rw [hk] at hst
                  obtain ⟨u1, hu1⟩ : ∃ z, (k + 1) % 4 = z := ⟨_, rfl⟩
                  obtain ⟨u2, hu2⟩ : ∃ z, (k + 2) % 4 = z := ⟨_, rfl⟩
                  obtain ⟨u3, hu3⟩ : ∃ z, (k + 3) % 4 = z := ⟨_, rfl⟩
                  rw [hu1, hu2, hu3] at hst
                  obtain ⟨b4, hb4⟩ : ∃ z, 4 + u1 = z := ⟨_, rfl⟩
                  obtain ⟨c4, hc4⟩ : ∃ z, 8 + u2 = z := ⟨_, rfl⟩
                  obtain ⟨d4, hd4⟩ : ∃ z, 12 + u3 = z := ⟨_, rfl⟩
                  rw [hb4, hc4, hd4] at hst
                  have ek : (i : Int) - 4 = (k : Int) := by omega
                  have e1 : Int.tmod ((k : Int) + 1) 4 = (u1 : Int) := by rw [Int.tmod_eq_emod_of_nonneg (by omega)]; omega
                  have e2 : Int.tmod ((k : Int) + 2) 4 = (u2 : Int) := by rw [Int.tmod_eq_emod_of_nonneg (by omega)]; omega
                  have e3 : Int.tmod ((k : Int) + 3) 4 = (u3 : Int) := by rw [Int.tmod_eq_emod_of_nonneg (by omega)]; omega
                  have eb : 4 + (u1 : Int) = (b4 : Int) := by omega
                  have ec : 8 + (u2 : Int) = (c4 : Int) := by omega
                  have ed : 12 + (u3 : Int) = (d4 : Int) := by omega
                  have lk : k < 4 := by omega
                  have lu1 : u1 < 4 := by omega
                  have lu2 : u2 < 4 := by omega
                  have lu3 : u3 < 4 := by omega
                  have hmx := fun W => rmix_any U hU.1 hU.2 k b4 c4 d4 a c (by omega) (by omega) (by omega) (by omega) W
                  rw [← hst] at hmx
                  obtain ⟨U2, hU2⟩ : ∃ z, roundI m row V (i + 1) = z := ⟨_, rfl⟩
                  rw [hU2] at hmx
                  have hl2 : U2.length = 16 := by rw [← hU2]; exact (roundI_ok m row HRW.out.2.2.2.1.1 HRW.out.2.2.2.1.2 (i + 1)).1
                  have HMX := Lib.hid hmx
                  have HU2 := Lib.hid (And.intro hU2 hl2)
                  have hrU : wr.rangeAt (N + 2) 0 (u32s U) := rangeL HS.out.1.v
                  have hiU : (Tryz.prog.info? 190).map (·.size) = some (u32s U).length := by rw [u32s_len, hU.1]; exact info_16
                  clear hst hmx hU2 hl2 hb4 hc4 hd4 hk hu1 hu2 hu3
                  go_upto_region 20 with first
                    | with_reducible refine wpList_load_mid rfl 190 _ rfl (N + 2) 0 rfl (u32s U) _ hrU Tryz.underlying190 rfl hiU ?_
                    | (with_reducible refine (HMX.out _).mono ?_)
                  rintro _ w5 ⟨v, rfl, rfl, hb5⟩
                  have hS5 := HS.out.1.below (hb5)
                  have hT5 : w5.there (N + 2) 0 (u32s U2).toArray.size := thereL hS5.v (by rw [List.size_toArray, List.size_toArray, u32s_len, u32s_len, HU2.out.2, hU.1]; exact Nat.le_refl 16)
                  have hi5 : (Tryz.prog.info? 190).map (·.size) = some (u32s U2).toArray.size := by rw [List.size_toArray, u32s_len, HU2.out.2]; exact info_16
                  have ho5 := u32s_one U2
                  have hS6 := hS5.setsV hNT (v' := U2) (by rw [HU2.out.2, hU.1])
                  rw [← HU2.out.1] at hS6
                  have hB6 : Below N w (w5.setCells (N + 2) 0 (u32s U2)) := (HS.out.2.trans (hb5.mono (by have := blk_lt HS.out.1.h; show N ≤ wr.heap.size; omega))).trans (Lib.below_setCells_w hbN (u32s U2) 0 w5)
                  rw [← HU2.out.1] at hB6
                  have HC := Lib.hid (And.intro hS6 hB6)
                  rw [HU2.out.1] at HC
                  clear hS5 hS6 hB6 hb5 hrU hiU
                  go_wp2_with first
                    | with_reducible refine wpList_store_mid rfl 190 _ _ rfl (N + 2) 0 (u32s U2).toArray rfl rfl hT5 hi5 (all_oneCell_toArray ho5) ?_
                  exact ⟨⟨i + 1, by omega, ret_i (by omega), by rw [HU2.out.1]; exact HC⟩, by simp only [intOf]; omega⟩
              · obtain rfl : i = 8 := by omega
                clear hi hi8
                have hS := HS.out
                rw [roundI_8, ← HRW.out.2.2.1] at hS
                have HS9 := Lib.hid hS
                clear hS HS
                go_wp2_with fail
                exact ⟨⟨r + 1, by omega, ret_i (by omega), HS9⟩, by simp only [intOf]; omega⟩
          · have hr16 : r = 10 := by omega
            have gr : ((r : Int) < 10) = False := eq_false (by omega)
            have gr' : decide ((r : Int) < 10) = false := decide_eq_false (by omega)
            rw [hr16] at HS
            clear hr hr10 hr16
            have hoV := HFO.out 10 (Nat.le_refl _)
            obtain ⟨VF, hVF⟩ : ∃ z, foldR m VS 10 = z := ⟨_, rfl⟩
            rw [hVF] at HS hoV
            have HR2 := Lib.hid (show outH h VF 8 = R by rw [← hVF]; exact HRR.out)
            have HV := Lib.hid hoV
            clear hVF hoV
            have hS0 := HS.out
            rw [← outH_zero hh VF] at hS0
            have HS0 := Lib.hid (show T5 wr N T (outH h VF 0) VF m ∧ Below N w wr from by rw [outH_zero hh VF] at hS0 ⊢; exact HS.out)
            clear hS0 HS
            go_upto_region 27 with (fail)
            go_loopw [19] (fun iv wr => ∃ (i : Nat), i ≤ 8 ∧ iv = .int .i64 (i : Int) ∧ Hid (T5 wr N T (outH h VF i) VF m ∧ Below N w wr)) (fun iv _ => 8 - (intOf iv).toNat)
            case atStart => exact ⟨0, by omega, rfl, HS0⟩
            case round =>
              obtain ⟨i, hi, rfl, HS⟩ := hrel
              clear HS0
              by_cases hi8 : i < 8
              · have gi : ((i : Int) < 8) = True := eq_true (by omega)
                have gi' : decide ((i : Int) < 8) = true := decide_eq_true (by omega)
                have gi0 : (0 : Int) ≤ (i : Int) := by omega
                have gi16 : ((i : Int) < 16) = True := eq_true (by omega)
                obtain ⟨k8, hk8⟩ : ∃ z, i + 8 = z := ⟨_, rfl⟩
                have e8 : (i : Int) + 8 = (k8 : Int) := by omega
                have w8 : IntKind.i64.wrap (k8 : Int) = (k8 : Int) := by rw [IntKind.wrap_i64]; omega
                have g8 : ((k8 : Int) < 16) = True := eq_true (by omega)
                have g80 : (0 : Int) ≤ (k8 : Int) := by omega
                have cH := u32s_cell HS.out.1.h i (by rw [outH_len]; exact hi8)
                have cV := u32s_cell HS.out.1.v i (by rw [HV.out.1]; omega)
                have cW := u32s_cell HS.out.1.v k8 (by rw [HV.out.1]; omega)
                have fH := frozen_of wr N i _ _ HS.out.1.h
                rw [outH_get h VF hi8, if_neg (Nat.lt_irrefl i)] at cH
                have lp := hA i
                have lq := HV.out.2 i
                have lo := HV.out.2 k8
                have hst := outH_step h VF hi8
                rw [hk8] at hst
                obtain ⟨p, hp⟩ : ∃ z, h.getD i 0 = z := ⟨_, rfl⟩
                obtain ⟨q, hq⟩ : ∃ z, VF.getD i 0 = z := ⟨_, rfl⟩
                obtain ⟨o, ho⟩ : ∃ z, VF.getD k8 0 = z := ⟨_, rfl⟩
                rw [hp] at cH lp hst
                rw [hq] at cV lq hst
                rw [ho] at cW lo hst
                rw [← Nat.xor_assoc] at hst
                have ex1 : bits .xor .u32 (p : Int) (q : Int) = ((p ^^^ q : Nat) : Int) := Go.u32_xor_nat _ _ lp lq
                have ex2 : bits .xor .u32 ((p ^^^ q : Nat) : Int) (o : Int) = (((p ^^^ q) ^^^ o : Nat) : Int) := Go.u32_xor_nat _ _ (Pl.xor_lt lp lq) lo
                obtain ⟨y1, hy1⟩ : ∃ z, p ^^^ q = z := ⟨_, rfl⟩
                rw [hy1] at ex1 ex2 hst
                obtain ⟨y2, hy2⟩ : ∃ z, y1 ^^^ o = z := ⟨_, rfl⟩
                rw [hy2] at ex2 hst
                have HST := Lib.hid hst
                clear hp hq ho hy1 hy2 hk8 hst lp lq lo
                go_upto_region 29 with (fail)
                refine wp_regionL 14 (fun w' => w'.cell? ⟨N, i, none⟩ = some (.int .u32 (p : Int)) ∧ w'.cell? ⟨N + 2, i, none⟩ = some (.int .u32 (q : Int)) ∧ w'.cell? ⟨N + 2, k8, none⟩ = some (.int .u32 (o : Int))) (by kernel_rfl) (by exact ⟨cH, cV, cW⟩) (fun hHeld => ?_)
                refine tkL 0 (v := ?_) rfl ?_ hHeld ?_
                rotate_left
                · (intro w' hSw; (try dsimp only at hSw); obtain ⟨hS0, hS1, hS2⟩ := hSw; go_simp; try with_reducible rfl)
                simp only [Act.put, lay9]
                refine tkL 1 (v := ?_) rfl ?_ hHeld ?_
                rotate_left
                · (intro w' hSw; (try dsimp only at hSw); obtain ⟨hS0, hS1, hS2⟩ := hSw; go_simp; try with_reducible rfl)
                simp only [Act.put, lay9]
                refine tkL 2 (v := ?_) rfl ?_ hHeld ?_
                rotate_left
                · (intro w' hSw; (try dsimp only at hSw); obtain ⟨hS0, hS1, hS2⟩ := hSw; go_simp; try with_reducible rfl)
                simp only [Act.put, lay9]
                refine tkL 3 (v := ?_) rfl ?_ hHeld ?_
                rotate_left
                · (intro w' hSw; (try dsimp only at hSw); obtain ⟨hS0, hS1, hS2⟩ := hSw; go_simp; try with_reducible rfl)
                simp only [Act.put, lay9]
                refine tkL 4 (v := ?_) rfl ?_ hHeld ?_
                rotate_left
                · (intro w' hSw; (try dsimp only at hSw); obtain ⟨hS0, hS1, hS2⟩ := hSw; go_simp; try with_reducible rfl)
                simp only [Act.put, lay9]
                refine tkL 5 (v := ?_) rfl ?_ hHeld ?_
                rotate_left
                · (intro w' hSw; (try dsimp only at hSw); obtain ⟨hS0, hS1, hS2⟩ := hSw; go_simp; try with_reducible rfl)
                simp only [Act.put, lay9]
                refine tkL 6 (v := ?_) rfl ?_ hHeld ?_
                rotate_left
                · (intro w' hSw; (try dsimp only at hSw); obtain ⟨hS0, hS1, hS2⟩ := hSw; go_simp; try with_reducible rfl)
                simp only [Act.put, lay9]
                refine tkL 7 (v := ?_) rfl ?_ hHeld ?_
                rotate_left
                · (intro w' hSw; (try dsimp only at hSw); obtain ⟨hS0, hS1, hS2⟩ := hSw; go_simp; try with_reducible rfl)
                simp only [Act.put, lay9]
                refine tkL 8 (v := ?_) rfl ?_ hHeld ?_
                rotate_left
                · (intro w' hSw; (try dsimp only at hSw); obtain ⟨hS0, hS1, hS2⟩ := hSw; go_simp; try with_reducible rfl)
                simp only [Act.put, lay9]
                refine tkL 9 (v := ?_) rfl ?_ hHeld ?_
                rotate_left
                · (intro w' hSw; (try dsimp only at hSw); obtain ⟨hS0, hS1, hS2⟩ := hSw; go_simp; try with_reducible rfl)
                simp only [Act.put, lay9]
                refine tkL 10 (v := ?_) rfl ?_ hHeld ?_
                rotate_left
                · (intro w' hSw; (try dsimp only at hSw); obtain ⟨hS0, hS1, hS2⟩ := hSw; go_simp; try with_reducible rfl)
                simp only [Act.put, lay9]
                refine tkL 11 (v := ?_) rfl ?_ hHeld ?_
                rotate_left
                · (intro w' hSw; (try dsimp only at hSw); obtain ⟨hS0, hS1, hS2⟩ := hSw; go_simp; try with_reducible rfl)
                simp only [Act.put, lay9]
                refine tkL 12 (v := ?_) rfl ?_ hHeld ?_
                rotate_left
                · (intro w' hSw; (try dsimp only at hSw); obtain ⟨hS0, hS1, hS2⟩ := hSw; go_simp; try with_reducible rfl)
                simp only [Act.put, lay9]
                refine tkL 13 (v := ?_) rfl ?_ hHeld ?_
                rotate_left
                · (intro w' hSw; (try dsimp only at hSw); obtain ⟨hS0, hS1, hS2⟩ := hSw; go_simp; try with_reducible rfl)
                simp only [Act.put, lay9]
                refine readyL (rs := [14]) (by kernel_rfl) (by simp) (ReadyL.last rfl (fun K hK => ?_))
                go_simp
                refine hK.out _ _ ?_
                clear hK K
                (try simp only [Act.put, lay9])
                refine doneL (by kernel_rfl) ?_ _
                have hS2 := HS.out.1.setH hNT i y2
                rw [HST.out] at hS2
                have HC := Lib.hid (And.intro (hS2.below (Below.refl _ _).drew) (HS.out.2.setCell (p := ⟨N, i, none⟩) (Nat.le_refl N) (.int .u32 (y2 : Int))).drew)
                clear hS2 HST HS cH cV cW fH ex1 ex2
                go_wp2_with fail
                exact ⟨⟨i + 1, by omega, ret_i (by omega), HC⟩, by simp only [intOf]; omega⟩
              · have hi16 : i = 8 := by omega
                have gi : ((i : Int) < 8) = False := eq_false (by omega)
                have gi' : decide ((i : Int) < 8) = false := decide_eq_false (by omega)
                rw [hi16] at HS
                clear hi hi8 hi16
                rw [HR2.out] at HS
                have hlR : R.length = 8 := by rw [← HR2.out, outH_len]
                have hr8 : wr.rangeAt N 0 (u32s R) := rangeL HS.out.1.h
                have hi8 : (Tryz.prog.info? 90).map (·.size) = some (u32s R).length := by rw [u32s_len, hlR]; exact info_8
                have hi8' : (Tryz.prog.info? 90).map (·.size) = some (u32s R).toArray.size := by rw [List.size_toArray, u32s_len, hlR]; exact info_8
                obtain ⟨Z, hZ, hZ2⟩ := HS.out.1.r
                have hT8 : wr.there (N + 1) 0 (u32s R).toArray.size := thereL hZ2 (by rw [List.size_toArray, u32s_len, hlR, hZ]; exact Nat.le_refl 8)
                have ho8 := u32s_one R
                clear hZ2 hZ
                go_wp2_with first
                  | with_reducible refine wpList_load_mid rfl 90 _ rfl N 0 rfl (u32s R) _ hr8 Tryz.underlying90 rfl hi8 ?_
                  | with_reducible refine wpList_store_mid rfl 90 _ _ rfl (N + 1) 0 (u32s R).toArray rfl rfl hT8 hi8' (all_oneCell_toArray ho8) ?_
                refine bodyPost_ret (v := .agg (u32s R).toArray) (results_rowS (B := N + 1) rfl rfl (World.rangeAt_setCells_same _ _ _ _ (by simpa using hT8)) Tryz.underlying90 rfl hi8) rfl ?_
                exact ⟨_, rfl, rfl, by rw [hN]; exact HS.out.2.trans (Lib.below_setCells_w (by omega) (u32s R) 0 wr)⟩
end Go.Proofs.YtdnebgilkfafhaaGreatDoor
