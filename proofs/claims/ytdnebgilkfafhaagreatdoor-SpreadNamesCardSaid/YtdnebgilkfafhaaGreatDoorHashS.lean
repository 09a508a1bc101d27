/- The walks of math/bits.RotateLeft32 and of hash's mix: numbers of 32 bits, turned; four of sixteen numbers, mixed. No condition. A digest that is being made, as it lies in its box: eight numbers, 64 bytes that wait, how many count, how many went; the walk of hash's take: a block is taken in. -/
import Derived.Test.YtdnebgilkfafhaaGreatDoorBase
import Derived.Test.YtdnebgilkfafhaaGreatDoorNumPlain
import Derived.Test.YtdnebgilkfafhaaGreatDoorHeldL
import Derived.Deep.QuietTactic
import Derived.BigQuiet
import Derived.Deep.Cut
import Derived.Laws.BitsAllLaws
import Derived.Test.YtdnebgilkfafhaaGreatDoorCopyK
import Derived.Test.YtdnebgilkfafhaaGreatDoorVars
namespace Go.Proofs.YtdnebgilkfafhaaGreatDoor
open Go.RowKit
set_option linter.unusedVariables false
set_option linter.unusedSimpArgs false
set_option maxRecDepth 100000 in
theorem rot_of (x s : Nat) (k : Int) (w : World) (hx : x < 4294967296) (hs : bits .and .u64 (IntKind.u64.wrap k) 31 = (s : Int)) (h0 : 0 < s) (h1 : s < 32) :
    Calls Tryz.prog 170 #[.int .u32 (x : Int), .int .i64 k] w (Ret (.int .u32 (Pl.rotl x s : Int)) w) := by
  have hs0 : (0 : Int) ≤ (s : Int) := by omega
  have hs1 : (s : Int) < 32 := by omega
  go_enter Tryz.func170, Tryz.ntmps170
  go_wp2_with fail
  go_ret
  refine ⟨?_, rfl⟩
  have h2 : (2 : Nat) ^ (32 - s) > 0 := Nat.pow_pos (by decide)
  have e1 : (x : Int) * 2 ^ s % 4294967296 = ((x * 2 ^ s % 4294967296 : Nat) : Int) := by rw [Int.natCast_emod, Int.natCast_mul, Int.natCast_pow]; rfl
  have e2 : (x : Int) / 2 ^ (32 - s) = ((x / 2 ^ (32 - s) : Nat) : Int) := by rw [Int.natCast_ediv, Int.natCast_pow]; rfl
  rw [e1, e2, Go.u32_or_nat _ _ (Nat.mod_lt _ (by decide)) (Nat.lt_of_le_of_lt (Nat.div_le_self _ _) hx)]
  rfl
def u32s (V : List Nat) : List Value := V.map fun (x : Nat) => Value.int .u32 (x : Int)
theorem u32s_len (V : List Nat) : (u32s V).length = V.length := by simp [u32s]
theorem u32s_get (V : List Nat) (i : Nat) (h : i < V.length) : (u32s V)[i]? = some (.int .u32 ((V.getD i 0 : Nat) : Int)) := by
  simp [u32s, List.getD_eq_getElem?_getD, List.getElem?_eq_getElem h]
theorem u32s_set (V : List Nat) (i x : Nat) : (u32s V).set i (.int .u32 (x : Int)) = u32s (V.set i x) := by simp [u32s, List.map_set]
theorem u32s_cell {W : World} {B : Nat} {V : List Nat} {t : TypeId} (h : W.heap[B]? = some (.cells (u32s V).toArray t (0, 0))) (i : Nat) (hi : i < V.length) : W.cell? ⟨B, i, none⟩ = some (.int .u32 ((V.getD i 0 : Nat) : Int)) := by
  rw [cell_row W B i _ t h]
  simpa using u32s_get V i hi
theorem u32s_store {W : World} {B : Nat} {V : List Nat} {t : TypeId} (h : W.heap[B]? = some (.cells (u32s V).toArray t (0, 0))) (i x : Nat) : (W.setCell ⟨B, i, none⟩ (.int .u32 (x : Int))).heap[B]? = some (.cells (u32s (V.set i x)).toArray t (0, 0)) := by
  rw [set_at W B i _ _ t h, List.setIfInBounds_toArray, u32s_set]
theorem grown_set (W : World) (B i : Nat) (v : Value) : W.grownBy (W.setCell ⟨B, i, none⟩ v) (some B) := by
  refine ⟨rfl, rfl, rfl, ?_, fun k hk hne => ?_⟩
  · exact ((Below.refl 0 W).setCell (Nat.zero_le _) v).size
  · exact Below.heap_setCell _ _ _ k (fun e => hne (by rw [e]))
theorem grown_drew {w W : World} {r : Option Nat} (h : w.grownBy W r) : w.grownBy W.drew r := ⟨h.os, h.tape, h.output, h.size, h.block⟩
theorem add_one (a b : Nat) : IntKind.u32.wrap ((a : Int) + (b : Int)) = ((Pl.add32 a b : Nat) : Int) := by rw [IntKind.wrap_u32]; unfold Pl.add32; omega
theorem add_two (a b c : Nat) : IntKind.u32.wrap ((a : Int) + IntKind.u32.wrap ((b : Int) + (c : Int))) = ((Pl.add32 a (Pl.add32 b c) : Nat) : Int) := by rw [add_one b c, add_one]
theorem getD_set_ne' (V : List Nat) {i j : Nat} (h : i ≠ j) (x : Nat) : (V.set i x).getD j 0 = V.getD j 0 := by
  rw [List.getD_eq_getElem?_getD, List.getElem?_set_ne h, List.getD_eq_getElem?_getD]
theorem rot_16 (x : Nat) (w : World) (hx : x < 4294967296) : Calls Tryz.prog 170 #[.int .u32 (x : Int), .int .i64 (-16)] w (Ret (.int .u32 (Pl.rotl x 16 : Int)) w) := rot_of x 16 (-16) w hx (by decide) (by decide) (by decide)
theorem rot_20 (x : Nat) (w : World) (hx : x < 4294967296) : Calls Tryz.prog 170 #[.int .u32 (x : Int), .int .i64 (-12)] w (Ret (.int .u32 (Pl.rotl x 20 : Int)) w) := rot_of x 20 (-12) w hx (by decide) (by decide) (by decide)
theorem rot_24 (x : Nat) (w : World) (hx : x < 4294967296) : Calls Tryz.prog 170 #[.int .u32 (x : Int), .int .i64 (-8)] w (Ret (.int .u32 (Pl.rotl x 24 : Int)) w) := rot_of x 24 (-8) w hx (by decide) (by decide) (by decide)
theorem rot_25 (x : Nat) (w : World) (hx : x < 4294967296) : Calls Tryz.prog 170 #[.int .u32 (x : Int), .int .i64 (-7)] w (Ret (.int .u32 (Pl.rotl x 25 : Int)) w) := rot_of x 25 (-7) w hx (by decide) (by decide) (by decide)
set_option maxRecDepth 100000 in
set_option maxHeartbeats 4000000 in
theorem mix_any (V : List Nat) (hV : V.length = 16) (hA : Pl.All32 V) (a b c d x y : Nat) (ha : a < 16) (hb : b < 16) (hc : c < 16) (hd : d < 16) (hab : a ≠ b) (hda : d ≠ a) (hcd : c ≠ d) (hbc : b ≠ c) (B : Nat) (w : World) (hB : w.heap[B]? = some (.cells (u32s V).toArray 190 (0, 0))) :
    Calls Tryz.prog 146 #[.pointer (some ⟨B, 0, none⟩), .int .i64 (a : Int), .int .i64 (b : Int), .int .i64 (c : Int), .int .i64 (d : Int), .int .u32 (x : Int), .int .u32 (y : Int)] w
      (fun e w' => e = .returned (.tuple #[]) ∧ w'.heap[B]? = some (.cells (u32s (Pl.mixL V a b c d x y)).toArray 190 (0, 0)) ∧ w.grownBy w' (some B)) := by
  have a0 : (0 : Int) ≤ (a : Int) := by omega
  have b0 : (0 : Int) ≤ (b : Int) := by omega
  have c0 : (0 : Int) ≤ (c : Int) := by omega
  have d0 : (0 : Int) ≤ (d : Int) := by omega
  have a1 : (a : Int) < 16 := by omega
  have b1 : (b : Int) < 16 := by omega
  have c1 : (c : Int) < 16 := by omega
  have d1 : (d : Int) < 16 := by omega
  go_enter Tryz.func146, Tryz.ntmps146
  go_wp2_with fail
  obtain ⟨p1, hp1⟩ : ∃ z, V.getD a 0 = z := ⟨_, rfl⟩
  obtain ⟨o1, ho1⟩ : ∃ z, V.getD b 0 = z := ⟨_, rfl⟩
  have q1 := u32s_cell hB a (by omega)
  have q2 := u32s_cell hB b (by omega)
  have q3 := frozen_of w B a _ _ hB
  rw [hp1] at q1
  rw [ho1] at q2
  have l1 : p1 < 4294967296 := by rw [← hp1]; exact hA _
  have l2 : o1 < 4294967296 := by rw [← ho1]; exact hA _
  refine wp_region_held_drew (S := (fun w' => w'.cell? ⟨B, b, none⟩ = some (.int .u32 (o1 : Int)))) (by kernel_rfl) (by exact q2) (fun hHeld => ?_)
  refine tk 0 (v := ?_) rfl ?_ hHeld ?_
  rotate_left
  · (intro w' hSw; (try dsimp only at hSw); go_simp; try with_reducible rfl)
  simp only [Act.put, lay9]
  refine tk 1 (v := ?_) rfl ?_ hHeld ?_
  rotate_left
  · (intro w' hSw; (try dsimp only at hSw); go_simp; try with_reducible rfl)
  simp only [Act.put, lay9]
  refine tk 2 (v := ?_) rfl ?_ hHeld ?_
  rotate_left
  · (intro w' hSw; (try dsimp only at hSw); go_simp; try with_reducible rfl)
  simp only [Act.put, lay9]
  refine tk 3 (v := ?_) rfl ?_ hHeld ?_
  rotate_left
  · (intro w' hSw; (try dsimp only at hSw); go_simp; try with_reducible rfl)
  simp only [Act.put, lay9]
  refine tk 5 (v := ?_) rfl ?_ hHeld ?_
  rotate_left
  · (intro w' hSw; (try dsimp only at hSw); go_simp; try with_reducible rfl)
  simp only [Act.put, lay9]
  refine tk 6 (v := ?_) rfl ?_ hHeld ?_
  rotate_left
  · (intro w' hSw; (try dsimp only at hSw); go_simp; try with_reducible rfl)
  simp only [Act.put, lay9]
  refine tk 7 (v := ?_) rfl ?_ hHeld ?_
  rotate_left
  · (intro w' hSw; (try dsimp only at hSw); go_simp; try with_reducible rfl)
  simp only [Act.put, lay9]
  refine tk 8 (v := ?_) rfl ?_ hHeld ?_
  rotate_left
  · (intro w' hSw; (try dsimp only at hSw); go_simp; try with_reducible rfl)
  simp only [Act.put, lay9]
  refine tk 9 (v := ?_) rfl ?_ hHeld ?_
  rotate_left
  · (intro w' hSw; (try dsimp only at hSw); go_simp; try with_reducible rfl)
  simp only [Act.put, lay9]
  refine tk 10 (v := ?_) rfl ?_ hHeld ?_
  rotate_left
  · (intro w' hSw; (try dsimp only at hSw); go_simp; try with_reducible rfl)
  simp only [Act.put, lay9]
  refine tk 11 (v := ?_) rfl ?_ hHeld ?_
  rotate_left
  · (intro w' hSw; (try dsimp only at hSw); go_simp; try with_reducible rfl)
  simp only [Act.put, lay9]
  refine tk 13 (v := ?_) rfl ?_ hHeld ?_
  rotate_left
  · (intro w' hSw; (try dsimp only at hSw); go_simp; try with_reducible rfl)
  simp only [Act.put, lay9]
  refine wpAnyH_ready (rs := [4]) (by kernel_rfl) (by simp) (AllReadyH.cons rfl (fun K hK => ?_) AllReadyH.nil)
  go_simp
  refine hK.out _ _ hHeld (fun hHeld => ?_)
  clear hK K
  (try simp only [Act.put, lay9])
  refine tk 12 (v := ?_) rfl ?_ hHeld ?_
  rotate_left
  · (intro w' hSw; (try dsimp only at hSw); go_simp; try with_reducible rfl)
  simp only [Act.put, lay9]
  refine tk 14 (v := ?_) rfl ?_ hHeld ?_
  rotate_left
  · (intro w' hSw; (try dsimp only at hSw); go_simp; try with_reducible rfl)
  simp only [Act.put, lay9]
  refine wpAnyH_ready (rs := [15]) (by kernel_rfl) (by simp) (AllReadyH.cons rfl (fun K hK => ?_) AllReadyH.nil)
  go_simp
  have hs1 : (w.setCell ⟨B, a, none⟩ (.int .u32 (IntKind.u32.wrap ((p1 : Int) + IntKind.u32.wrap ((o1 : Int) + (x : Int)))))).drew.heap[B]? = some (.cells (u32s (Pl.mixA V a b x)).toArray 190 (0, 0)) := by
    have := u32s_store hB a (Pl.add32 p1 (Pl.add32 o1 x))
    unfold Pl.mixA
    rw [hp1, ho1, (add_two p1 o1 x : (IntKind.u32.wrap ((p1 : Int) + IntKind.u32.wrap ((o1 : Int) + (x : Int)))) = (((Pl.add32 p1 (Pl.add32 o1 x)) : Nat) : Int))]
    exact this
  have hg1 : w.grownBy (w.setCell ⟨B, a, none⟩ (.int .u32 (IntKind.u32.wrap ((p1 : Int) + IntKind.u32.wrap ((o1 : Int) + (x : Int)))))).drew (some B) := grown_drew (grown_set _ _ _ _)
  have hk1 : (w.setCell ⟨B, a, none⟩ (.int .u32 (IntKind.u32.wrap ((p1 : Int) + IntKind.u32.wrap ((o1 : Int) + (x : Int)))))).drew.cell? ⟨B, b, none⟩ = some (.int .u32 (o1 : Int)) := by
    rw [u32s_cell hs1 b (by rw [Pl.mixA_len]; omega)]
    unfold Pl.mixA
    rw [getD_set_ne' _ hab, ho1]
  refine hK.out _ _ hk1 (fun hHeld => ?_)
  clear hK K
  (try simp only [Act.put, lay9])
  refine wpAnyH_done (by kernel_rfl) ?_ _
  obtain ⟨W1, hW1⟩ : ∃ W, (w.setCell ⟨B, a, none⟩ (.int .u32 (IntKind.u32.wrap ((p1 : Int) + IntKind.u32.wrap ((o1 : Int) + (x : Int)))))).drew = W := ⟨_, rfl⟩
  rw [hW1] at hs1 hg1 ⊢
  obtain ⟨V1, hv1⟩ : ∃ z, Pl.mixA V a b x = z := ⟨_, rfl⟩
  have hV1 : V1.length = 16 := by rw [← hv1, Pl.mixA_len]; exact hV
  have hA1 : Pl.All32 V1 := by rw [← hv1]; exact Pl.mixA_all hA _ _ _
  rw [hv1] at hs1
  have hB1 := hs1
  clear hW1 hk1 hHeld q1 q2 q3 l1 l2 hp1 ho1 hs1 
  go_wp2_with fail
  obtain ⟨p2, hp2⟩ : ∃ z, V1.getD d 0 = z := ⟨_, rfl⟩
  obtain ⟨o2, ho2⟩ : ∃ z, V1.getD a 0 = z := ⟨_, rfl⟩
  have q1 := u32s_cell hB1 d (by omega)
  have q2 := u32s_cell hB1 a (by omega)
  have q3 := frozen_of W1 B d _ _ hB1
  rw [hp2] at q1
  rw [ho2] at q2
  have l1 : p2 < 4294967296 := by rw [← hp2]; exact hA1 _
  have l2 : o2 < 4294967296 := by rw [← ho2]; exact hA1 _
  refine wp_region_held_drew (S := (fun w' => w'.cell? ⟨B, a, none⟩ = some (.int .u32 (o2 : Int)))) (by kernel_rfl) (by exact q2) (fun hHeld => ?_)
  have ex : bits .xor .u32 (p2 : Int) (o2 : Int) = ((p2 ^^^ o2 : Nat) : Int) := Go.u32_xor_nat _ _ l1 l2
  refine tk 0 (v := ?_) rfl ?_ hHeld ?_
  rotate_left
  · (intro w' hSw; (try dsimp only at hSw); go_simp; try with_reducible rfl)
  simp only [Act.put, lay9]
  refine tk 1 (v := ?_) rfl ?_ hHeld ?_
  rotate_left
  · (intro w' hSw; (try dsimp only at hSw); go_simp; try with_reducible rfl)
  simp only [Act.put, lay9]
  refine tk 2 (v := ?_) rfl ?_ hHeld ?_
  rotate_left
  · (intro w' hSw; (try dsimp only at hSw); go_simp; try with_reducible rfl)
  simp only [Act.put, lay9]
  refine tk 3 (v := ?_) rfl ?_ hHeld ?_
  rotate_left
  · (intro w' hSw; (try dsimp only at hSw); go_simp; try with_reducible rfl)
  simp only [Act.put, lay9]
  refine tk 4 (v := ?_) rfl ?_ hHeld ?_
  rotate_left
  · (intro w' hSw; (try dsimp only at hSw); go_simp; try with_reducible rfl)
  simp only [Act.put, lay9]
  refine tk 5 (v := ?_) rfl ?_ hHeld ?_
  rotate_left
  · (intro w' hSw; (try dsimp only at hSw); go_simp; try with_reducible rfl)
  simp only [Act.put, lay9]
  refine tk 7 (v := ?_) rfl ?_ hHeld ?_
  rotate_left
  · (intro w' hSw; (try dsimp only at hSw); go_simp; try with_reducible rfl)
  simp only [Act.put, lay9]
  refine tk 8 (v := ?_) rfl ?_ hHeld ?_
  rotate_left
  · (intro w' hSw; (try dsimp only at hSw); go_simp; try with_reducible rfl)
  simp only [Act.put, lay9]
  refine tk 9 (v := ?_) rfl ?_ hHeld ?_
  rotate_left
  · (intro w' hSw; (try dsimp only at hSw); go_simp; try with_reducible rfl)
  simp only [Act.put, lay9]
  refine tk 10 (v := ?_) rfl ?_ hHeld ?_
  rotate_left
  · (intro w' hSw; (try dsimp only at hSw); go_simp; try with_reducible rfl)
  simp only [Act.put, lay9]
  refine tk 11 (v := ?_) rfl ?_ hHeld ?_
  rotate_left
  · (intro w' hSw; (try dsimp only at hSw); go_simp; try with_reducible rfl)
  simp only [Act.put, lay9]
  refine tk 14 (v := ?_) rfl ?_ hHeld ?_
  rotate_left
  · (intro w' hSw; (try dsimp only at hSw); go_simp; try with_reducible rfl)
  simp only [Act.put, lay9]
  refine wpAnyH_ready (rs := [6]) (by kernel_rfl) (by simp) (AllReadyH.cons rfl (fun K hK => ?_) AllReadyH.nil)
  go_simp
  refine hK.out _ _ hHeld (fun hHeld => ?_)
  clear hK K
  (try simp only [Act.put, lay9])
  refine tk 12 (v := ?_) rfl ?_ hHeld ?_
  rotate_left
  · (intro w' hSw; (try dsimp only at hSw); go_simp; try with_reducible rfl)
  simp only [Act.put, lay9]
  refine still_take (i := 13) (v := (.int .u32 ((Pl.rotl (p2 ^^^ o2) 16) : Int))) rfl (by kernel_rfl) (fun _ _ _ h => h) _ _ _ _ (by kernel_rfl) (by kernel_rfl) ⟨by rfl, _, _, fun w' hSw => ⟨?_, (rot_16 _ w' (Pl.xor_lt l1 l2))⟩⟩ hHeld ?_
  · (try dsimp only at hSw); go_simp; try with_reducible rfl
  simp only [Act.put, lay9]
  refine tk 15 (v := ?_) rfl ?_ hHeld ?_
  rotate_left
  · (intro w' hSw; (try dsimp only at hSw); go_simp; try with_reducible rfl)
  simp only [Act.put, lay9]
  refine wpAnyH_ready (rs := [16]) (by kernel_rfl) (by simp) (AllReadyH.cons rfl (fun K hK => ?_) AllReadyH.nil)
  go_simp
  have hs2 : (W1.setCell ⟨B, d, none⟩ (.int .u32 ((Pl.rotl (p2 ^^^ o2) 16) : Int))).drew.heap[B]? = some (.cells (u32s (Pl.mixX V1 d a 16)).toArray 190 (0, 0)) := by
    have := u32s_store hB1 d (Pl.rotl (p2 ^^^ o2) 16)
    unfold Pl.mixX
    rw [hp2, ho2, (rfl : ((Pl.rotl (p2 ^^^ o2) 16) : Int) = (((Pl.rotl (p2 ^^^ o2) 16) : Nat) : Int))]
    exact this
  have hg2 : w.grownBy (W1.setCell ⟨B, d, none⟩ (.int .u32 ((Pl.rotl (p2 ^^^ o2) 16) : Int))).drew (some B) := hg1.trans (grown_drew (grown_set _ _ _ _))
  have hk2 : (W1.setCell ⟨B, d, none⟩ (.int .u32 ((Pl.rotl (p2 ^^^ o2) 16) : Int))).drew.cell? ⟨B, a, none⟩ = some (.int .u32 (o2 : Int)) := by
    rw [u32s_cell hs2 a (by rw [Pl.mixX_len]; omega)]
    unfold Pl.mixX
    rw [getD_set_ne' _ hda, ho2]
  refine hK.out _ _ hk2 (fun hHeld => ?_)
  clear hK K
  (try simp only [Act.put, lay9])
  refine wpAnyH_done (by kernel_rfl) ?_ _
  obtain ⟨W2, hW2⟩ : ∃ W, (W1.setCell ⟨B, d, none⟩ (.int .u32 ((Pl.rotl (p2 ^^^ o2) 16) : Int))).drew = W := ⟨_, rfl⟩
  rw [hW2] at hs2 hg2 ⊢
  obtain ⟨V2, hv2⟩ : ∃ z, Pl.mixX V1 d a 16 = z := ⟨_, rfl⟩
  have hV2 : V2.length = 16 := by rw [← hv2, Pl.mixX_len]; exact hV1
  have hA2 : Pl.All32 V2 := by rw [← hv2]; exact Pl.mixX_all hA1 _ _ _
  rw [hv2] at hs2
  have hB2 := hs2
  clear hW2 hk2 hHeld q1 q2 q3 l1 l2 hp2 ho2 hs2 ex
  go_wp2_with fail
  obtain ⟨p3, hp3⟩ : ∃ z, V2.getD c 0 = z := ⟨_, rfl⟩
  obtain ⟨o3, ho3⟩ : ∃ z, V2.getD d 0 = z := ⟨_, rfl⟩
  have q1 := u32s_cell hB2 c (by omega)
  have q2 := u32s_cell hB2 d (by omega)
  have q3 := frozen_of W2 B c _ _ hB2
  rw [hp3] at q1
  rw [ho3] at q2
  have l1 : p3 < 4294967296 := by rw [← hp3]; exact hA2 _
  have l2 : o3 < 4294967296 := by rw [← ho3]; exact hA2 _
  refine wp_region_held_drew (S := (fun w' => w'.cell? ⟨B, d, none⟩ = some (.int .u32 (o3 : Int)))) (by kernel_rfl) (by exact q2) (fun hHeld => ?_)
  refine tk 0 (v := ?_) rfl ?_ hHeld ?_
  rotate_left
  · (intro w' hSw; (try dsimp only at hSw); go_simp; try with_reducible rfl)
  simp only [Act.put, lay9]
  refine tk 1 (v := ?_) rfl ?_ hHeld ?_
  rotate_left
  · (intro w' hSw; (try dsimp only at hSw); go_simp; try with_reducible rfl)
  simp only [Act.put, lay9]
  refine tk 2 (v := ?_) rfl ?_ hHeld ?_
  rotate_left
  · (intro w' hSw; (try dsimp only at hSw); go_simp; try with_reducible rfl)
  simp only [Act.put, lay9]
  refine tk 3 (v := ?_) rfl ?_ hHeld ?_
  rotate_left
  · (intro w' hSw; (try dsimp only at hSw); go_simp; try with_reducible rfl)
  simp only [Act.put, lay9]
  refine tk 5 (v := ?_) rfl ?_ hHeld ?_
  rotate_left
  · (intro w' hSw; (try dsimp only at hSw); go_simp; try with_reducible rfl)
  simp only [Act.put, lay9]
  refine tk 6 (v := ?_) rfl ?_ hHeld ?_
  rotate_left
  · (intro w' hSw; (try dsimp only at hSw); go_simp; try with_reducible rfl)
  simp only [Act.put, lay9]
  refine tk 7 (v := ?_) rfl ?_ hHeld ?_
  rotate_left
  · (intro w' hSw; (try dsimp only at hSw); go_simp; try with_reducible rfl)
  simp only [Act.put, lay9]
  refine tk 8 (v := ?_) rfl ?_ hHeld ?_
  rotate_left
  · (intro w' hSw; (try dsimp only at hSw); go_simp; try with_reducible rfl)
  simp only [Act.put, lay9]
  refine tk 9 (v := ?_) rfl ?_ hHeld ?_
  rotate_left
  · (intro w' hSw; (try dsimp only at hSw); go_simp; try with_reducible rfl)
  simp only [Act.put, lay9]
  refine tk 11 (v := ?_) rfl ?_ hHeld ?_
  rotate_left
  · (intro w' hSw; (try dsimp only at hSw); go_simp; try with_reducible rfl)
  simp only [Act.put, lay9]
  refine wpAnyH_ready (rs := [4]) (by kernel_rfl) (by simp) (AllReadyH.cons rfl (fun K hK => ?_) AllReadyH.nil)
  go_simp
  refine hK.out _ _ hHeld (fun hHeld => ?_)
  clear hK K
  (try simp only [Act.put, lay9])
  refine tk 10 (v := ?_) rfl ?_ hHeld ?_
  rotate_left
  · (intro w' hSw; (try dsimp only at hSw); go_simp; try with_reducible rfl)
  simp only [Act.put, lay9]
  refine tk 12 (v := ?_) rfl ?_ hHeld ?_
  rotate_left
  · (intro w' hSw; (try dsimp only at hSw); go_simp; try with_reducible rfl)
  simp only [Act.put, lay9]
  refine wpAnyH_ready (rs := [13]) (by kernel_rfl) (by simp) (AllReadyH.cons rfl (fun K hK => ?_) AllReadyH.nil)
  go_simp
  have hs3 : (W2.setCell ⟨B, c, none⟩ (.int .u32 (IntKind.u32.wrap ((p3 : Int) + (o3 : Int))))).drew.heap[B]? = some (.cells (u32s (Pl.mixS V2 c d)).toArray 190 (0, 0)) := by
    have := u32s_store hB2 c (Pl.add32 p3 o3)
    unfold Pl.mixS
    rw [hp3, ho3, (add_one p3 o3 : (IntKind.u32.wrap ((p3 : Int) + (o3 : Int))) = (((Pl.add32 p3 o3) : Nat) : Int))]
    exact this
  have hg3 : w.grownBy (W2.setCell ⟨B, c, none⟩ (.int .u32 (IntKind.u32.wrap ((p3 : Int) + (o3 : Int))))).drew (some B) := hg2.trans (grown_drew (grown_set _ _ _ _))
  have hk3 : (W2.setCell ⟨B, c, none⟩ (.int .u32 (IntKind.u32.wrap ((p3 : Int) + (o3 : Int))))).drew.cell? ⟨B, d, none⟩ = some (.int .u32 (o3 : Int)) := by
    rw [u32s_cell hs3 d (by rw [Pl.mixS_len]; omega)]
    unfold Pl.mixS
    rw [getD_set_ne' _ hcd, ho3]
  refine hK.out _ _ hk3 (fun hHeld => ?_)
  clear hK K
  (try simp only [Act.put, lay9])
  refine wpAnyH_done (by kernel_rfl) ?_ _
  obtain ⟨W3, hW3⟩ : ∃ W, (W2.setCell ⟨B, c, none⟩ (.int .u32 (IntKind.u32.wrap ((p3 : Int) + (o3 : Int))))).drew = W := ⟨_, rfl⟩
  rw [hW3] at hs3 hg3 ⊢
  obtain ⟨V3, hv3⟩ : ∃ z, Pl.mixS V2 c d = z := ⟨_, rfl⟩
  have hV3 : V3.length = 16 := by rw [← hv3, Pl.mixS_len]; exact hV2
  have hA3 : Pl.All32 V3 := by rw [← hv3]; exact Pl.mixS_all hA2 _ _
  rw [hv3] at hs3
  have hB3 := hs3
  clear hW3 hk3 hHeld q1 q2 q3 l1 l2 hp3 ho3 hs3 
  go_wp2_with fail
  obtain ⟨p4, hp4⟩ : ∃ z, V3.getD b 0 = z := ⟨_, rfl⟩
  obtain ⟨o4, ho4⟩ : ∃ z, V3.getD c 0 = z := ⟨_, rfl⟩
  have q1 := u32s_cell hB3 b (by omega)
  have q2 := u32s_cell hB3 c (by omega)
  have q3 := frozen_of W3 B b _ _ hB3
  rw [hp4] at q1
  rw [ho4] at q2
  have l1 : p4 < 4294967296 := by rw [← hp4]; exact hA3 _
  have l2 : o4 < 4294967296 := by rw [← ho4]; exact hA3 _
  refine wp_region_held_drew (S := (fun w' => w'.cell? ⟨B, c, none⟩ = some (.int .u32 (o4 : Int)))) (by kernel_rfl) (by exact q2) (fun hHeld => ?_)
  have ex : bits .xor .u32 (p4 : Int) (o4 : Int) = ((p4 ^^^ o4 : Nat) : Int) := Go.u32_xor_nat _ _ l1 l2
  refine tk 0 (v := ?_) rfl ?_ hHeld ?_
  rotate_left
  · (intro w' hSw; (try dsimp only at hSw); go_simp; try with_reducible rfl)
  simp only [Act.put, lay9]
  refine tk 1 (v := ?_) rfl ?_ hHeld ?_
  rotate_left
  · (intro w' hSw; (try dsimp only at hSw); go_simp; try with_reducible rfl)
  simp only [Act.put, lay9]
  refine tk 2 (v := ?_) rfl ?_ hHeld ?_
  rotate_left
  · (intro w' hSw; (try dsimp only at hSw); go_simp; try with_reducible rfl)
  simp only [Act.put, lay9]
  refine tk 3 (v := ?_) rfl ?_ hHeld ?_
  rotate_left
  · (intro w' hSw; (try dsimp only at hSw); go_simp; try with_reducible rfl)
  simp only [Act.put, lay9]
  refine tk 4 (v := ?_) rfl ?_ hHeld ?_
  rotate_left
  · (intro w' hSw; (try dsimp only at hSw); go_simp; try with_reducible rfl)
  simp only [Act.put, lay9]
  refine tk 5 (v := ?_) rfl ?_ hHeld ?_
  rotate_left
  · (intro w' hSw; (try dsimp only at hSw); go_simp; try with_reducible rfl)
  simp only [Act.put, lay9]
  refine tk 7 (v := ?_) rfl ?_ hHeld ?_
  rotate_left
  · (intro w' hSw; (try dsimp only at hSw); go_simp; try with_reducible rfl)
  simp only [Act.put, lay9]
  refine tk 8 (v := ?_) rfl ?_ hHeld ?_
  rotate_left
  · (intro w' hSw; (try dsimp only at hSw); go_simp; try with_reducible rfl)
  simp only [Act.put, lay9]
  refine tk 9 (v := ?_) rfl ?_ hHeld ?_
  rotate_left
  · (intro w' hSw; (try dsimp only at hSw); go_simp; try with_reducible rfl)
  simp only [Act.put, lay9]
  refine tk 10 (v := ?_) rfl ?_ hHeld ?_
  rotate_left
  · (intro w' hSw; (try dsimp only at hSw); go_simp; try with_reducible rfl)
  simp only [Act.put, lay9]
  refine tk 11 (v := ?_) rfl ?_ hHeld ?_
  rotate_left
  · (intro w' hSw; (try dsimp only at hSw); go_simp; try with_reducible rfl)
  simp only [Act.put, lay9]
  refine tk 14 (v := ?_) rfl ?_ hHeld ?_
  rotate_left
  · (intro w' hSw; (try dsimp only at hSw); go_simp; try with_reducible rfl)
  simp only [Act.put, lay9]
  refine wpAnyH_ready (rs := [6]) (by kernel_rfl) (by simp) (AllReadyH.cons rfl (fun K hK => ?_) AllReadyH.nil)
  go_simp
  refine hK.out _ _ hHeld (fun hHeld => ?_)
  clear hK K
  (try simp only [Act.put, lay9])
  refine tk 12 (v := ?_) rfl ?_ hHeld ?_
  rotate_left
  · (intro w' hSw; (try dsimp only at hSw); go_simp; try with_reducible rfl)
  simp only [Act.put, lay9]
  refine still_take (i := 13) (v := (.int .u32 ((Pl.rotl (p4 ^^^ o4) 20) : Int))) rfl (by kernel_rfl) (fun _ _ _ h => h) _ _ _ _ (by kernel_rfl) (by kernel_rfl) ⟨by rfl, _, _, fun w' hSw => ⟨?_, (rot_20 _ w' (Pl.xor_lt l1 l2))⟩⟩ hHeld ?_
  · (try dsimp only at hSw); go_simp; try with_reducible rfl
  simp only [Act.put, lay9]
  refine tk 15 (v := ?_) rfl ?_ hHeld ?_
  rotate_left
  · (intro w' hSw; (try dsimp only at hSw); go_simp; try with_reducible rfl)
  simp only [Act.put, lay9]
  refine wpAnyH_ready (rs := [16]) (by kernel_rfl) (by simp) (AllReadyH.cons rfl (fun K hK => ?_) AllReadyH.nil)
  go_simp
  have hs4 : (W3.setCell ⟨B, b, none⟩ (.int .u32 ((Pl.rotl (p4 ^^^ o4) 20) : Int))).drew.heap[B]? = some (.cells (u32s (Pl.mixX V3 b c 20)).toArray 190 (0, 0)) := by
    have := u32s_store hB3 b (Pl.rotl (p4 ^^^ o4) 20)
    unfold Pl.mixX
    rw [hp4, ho4, (rfl : ((Pl.rotl (p4 ^^^ o4) 20) : Int) = (((Pl.rotl (p4 ^^^ o4) 20) : Nat) : Int))]
    exact this
  have hg4 : w.grownBy (W3.setCell ⟨B, b, none⟩ (.int .u32 ((Pl.rotl (p4 ^^^ o4) 20) : Int))).drew (some B) := hg3.trans (grown_drew (grown_set _ _ _ _))
  have hk4 : (W3.setCell ⟨B, b, none⟩ (.int .u32 ((Pl.rotl (p4 ^^^ o4) 20) : Int))).drew.cell? ⟨B, c, none⟩ = some (.int .u32 (o4 : Int)) := by
    rw [u32s_cell hs4 c (by rw [Pl.mixX_len]; omega)]
    unfold Pl.mixX
    rw [getD_set_ne' _ hbc, ho4]
  refine hK.out _ _ hk4 (fun hHeld => ?_)
  clear hK K
  (try simp only [Act.put, lay9])
  refine wpAnyH_done (by kernel_rfl) ?_ _
  obtain ⟨W4, hW4⟩ : ∃ W, (W3.setCell ⟨B, b, none⟩ (.int .u32 ((Pl.rotl (p4 ^^^ o4) 20) : Int))).drew = W := ⟨_, rfl⟩
  rw [hW4] at hs4 hg4 ⊢
  obtain ⟨V4, hv4⟩ : ∃ z, Pl.mixX V3 b c 20 = z := ⟨_, rfl⟩
  have hV4 : V4.length = 16 := by rw [← hv4, Pl.mixX_len]; exact hV3
  have hA4 : Pl.All32 V4 := by rw [← hv4]; exact Pl.mixX_all hA3 _ _ _
  rw [hv4] at hs4
  have hB4 := hs4
  clear hW4 hk4 hHeld q1 q2 q3 l1 l2 hp4 ho4 hs4 ex
  go_wp2_with fail
  obtain ⟨p5, hp5⟩ : ∃ z, V4.getD a 0 = z := ⟨_, rfl⟩
  obtain ⟨o5, ho5⟩ : ∃ z, V4.getD b 0 = z := ⟨_, rfl⟩
  have q1 := u32s_cell hB4 a (by omega)
  have q2 := u32s_cell hB4 b (by omega)
  have q3 := frozen_of W4 B a _ _ hB4
  rw [hp5] at q1
  rw [ho5] at q2
  have l1 : p5 < 4294967296 := by rw [← hp5]; exact hA4 _
  have l2 : o5 < 4294967296 := by rw [← ho5]; exact hA4 _
  refine wp_region_held_drew (S := (fun w' => w'.cell? ⟨B, b, none⟩ = some (.int .u32 (o5 : Int)))) (by kernel_rfl) (by exact q2) (fun hHeld => ?_)
  refine tk 0 (v := ?_) rfl ?_ hHeld ?_
  rotate_left
  · (intro w' hSw; (try dsimp only at hSw); go_simp; try with_reducible rfl)
  simp only [Act.put, lay9]
  refine tk 1 (v := ?_) rfl ?_ hHeld ?_
  rotate_left
  · (intro w' hSw; (try dsimp only at hSw); go_simp; try with_reducible rfl)
  simp only [Act.put, lay9]
  refine tk 2 (v := ?_) rfl ?_ hHeld ?_
  rotate_left
  · (intro w' hSw; (try dsimp only at hSw); go_simp; try with_reducible rfl)
  simp only [Act.put, lay9]
  refine tk 3 (v := ?_) rfl ?_ hHeld ?_
  rotate_left
  · (intro w' hSw; (try dsimp only at hSw); go_simp; try with_reducible rfl)
  simp only [Act.put, lay9]
  refine tk 5 (v := ?_) rfl ?_ hHeld ?_
  rotate_left
  · (intro w' hSw; (try dsimp only at hSw); go_simp; try with_reducible rfl)
  simp only [Act.put, lay9]
  refine tk 6 (v := ?_) rfl ?_ hHeld ?_
  rotate_left
  · (intro w' hSw; (try dsimp only at hSw); go_simp; try with_reducible rfl)
  simp only [Act.put, lay9]
  refine tk 7 (v := ?_) rfl ?_ hHeld ?_
  rotate_left
  · (intro w' hSw; (try dsimp only at hSw); go_simp; try with_reducible rfl)
  simp only [Act.put, lay9]
  refine tk 8 (v := ?_) rfl ?_ hHeld ?_
  rotate_left
  · (intro w' hSw; (try dsimp only at hSw); go_simp; try with_reducible rfl)
  simp only [Act.put, lay9]
  refine tk 9 (v := ?_) rfl ?_ hHeld ?_
  rotate_left
  · (intro w' hSw; (try dsimp only at hSw); go_simp; try with_reducible rfl)
  simp only [Act.put, lay9]
  refine tk 10 (v := ?_) rfl ?_ hHeld ?_
  rotate_left
  · (intro w' hSw; (try dsimp only at hSw); go_simp; try with_reducible rfl)
  simp only [Act.put, lay9]
  refine tk 11 (v := ?_) rfl ?_ hHeld ?_
  rotate_left
  · (intro w' hSw; (try dsimp only at hSw); go_simp; try with_reducible rfl)
  simp only [Act.put, lay9]
  refine tk 13 (v := ?_) rfl ?_ hHeld ?_
  rotate_left
  · (intro w' hSw; (try dsimp only at hSw); go_simp; try with_reducible rfl)
  simp only [Act.put, lay9]
  refine wpAnyH_ready (rs := [4]) (by kernel_rfl) (by simp) (AllReadyH.cons rfl (fun K hK => ?_) AllReadyH.nil)
  go_simp
  refine hK.out _ _ hHeld (fun hHeld => ?_)
  clear hK K
  (try simp only [Act.put, lay9])
  refine tk 12 (v := ?_) rfl ?_ hHeld ?_
  rotate_left
  · (intro w' hSw; (try dsimp only at hSw); go_simp; try with_reducible rfl)
  simp only [Act.put, lay9]
  refine tk 14 (v := ?_) rfl ?_ hHeld ?_
  rotate_left
  · (intro w' hSw; (try dsimp only at hSw); go_simp; try with_reducible rfl)
  simp only [Act.put, lay9]
  refine wpAnyH_ready (rs := [15]) (by kernel_rfl) (by simp) (AllReadyH.cons rfl (fun K hK => ?_) AllReadyH.nil)
  go_simp
  have hs5 : (W4.setCell ⟨B, a, none⟩ (.int .u32 (IntKind.u32.wrap ((p5 : Int) + IntKind.u32.wrap ((o5 : Int) + (y : Int)))))).drew.heap[B]? = some (.cells (u32s (Pl.mixA V4 a b y)).toArray 190 (0, 0)) := by
    have := u32s_store hB4 a (Pl.add32 p5 (Pl.add32 o5 y))
    unfold Pl.mixA
    rw [hp5, ho5, (add_two p5 o5 y : (IntKind.u32.wrap ((p5 : Int) + IntKind.u32.wrap ((o5 : Int) + (y : Int)))) = (((Pl.add32 p5 (Pl.add32 o5 y)) : Nat) : Int))]
    exact this
  have hg5 : w.grownBy (W4.setCell ⟨B, a, none⟩ (.int .u32 (IntKind.u32.wrap ((p5 : Int) + IntKind.u32.wrap ((o5 : Int) + (y : Int)))))).drew (some B) := hg4.trans (grown_drew (grown_set _ _ _ _))
  have hk5 : (W4.setCell ⟨B, a, none⟩ (.int .u32 (IntKind.u32.wrap ((p5 : Int) + IntKind.u32.wrap ((o5 : Int) + (y : Int)))))).drew.cell? ⟨B, b, none⟩ = some (.int .u32 (o5 : Int)) := by
    rw [u32s_cell hs5 b (by rw [Pl.mixA_len]; omega)]
    unfold Pl.mixA
    rw [getD_set_ne' _ hab, ho5]
  refine hK.out _ _ hk5 (fun hHeld => ?_)
  clear hK K
  (try simp only [Act.put, lay9])
  refine wpAnyH_done (by kernel_rfl) ?_ _
  obtain ⟨W5, hW5⟩ : ∃ W, (W4.setCell ⟨B, a, none⟩ (.int .u32 (IntKind.u32.wrap ((p5 : Int) + IntKind.u32.wrap ((o5 : Int) + (y : Int)))))).drew = W := ⟨_, rfl⟩
  rw [hW5] at hs5 hg5 ⊢
  obtain ⟨V5, hv5⟩ : ∃ z, Pl.mixA V4 a b y = z := ⟨_, rfl⟩
  have hV5 : V5.length = 16 := by rw [← hv5, Pl.mixA_len]; exact hV4
  have hA5 : Pl.All32 V5 := by rw [← hv5]; exact Pl.mixA_all hA4 _ _ _
  rw [hv5] at hs5
  have hB5 := hs5
  clear hW5 hk5 hHeld q1 q2 q3 l1 l2 hp5 ho5 hs5 
  go_wp2_with fail
  obtain ⟨p6, hp6⟩ : ∃ z, V5.getD d 0 = z := ⟨_, rfl⟩
  obtain ⟨o6, ho6⟩ : ∃ z, V5.getD a 0 = z := ⟨_, rfl⟩
  have q1 := u32s_cell hB5 d (by omega)
  have q2 := u32s_cell hB5 a (by omega)
  have q3 := frozen_of W5 B d _ _ hB5
  rw [hp6] at q1
  rw [ho6] at q2
  have l1 : p6 < 4294967296 := by rw [← hp6]; exact hA5 _
  have l2 : o6 < 4294967296 := by rw [← ho6]; exact hA5 _
  refine wp_region_held_drew (S := (fun w' => w'.cell? ⟨B, a, none⟩ = some (.int .u32 (o6 : Int)))) (by kernel_rfl) (by exact q2) (fun hHeld => ?_)
  have ex : bits .xor .u32 (p6 : Int) (o6 : Int) = ((p6 ^^^ o6 : Nat) : Int) := Go.u32_xor_nat _ _ l1 l2
  refine tk 0 (v := ?_) rfl ?_ hHeld ?_
  rotate_left
  · (intro w' hSw; (try dsimp only at hSw); go_simp; try with_reducible rfl)
  simp only [Act.put, lay9]
  refine tk 1 (v := ?_) rfl ?_ hHeld ?_
  rotate_left
  · (intro w' hSw; (try dsimp only at hSw); go_simp; try with_reducible rfl)
  simp only [Act.put, lay9]
  refine tk 2 (v := ?_) rfl ?_ hHeld ?_
  rotate_left
  · (intro w' hSw; (try dsimp only at hSw); go_simp; try with_reducible rfl)
  simp only [Act.put, lay9]
  refine tk 3 (v := ?_) rfl ?_ hHeld ?_
  rotate_left
  · (intro w' hSw; (try dsimp only at hSw); go_simp; try with_reducible rfl)
  simp only [Act.put, lay9]
  refine tk 4 (v := ?_) rfl ?_ hHeld ?_
  rotate_left
  · (intro w' hSw; (try dsimp only at hSw); go_simp; try with_reducible rfl)
  simp only [Act.put, lay9]
  refine tk 5 (v := ?_) rfl ?_ hHeld ?_
  rotate_left
  · (intro w' hSw; (try dsimp only at hSw); go_simp; try with_reducible rfl)
  simp only [Act.put, lay9]
  refine tk 7 (v := ?_) rfl ?_ hHeld ?_
  rotate_left
  · (intro w' hSw; (try dsimp only at hSw); go_simp; try with_reducible rfl)
  simp only [Act.put, lay9]
  refine tk 8 (v := ?_) rfl ?_ hHeld ?_
  rotate_left
  · (intro w' hSw; (try dsimp only at hSw); go_simp; try with_reducible rfl)
  simp only [Act.put, lay9]
  refine tk 9 (v := ?_) rfl ?_ hHeld ?_
  rotate_left
  · (intro w' hSw; (try dsimp only at hSw); go_simp; try with_reducible rfl)
  simp only [Act.put, lay9]
  refine tk 10 (v := ?_) rfl ?_ hHeld ?_
  rotate_left
  · (intro w' hSw; (try dsimp only at hSw); go_simp; try with_reducible rfl)
  simp only [Act.put, lay9]
  refine tk 11 (v := ?_) rfl ?_ hHeld ?_
  rotate_left
  · (intro w' hSw; (try dsimp only at hSw); go_simp; try with_reducible rfl)
  simp only [Act.put, lay9]
  refine tk 14 (v := ?_) rfl ?_ hHeld ?_
  rotate_left
  · (intro w' hSw; (try dsimp only at hSw); go_simp; try with_reducible rfl)
  simp only [Act.put, lay9]
  refine wpAnyH_ready (rs := [6]) (by kernel_rfl) (by simp) (AllReadyH.cons rfl (fun K hK => ?_) AllReadyH.nil)
  go_simp
  refine hK.out _ _ hHeld (fun hHeld => ?_)
  clear hK K
  (try simp only [Act.put, lay9])
  refine tk 12 (v := ?_) rfl ?_ hHeld ?_
  rotate_left
  · (intro w' hSw; (try dsimp only at hSw); go_simp; try with_reducible rfl)
  simp only [Act.put, lay9]
  refine still_take (i := 13) (v := (.int .u32 ((Pl.rotl (p6 ^^^ o6) 24) : Int))) rfl (by kernel_rfl) (fun _ _ _ h => h) _ _ _ _ (by kernel_rfl) (by kernel_rfl) ⟨by rfl, _, _, fun w' hSw => ⟨?_, (rot_24 _ w' (Pl.xor_lt l1 l2))⟩⟩ hHeld ?_
  · (try dsimp only at hSw); go_simp; try with_reducible rfl
  simp only [Act.put, lay9]
  refine tk 15 (v := ?_) rfl ?_ hHeld ?_
  rotate_left
  · (intro w' hSw; (try dsimp only at hSw); go_simp; try with_reducible rfl)
  simp only [Act.put, lay9]
  refine wpAnyH_ready (rs := [16]) (by kernel_rfl) (by simp) (AllReadyH.cons rfl (fun K hK => ?_) AllReadyH.nil)
  go_simp
  have hs6 : (W5.setCell ⟨B, d, none⟩ (.int .u32 ((Pl.rotl (p6 ^^^ o6) 24) : Int))).drew.heap[B]? = some (.cells (u32s (Pl.mixX V5 d a 24)).toArray 190 (0, 0)) := by
    have := u32s_store hB5 d (Pl.rotl (p6 ^^^ o6) 24)
    unfold Pl.mixX
    rw [hp6, ho6, (rfl : ((Pl.rotl (p6 ^^^ o6) 24) : Int) = (((Pl.rotl (p6 ^^^ o6) 24) : Nat) : Int))]
    exact this
  have hg6 : w.grownBy (W5.setCell ⟨B, d, none⟩ (.int .u32 ((Pl.rotl (p6 ^^^ o6) 24) : Int))).drew (some B) := hg5.trans (grown_drew (grown_set _ _ _ _))
  have hk6 : (W5.setCell ⟨B, d, none⟩ (.int .u32 ((Pl.rotl (p6 ^^^ o6) 24) : Int))).drew.cell? ⟨B, a, none⟩ = some (.int .u32 (o6 : Int)) := by
    rw [u32s_cell hs6 a (by rw [Pl.mixX_len]; omega)]
    unfold Pl.mixX
    rw [getD_set_ne' _ hda, ho6]
  refine hK.out _ _ hk6 (fun hHeld => ?_)
  clear hK K
  (try simp only [Act.put, lay9])
  refine wpAnyH_done (by kernel_rfl) ?_ _
  obtain ⟨W6, hW6⟩ : ∃ W, (W5.setCell ⟨B, d, none⟩ (.int .u32 ((Pl.rotl (p6 ^^^ o6) 24) : Int))).drew = W := ⟨_, rfl⟩
  rw [hW6] at hs6 hg6 ⊢
  obtain ⟨V6, hv6⟩ : ∃ z, Pl.mixX V5 d a 24 = z := ⟨_, rfl⟩
  have hV6 : V6.length = 16 := by rw [← hv6, Pl.mixX_len]; exact hV5
  have hA6 : Pl.All32 V6 := by rw [← hv6]; exact Pl.mixX_all hA5 _ _ _
  rw [hv6] at hs6
  have hB6 := hs6
  clear hW6 hk6 hHeld q1 q2 q3 l1 l2 hp6 ho6 hs6 ex
  go_wp2_with fail
  obtain ⟨p7, hp7⟩ : ∃ z, V6.getD c 0 = z := ⟨_, rfl⟩
  obtain ⟨o7, ho7⟩ : ∃ z, V6.getD d 0 = z := ⟨_, rfl⟩
  have q1 := u32s_cell hB6 c (by omega)
  have q2 := u32s_cell hB6 d (by omega)
  have q3 := frozen_of W6 B c _ _ hB6
  rw [hp7] at q1
  rw [ho7] at q2
  have l1 : p7 < 4294967296 := by rw [← hp7]; exact hA6 _
  have l2 : o7 < 4294967296 := by rw [← ho7]; exact hA6 _
  refine wp_region_held_drew (S := (fun w' => w'.cell? ⟨B, d, none⟩ = some (.int .u32 (o7 : Int)))) (by kernel_rfl) (by exact q2) (fun hHeld => ?_)
  refine tk 0 (v := ?_) rfl ?_ hHeld ?_
  rotate_left
  · (intro w' hSw; (try dsimp only at hSw); go_simp; try with_reducible rfl)
  simp only [Act.put, lay9]
  refine tk 1 (v := ?_) rfl ?_ hHeld ?_
  rotate_left
  · (intro w' hSw; (try dsimp only at hSw); go_simp; try with_reducible rfl)
  simp only [Act.put, lay9]
  refine tk 2 (v := ?_) rfl ?_ hHeld ?_
  rotate_left
  · (intro w' hSw; (try dsimp only at hSw); go_simp; try with_reducible rfl)
  simp only [Act.put, lay9]
  refine tk 3 (v := ?_) rfl ?_ hHeld ?_
  rotate_left
  · (intro w' hSw; (try dsimp only at hSw); go_simp; try with_reducible rfl)
  simp only [Act.put, lay9]
  refine tk 5 (v := ?_) rfl ?_ hHeld ?_
  rotate_left
  · (intro w' hSw; (try dsimp only at hSw); go_simp; try with_reducible rfl)
  simp only [Act.put, lay9]
  refine tk 6 (v := ?_) rfl ?_ hHeld ?_
  rotate_left
  · (intro w' hSw; (try dsimp only at hSw); go_simp; try with_reducible rfl)
  simp only [Act.put, lay9]
  refine tk 7 (v := ?_) rfl ?_ hHeld ?_
  rotate_left
  · (intro w' hSw; (try dsimp only at hSw); go_simp; try with_reducible rfl)
  simp only [Act.put, lay9]
  refine tk 8 (v := ?_) rfl ?_ hHeld ?_
  rotate_left
  · (intro w' hSw; (try dsimp only at hSw); go_simp; try with_reducible rfl)
  simp only [Act.put, lay9]
  refine tk 9 (v := ?_) rfl ?_ hHeld ?_
  rotate_left
  · (intro w' hSw; (try dsimp only at hSw); go_simp; try with_reducible rfl)
  simp only [Act.put, lay9]
  refine tk 11 (v := ?_) rfl ?_ hHeld ?_
  rotate_left
  · (intro w' hSw; (try dsimp only at hSw); go_simp; try with_reducible rfl)
  simp only [Act.put, lay9]
  refine wpAnyH_ready (rs := [4]) (by kernel_rfl) (by simp) (AllReadyH.cons rfl (fun K hK => ?_) AllReadyH.nil)
  go_simp
  refine hK.out _ _ hHeld (fun hHeld => ?_)
  clear hK K
  (try simp only [Act.put, lay9])
  refine tk 10 (v := ?_) rfl ?_ hHeld ?_
  rotate_left
  · (intro w' hSw; (try dsimp only at hSw); go_simp; try with_reducible rfl)
  simp only [Act.put, lay9]
  refine tk 12 (v := ?_) rfl ?_ hHeld ?_
  rotate_left
  · (intro w' hSw; (try dsimp only at hSw); go_simp; try with_reducible rfl)
  simp only [Act.put, lay9]
  refine wpAnyH_ready (rs := [13]) (by kernel_rfl) (by simp) (AllReadyH.cons rfl (fun K hK => ?_) AllReadyH.nil)
  go_simp
  have hs7 : (W6.setCell ⟨B, c, none⟩ (.int .u32 (IntKind.u32.wrap ((p7 : Int) + (o7 : Int))))).drew.heap[B]? = some (.cells (u32s (Pl.mixS V6 c d)).toArray 190 (0, 0)) := by
    have := u32s_store hB6 c (Pl.add32 p7 o7)
    unfold Pl.mixS
    rw [hp7, ho7, (add_one p7 o7 : (IntKind.u32.wrap ((p7 : Int) + (o7 : Int))) = (((Pl.add32 p7 o7) : Nat) : Int))]
    exact this
  have hg7 : w.grownBy (W6.setCell ⟨B, c, none⟩ (.int .u32 (IntKind.u32.wrap ((p7 : Int) + (o7 : Int))))).drew (some B) := hg6.trans (grown_drew (grown_set _ _ _ _))
  have hk7 : (W6.setCell ⟨B, c, none⟩ (.int .u32 (IntKind.u32.wrap ((p7 : Int) + (o7 : Int))))).drew.cell? ⟨B, d, none⟩ = some (.int .u32 (o7 : Int)) := by
    rw [u32s_cell hs7 d (by rw [Pl.mixS_len]; omega)]
    unfold Pl.mixS
    rw [getD_set_ne' _ hcd, ho7]
  refine hK.out _ _ hk7 (fun hHeld => ?_)
  clear hK K
  (try simp only [Act.put, lay9])
  refine wpAnyH_done (by kernel_rfl) ?_ _
  obtain ⟨W7, hW7⟩ : ∃ W, (W6.setCell ⟨B, c, none⟩ (.int .u32 (IntKind.u32.wrap ((p7 : Int) + (o7 : Int))))).drew = W := ⟨_, rfl⟩
  rw [hW7] at hs7 hg7 ⊢
  obtain ⟨V7, hv7⟩ : ∃ z, Pl.mixS V6 c d = z := ⟨_, rfl⟩
  have hV7 : V7.length = 16 := by rw [← hv7, Pl.mixS_len]; exact hV6
  have hA7 : Pl.All32 V7 := by rw [← hv7]; exact Pl.mixS_all hA6 _ _
  rw [hv7] at hs7
  have hB7 := hs7
  clear hW7 hk7 hHeld q1 q2 q3 l1 l2 hp7 ho7 hs7 
  go_wp2_with fail
  obtain ⟨p8, hp8⟩ : ∃ z, V7.getD b 0 = z := ⟨_, rfl⟩
  obtain ⟨o8, ho8⟩ : ∃ z, V7.getD c 0 = z := ⟨_, rfl⟩
  have q1 := u32s_cell hB7 b (by omega)
  have q2 := u32s_cell hB7 c (by omega)
  have q3 := frozen_of W7 B b _ _ hB7
  rw [hp8] at q1
  rw [ho8] at q2
  have l1 : p8 < 4294967296 := by rw [← hp8]; exact hA7 _
  have l2 : o8 < 4294967296 := by rw [← ho8]; exact hA7 _
  refine wp_region_held_drew (S := (fun w' => w'.cell? ⟨B, c, none⟩ = some (.int .u32 (o8 : Int)))) (by kernel_rfl) (by exact q2) (fun hHeld => ?_)
  have ex : bits .xor .u32 (p8 : Int) (o8 : Int) = ((p8 ^^^ o8 : Nat) : Int) := Go.u32_xor_nat _ _ l1 l2
  refine tk 0 (v := ?_) rfl ?_ hHeld ?_
  rotate_left
  · (intro w' hSw; (try dsimp only at hSw); go_simp; try with_reducible rfl)
  simp only [Act.put, lay9]
  refine tk 1 (v := ?_) rfl ?_ hHeld ?_
  rotate_left
  · (intro w' hSw; (try dsimp only at hSw); go_simp; try with_reducible rfl)
  simp only [Act.put, lay9]
  refine tk 2 (v := ?_) rfl ?_ hHeld ?_
  rotate_left
  · (intro w' hSw; (try dsimp only at hSw); go_simp; try with_reducible rfl)
  simp only [Act.put, lay9]
  refine tk 3 (v := ?_) rfl ?_ hHeld ?_
  rotate_left
  · (intro w' hSw; (try dsimp only at hSw); go_simp; try with_reducible rfl)
  simp only [Act.put, lay9]
  refine tk 4 (v := ?_) rfl ?_ hHeld ?_
  rotate_left
  · (intro w' hSw; (try dsimp only at hSw); go_simp; try with_reducible rfl)
  simp only [Act.put, lay9]
  refine tk 5 (v := ?_) rfl ?_ hHeld ?_
  rotate_left
  · (intro w' hSw; (try dsimp only at hSw); go_simp; try with_reducible rfl)
  simp only [Act.put, lay9]
  refine tk 7 (v := ?_) rfl ?_ hHeld ?_
  rotate_left
  · (intro w' hSw; (try dsimp only at hSw); go_simp; try with_reducible rfl)
  simp only [Act.put, lay9]
  refine tk 8 (v := ?_) rfl ?_ hHeld ?_
  rotate_left
  · (intro w' hSw; (try dsimp only at hSw); go_simp; try with_reducible rfl)
  simp only [Act.put, lay9]
  refine tk 9 (v := ?_) rfl ?_ hHeld ?_
  rotate_left
  · (intro w' hSw; (try dsimp only at hSw); go_simp; try with_reducible rfl)
  simp only [Act.put, lay9]
  refine tk 10 (v := ?_) rfl ?_ hHeld ?_
  rotate_left
  · (intro w' hSw; (try dsimp only at hSw); go_simp; try with_reducible rfl)
  simp only [Act.put, lay9]
  refine tk 11 (v := ?_) rfl ?_ hHeld ?_
  rotate_left
  · (intro w' hSw; (try dsimp only at hSw); go_simp; try with_reducible rfl)
  simp only [Act.put, lay9]
  refine tk 14 (v := ?_) rfl ?_ hHeld ?_
  rotate_left
  · (intro w' hSw; (try dsimp only at hSw); go_simp; try with_reducible rfl)
  simp only [Act.put, lay9]
  refine wpAnyH_ready (rs := [6]) (by kernel_rfl) (by simp) (AllReadyH.cons rfl (fun K hK => ?_) AllReadyH.nil)
  go_simp
  refine hK.out _ _ hHeld (fun hHeld => ?_)
  clear hK K
  (try simp only [Act.put, lay9])
  refine tk 12 (v := ?_) rfl ?_ hHeld ?_
  rotate_left
  · (intro w' hSw; (try dsimp only at hSw); go_simp; try with_reducible rfl)
  simp only [Act.put, lay9]
  refine still_take (i := 13) (v := (.int .u32 ((Pl.rotl (p8 ^^^ o8) 25) : Int))) rfl (by kernel_rfl) (fun _ _ _ h => h) _ _ _ _ (by kernel_rfl) (by kernel_rfl) ⟨by rfl, _, _, fun w' hSw => ⟨?_, (rot_25 _ w' (Pl.xor_lt l1 l2))⟩⟩ hHeld ?_
  · (try dsimp only at hSw); go_simp; try with_reducible rfl
  simp only [Act.put, lay9]
  refine tk 15 (v := ?_) rfl ?_ hHeld ?_
  rotate_left
  · (intro w' hSw; (try dsimp only at hSw); go_simp; try with_reducible rfl)
  simp only [Act.put, lay9]
  refine wpAnyH_ready (rs := [16]) (by kernel_rfl) (by simp) (AllReadyH.cons rfl (fun K hK => ?_) AllReadyH.nil)
  go_simp
  have hs8 : (W7.setCell ⟨B, b, none⟩ (.int .u32 ((Pl.rotl (p8 ^^^ o8) 25) : Int))).drew.heap[B]? = some (.cells (u32s (Pl.mixX V7 b c 25)).toArray 190 (0, 0)) := by
    have := u32s_store hB7 b (Pl.rotl (p8 ^^^ o8) 25)
    unfold Pl.mixX
    rw [hp8, ho8, (rfl : ((Pl.rotl (p8 ^^^ o8) 25) : Int) = (((Pl.rotl (p8 ^^^ o8) 25) : Nat) : Int))]
    exact this
  have hg8 : w.grownBy (W7.setCell ⟨B, b, none⟩ (.int .u32 ((Pl.rotl (p8 ^^^ o8) 25) : Int))).drew (some B) := hg7.trans (grown_drew (grown_set _ _ _ _))
  have hk8 : (W7.setCell ⟨B, b, none⟩ (.int .u32 ((Pl.rotl (p8 ^^^ o8) 25) : Int))).drew.cell? ⟨B, c, none⟩ = some (.int .u32 (o8 : Int)) := by
    rw [u32s_cell hs8 c (by rw [Pl.mixX_len]; omega)]
    unfold Pl.mixX
    rw [getD_set_ne' _ hbc, ho8]
  refine hK.out _ _ hk8 (fun hHeld => ?_)
  clear hK K
  (try simp only [Act.put, lay9])
  refine wpAnyH_done (by kernel_rfl) ?_ _
  obtain ⟨W8, hW8⟩ : ∃ W, (W7.setCell ⟨B, b, none⟩ (.int .u32 ((Pl.rotl (p8 ^^^ o8) 25) : Int))).drew = W := ⟨_, rfl⟩
  rw [hW8] at hs8 hg8 ⊢
  obtain ⟨V8, hv8⟩ : ∃ z, Pl.mixX V7 b c 25 = z := ⟨_, rfl⟩
  have hV8 : V8.length = 16 := by rw [← hv8, Pl.mixX_len]; exact hV7
  have hA8 : Pl.All32 V8 := by rw [← hv8]; exact Pl.mixX_all hA7 _ _ _
  rw [hv8] at hs8
  have hB8 := hs8
  clear hW8 hk8 hHeld q1 q2 q3 l1 l2 hp8 ho8 hs8 ex
  go_wp2_with fail
  refine bodyPost_end (results_none rfl _ _ _) rfl ?_
  refine ⟨rfl, ?_, hg8⟩
  have e8 : Pl.mixL V a b c d x y = V8 := by
    unfold Pl.mixL
    rw [hv1, hv2, hv3, hv4, hv5, hv6, hv7, hv8]
  rw [e8]; exact hB8
end Go.Proofs.YtdnebgilkfafhaaGreatDoor
namespace Go.Proofs.YtdnebgilkfafhaaGreatDoor
open Go.RowKit
set_option linter.unusedVariables false
set_option linter.unusedSimpArgs false
def u8s (b : List UInt8) : List Value := b.map fun c => Value.int .u8 (c.toNat : Int)
theorem u8s_len (b : List UInt8) : (u8s b).length = b.length := by simp [u8s]
theorem u8s_get (b : List UInt8) (i : Nat) (h : i < b.length) : (u8s b)[i]? = some (.int .u8 ((b.getD i 0).toNat : Int)) := by
  simp [u8s, List.getD_eq_getElem?_getD, List.getElem?_eq_getElem h]
theorem u8s_set (b : List UInt8) (i : Nat) (x : UInt8) : (u8s b).set i (.int .u8 (x.toNat : Int)) = u8s (b.set i x) := by simp [u8s, List.map_set]
theorem u32s_one (V : List Nat) : ∀ v ∈ u32s V, v.oneCell' = true := by
  intro v hv
  simp only [u32s, List.mem_map] at hv
  obtain ⟨_, _, rfl⟩ := hv; rfl
theorem u8s_one (V : List UInt8) : ∀ v ∈ u8s V, v.oneCell' = true := by
  intro v hv
  simp only [u8s, List.mem_map] at hv
  obtain ⟨_, _, rfl⟩ := hv; rfl
/-- The cells of a digest that is being made. -/
def stL (h : List Nat) (b : List UInt8) (f t : Nat) : List Value := u32s h ++ (u8s b ++ [.int .i64 (f : Int), .int .u64 (t : Int)])
structure StBox (W : World) (S : Nat) (h : List Nat) (b : List UInt8) (f t : Nat) : Prop where
  at_ : W.heap[S]? = some (.cells (stL h b f t).toArray 125 (0, 0))
  hl : h.length = 8
  bl : b.length = 64
section
variable {W W' : World} {S : Nat} {h : List Nat} {b : List UInt8} {f t : Nat}
theorem StBox.lt (H : StBox W S h b f t) : S < W.heap.size := blk_lt H.at_
theorem StBox.kept (H : StBox W S h b f t) {r : Option Nat} (hg : W.grownBy W' r) (hr : some S ≠ r) : StBox W' S h b f t := ⟨(hg.block _ H.lt hr).trans H.at_, H.hl, H.bl⟩
theorem StBox.below (H : StBox W S h b f t) (hb : Below W.heap.size W W') : StBox W' S h b f t := ⟨(hb.block _ H.lt).trans H.at_, H.hl, H.bl⟩
theorem StBox.ch (H : StBox W S h b f t) (i : Nat) (hi : i < 8) : W.cell? ⟨S, i, none⟩ = some (.int .u32 ((h.getD i 0 : Nat) : Int)) := by
  rw [cell_row W S i _ _ H.at_]
  have hl := H.hl
  simp only [List.getElem?_toArray, stL]
  rw [List.getElem?_append_left (by rw [u32s_len]; omega), u32s_get h i (by omega)]
theorem StBox.cb (H : StBox W S h b f t) (i : Nat) (hi : i < 64) : W.cell? ⟨S, 8 + i, none⟩ = some (.int .u8 ((b.getD i 0).toNat : Int)) := by
  rw [cell_row W S _ _ _ H.at_]
  have hl := H.hl
  have bl := H.bl
  simp only [List.getElem?_toArray, stL]
  rw [List.getElem?_append_right (by rw [u32s_len]; omega), u32s_len, hl, List.getElem?_append_left (by rw [u8s_len]; omega), show 8 + i - 8 = i by omega, u8s_get b i (by omega)]
theorem StBox.cf (H : StBox W S h b f t) : W.cell? ⟨S, 72, none⟩ = some (.int .i64 (f : Int)) := by
  rw [cell_row W S _ _ _ H.at_]
  have hl := H.hl
  have bl := H.bl
  simp only [List.getElem?_toArray, stL]
  rw [List.getElem?_append_right (by rw [u32s_len]; omega), u32s_len, hl, List.getElem?_append_right (by rw [u8s_len]; omega), u8s_len, bl]; rfl
theorem StBox.ct (H : StBox W S h b f t) : W.cell? ⟨S, 73, none⟩ = some (.int .u64 (t : Int)) := by
  rw [cell_row W S _ _ _ H.at_]
  have hl := H.hl
  have bl := H.bl
  simp only [List.getElem?_toArray, stL]
  rw [List.getElem?_append_right (by rw [u32s_len]; omega), u32s_len, hl, List.getElem?_append_right (by rw [u8s_len]; omega), u8s_len, bl]; rfl
theorem StBox.set_h (H : StBox W S h b f t) (i x : Nat) (hi : i < 8) : StBox (W.setCell ⟨S, i, none⟩ (.int .u32 (x : Int))) S (h.set i x) b f t := by
  refine ⟨?_, by rw [List.length_set]; exact H.hl, H.bl⟩
  rw [set_at W S i _ _ _ H.at_, List.setIfInBounds_toArray]
  have hl := H.hl
  unfold stL
  rw [List.set_append_left _ _ (by rw [u32s_len]; omega), u32s_set]
theorem StBox.set_f (H : StBox W S h b f t) (x : Nat) : StBox (W.setCell ⟨S, 72, none⟩ (.int .i64 (x : Int))) S h b x t := by
  refine ⟨?_, H.hl, H.bl⟩
  rw [set_at W S _ _ _ _ H.at_, List.setIfInBounds_toArray]
  have hl := H.hl
  have bl := H.bl
  unfold stL
  rw [List.set_append_right _ _ (by rw [u32s_len]; omega), List.set_append_right _ _ (by rw [u8s_len, u32s_len]; omega), u32s_len, u8s_len, hl, bl]; rfl
theorem StBox.set_t (H : StBox W S h b f t) (x : Nat) : StBox (W.setCell ⟨S, 73, none⟩ (.int .u64 (x : Int))) S h b f x := by
  refine ⟨?_, H.hl, H.bl⟩
  rw [set_at W S _ _ _ _ H.at_, List.setIfInBounds_toArray]
  have hl := H.hl
  have bl := H.bl
  unfold stL
  rw [List.set_append_right _ _ (by rw [u32s_len]; omega), List.set_append_right _ _ (by rw [u8s_len, u32s_len]; omega), u32s_len, u8s_len, hl, bl]; rfl
theorem StBox.froz (H : StBox W S h b f t) (i : Nat) : W.frozen? ⟨S, i, none⟩ = false := frozen_of W S i _ _ H.at_
end
/-- Four bytes as a number: what the walk finds. -/
theorem or_le4 (c0 c1 c2 c3 : Nat) (h0 : c0 < 256) (h1 : c1 < 256) (h2 : c2 < 256) (h3 : c3 < 256) :
    bits .or .u32 (bits .or .u32 (bits .or .u32 (c0 : Int) ((c1 : Int) * 256)) ((c2 : Int) * 65536)) ((c3 : Int) * 16777216) = ((c0 + 256 * c1 + 65536 * c2 + 16777216 * c3 : Nat) : Int) := by
  have e1 : (c1 : Int) * 256 = ((c1 * 256 : Nat) : Int) := by omega
  have e2 : (c2 : Int) * 65536 = ((c2 * 65536 : Nat) : Int) := by omega
  have e3 : (c3 : Int) * 16777216 = ((c3 * 16777216 : Nat) : Int) := by omega
  have k1 : c0 ||| c1 * 256 = c1 * 256 + c0 := by rw [Nat.or_comm]; exact Go.nat_join 8 _ _ (by omega) (by omega)
  have k2 : (c1 * 256 + c0) ||| c2 * 65536 = c2 * 65536 + (c1 * 256 + c0) := by rw [Nat.or_comm]; exact Go.nat_join 16 _ _ (by omega) (by omega)
  have k3 : (c2 * 65536 + (c1 * 256 + c0)) ||| c3 * 16777216 = c3 * 16777216 + (c2 * 65536 + (c1 * 256 + c0)) := by rw [Nat.or_comm]; exact Go.nat_join 24 _ _ (by omega) (by omega)
  rw [e1, e2, e3, Go.u32_or_nat _ _ (by omega) (by omega), k1, Go.u32_or_nat _ _ (by omega) (by omega), k2, Go.u32_or_nat _ _ (by omega) (by omega), k3]
  congr 1; omega
/-- The first numbers of a block, the others as they were made. -/
def partW (b : List UInt8) (j : Nat) : List Nat := (Pl.words16 b).take j ++ List.replicate (16 - j) 0
theorem words16_len (b : List UInt8) : (Pl.words16 b).length = 16 := by simp [Pl.words16]
theorem partW_len (b : List UInt8) (j : Nat) (hj : j ≤ 16) : (partW b j).length = 16 := by unfold partW; rw [List.length_append, List.length_take, words16_len, List.length_replicate]; omega
theorem partW_16 (b : List UInt8) : partW b 16 = Pl.words16 b := by unfold partW; rw [List.take_of_length_le (by rw [words16_len]; exact Nat.le_refl _)]; simp
theorem partW_step (b : List UInt8) (j : Nat) (hj : j < 16) : (partW b j).set j (Pl.le4 b (4 * j)) = partW b (j + 1) := by
  unfold partW
  have hl : ((Pl.words16 b).take j).length = j := by rw [List.length_take, words16_len]; omega
  rw [List.set_append_right _ _ (by omega), hl, Nat.sub_self, show 16 - j = (16 - (j + 1)) + 1 by omega, List.replicate_succ, List.set_cons_zero]
  have hg : (Pl.words16 b)[j]'(by rw [words16_len]; exact hj) = Pl.le4 b (4 * j) := by simp [Pl.words16]
  rw [List.take_add_one, List.getElem?_eq_getElem (by rw [words16_len]; exact hj), hg]
  simp
/-- Four bytes of a block. -/
structure Four (W : World) (S q : Nat) (c0 c1 c2 c3 : Nat) : Prop where
  c0 : W.cell? ⟨S, 8 + q, none⟩ = some (.int .u8 (c0 : Int))
  c1 : W.cell? ⟨S, 8 + (q + 1), none⟩ = some (.int .u8 (c1 : Int))
  c2 : W.cell? ⟨S, 8 + (q + 2), none⟩ = some (.int .u8 (c2 : Int))
  c3 : W.cell? ⟨S, 8 + (q + 3), none⟩ = some (.int .u8 (c3 : Int))
theorem Four.kept {W W' : World} {S q c0 c1 c2 c3 : Nat} (h : Four W S q c0 c1 c2 c3) {r : Option Nat} (hg : W.grownBy W' r) (hr : some S ≠ r) : Four W' S q c0 c1 c2 c3 :=
  ⟨hg.cell h.c0 hr, hg.cell h.c1 hr, hg.cell h.c2 hr, hg.cell h.c3 hr⟩
theorem rangeL {w : World} {B : Nat} {C : List Value} {t : TypeId} (h : w.heap[B]? = some (.cells C.toArray t (0, 0))) : w.rangeAt B 0 C := fun j v hv => by
  rw [cell_row w B (0 + j) C.toArray t h]; simpa using hv
theorem thereL {w : World} {B n : Nat} {C : Array Value} {t : TypeId} (h : w.heap[B]? = some (.cells C t (0, 0))) (hn : n ≤ C.size) : w.there B 0 n := fun j hj =>
  ⟨by rw [cell_row w B (0 + j) C t h, Array.getElem?_eq_getElem (by omega)]; rfl, frozen_of w B _ C t h⟩
/-- An array's number, by its place. -/
theorem index8 (V : List Nat) (hV : V.length = 8) (k : Nat) (hk : k < 8) (w : World) : (Instr.index 90 (.agg (u32s V).toArray) (.int .i64 (k : Int))).run Tryz.prog w = .ok (.int .u32 ((V.getD k 0 : Nat) : Int)) w := by
  have h2 := u32s_get V k (by omega)
  simp only [Instr.index, asIntOf, Sem.run_bind, Sem.run_pure, Result.andThen_ok, run_underlying Tryz.underlying90]
  rw [if_pos (by omega)]
  simp [part, Sem.run_bind, Tryz.sizeOf89, Tryz.isAgg89, h2]
theorem index16 (V : List Nat) (hV : V.length = 16) (k : Nat) (hk : k < 16) (w : World) : (Instr.index 190 (.agg (u32s V).toArray) (.int .i64 (k : Int))).run Tryz.prog w = .ok (.int .u32 ((V.getD k 0 : Nat) : Int)) w := by
  have h2 := u32s_get V k (by omega)
  simp only [Instr.index, asIntOf, Sem.run_bind, Sem.run_pure, Result.andThen_ok, run_underlying Tryz.underlying190]
  rw [if_pos (by omega)]
  simp [part, Sem.run_bind, Tryz.sizeOf89, Tryz.isAgg89, h2]
theorem info_8 : (Tryz.prog.info? 90).map (·.size) = some 8 := by kernel_rfl
theorem info_10 : (Tryz.prog.info? 214).map (·.size) = some 160 := by kernel_rfl
theorem info_16b : (Tryz.prog.info? 213).map (·.size) = some 16 := by kernel_rfl
theorem info_16 : (Tryz.prog.info? 190).map (·.size) = some 16 := by kernel_rfl
/-- The order's rows as numbers of eight bits. -/
def rowU (k : Nat) : List UInt8 := (Pl.rowsB.getD k []).map UInt8.ofNat
def rowsU : List UInt8 := (Pl.rowsB.map fun r => r.map UInt8.ofNat).flatten
theorem index_rows (k : Nat) (hk : k < 10) (w : World) : (Instr.index 214 (.agg (u8s rowsU).toArray) (.int .i64 (k : Int))).run Tryz.prog w = .ok (.agg (u8s (rowU k)).toArray) w := by
  simp only [Instr.index, asIntOf, Sem.run_bind, Sem.run_pure, Result.andThen_ok, run_underlying Tryz.underlying214]
  rw [if_pos (by omega)]
  simp [part, Sem.run_bind, Tryz.sizeOf213, Tryz.isAgg213]
  have key : ∀ k, k < 10 → (rowsU.drop (k * 16)).take 16 = rowU k := by decide
  rw [← key k hk]
  simp [u8s, List.map_drop, List.map_take]
/-- What a package variable holds, whatever its block's marks are. -/
def GlobC (W : World) (g : Nat) (C : List Value) : Prop := ∃ t fz, W.heap[g]? = some (.cells C.toArray t fz)
theorem GlobC.lt {W : World} {g : Nat} {C : List Value} (h : GlobC W g C) : g < W.heap.size := by obtain ⟨t, fz, h⟩ := h; exact blk_lt h
theorem GlobC.grown {W W' : World} {g : Nat} {C : List Value} (h : GlobC W g C) {r : Option Nat} (hg : W.grownBy W' r) (hr : some g ≠ r) : GlobC W' g C := by
  obtain ⟨t, fz, h⟩ := h; exact ⟨t, fz, (hg.block _ (blk_lt h) hr).trans h⟩
theorem GlobC.range {W : World} {g : Nat} {C : List Value} (h : GlobC W g C) : W.rangeAt g 0 C := fun j v hv => by
  obtain ⟨t, fz, h⟩ := h
  rw [cell_of_row W g (0 + j) _ t fz h]; simpa using hv
theorem GlobC.ne {W : World} {g S : Nat} {C : List Value} {D : Array Value} {t : TypeId} {fz : Nat × Nat} (h : GlobC W g C) (h2 : W.heap[S]? = some (.cells D t fz)) (hl : C.length ≠ D.size) : g ≠ S := by
  rintro rfl
  obtain ⟨t', fz', h⟩ := h
  have := h.symm.trans h2
  cases this
  exact hl (by simp)
/-- The package variables of hash. -/
structure VHash (W : World) : Prop where
  e : GlobC W 0 (u32s Pl.eight)
  r : GlobC W 1 (u8s rowsU)
theorem VHash.grown {w w' : World} (h : VHash w) {r : Option Nat} (hg : w.grownBy w' r) (h0 : some 0 ≠ r) (h1 : some 1 ≠ r) : VHash w' := ⟨h.e.grown hg h0, h.r.grown hg h1⟩
theorem VHash.below {w w' : World} (h : VHash w) (hb : Below w.heap.size w w') : VHash w' := h.grown (r := none) ⟨hb.os, hb.tape, hb.output, hb.size, fun k hk _ => hb.block k hk⟩ (by simp) (by simp)
/-- A block of another length is neither of them. -/
theorem VHash.beside {w w' : World} (h : VHash w) {S : Nat} {D : Array Value} {t : TypeId} {fz : Nat × Nat} (h2 : w.heap[S]? = some (.cells D t fz)) (h8 : D.size ≠ 8) (h16 : D.size ≠ 160) (hg : w.grownBy w' (some S)) : VHash w' :=
  h.grown hg (by simpa using h.e.ne h2 (by rw [u32s_len]; exact fun e => h8 e.symm)) (by simpa using h.r.ne h2 (by rw [u8s_len]; exact fun e => h16 e.symm))
/-- A block being taken in: its numbers (box M), the sixteen (box B); all that was there is as it was. -/
structure TK (w W : World) (M B : Nat) (m V : List Nat) : Prop where
  m : W.heap[M]? = some (.cells (u32s m).toArray 190 (0, 0))
  v : W.heap[B]? = some (.cells (u32s V).toArray 190 (0, 0))
  bel : Below w.heap.size w W
section
variable {w W W' : World} {M B : Nat} {m V V' : List Nat}
theorem TK.drew (h : TK w W M B m V) : TK w W.drew M B m V := ⟨h.m, h.v, h.bel.drew⟩
theorem TK.step (h : TK w W M B m V) (hM : w.heap.size ≤ M) (hMB : M < B) (hg : W.grownBy W' (some B)) (hv : W'.heap[B]? = some (.cells (u32s V').toArray 190 (0, 0))) : TK w W' M B m V' :=
  ⟨(hg.block _ (blk_lt h.m) (by simp; omega)).trans h.m, hv, ⟨hg.os.trans h.bel.os, hg.tape.trans h.bel.tape, hg.output.trans h.bel.output, Nat.le_trans h.bel.size hg.size, fun k hk => (hg.block k (Nat.lt_of_lt_of_le hk h.bel.size) (by simp; omega)).trans (h.bel.block k hk)⟩⟩
theorem TK.set (h : TK w W M B m V) (hM : w.heap.size ≤ M) (hMB : M < B) (i x : Nat) : TK w (W.setCell ⟨B, i, none⟩ (.int .u32 (x : Int))) M B m (V.set i x) := h.step hM hMB (grown_set _ _ _ _) (u32s_store h.v i x)
theorem TK.alloc (h : TK w W M B m V) (o : Obj) : TK w (W.alloc o) M B m V := ⟨(Below.heap_alloc _ _ _ (blk_lt h.m)).trans h.m, (Below.heap_alloc _ _ _ (blk_lt h.v)).trans h.v, h.bel.alloc h.bel.size o⟩
end
/-- The sixteen numbers, behind j of eight. -/
def partV (h : List Nat) (j : Nat) : List Nat := h ++ (Pl.eight.take j ++ List.replicate (8 - j) 0)
theorem partV_len (h : List Nat) (hh : h.length = 8) (j : Nat) (hj : j ≤ 8) : (partV h j).length = 16 := by unfold partV; simp only [List.length_append, List.length_take, List.length_replicate]; rw [hh, show Pl.eight.length = 8 from rfl]; omega
theorem partV_8 (h : List Nat) : partV h 8 = h ++ Pl.eight := by unfold partV; rfl
theorem partV_step (h : List Nat) (hh : h.length = 8) (j : Nat) (hj : j < 8) : (partV h j).set (8 + j) (Pl.eight.getD j 0) = partV h (j + 1) := by
  unfold partV
  have hl : (Pl.eight.take j).length = j := by rw [List.length_take, show Pl.eight.length = 8 from rfl]; omega
  rw [List.set_append_right _ _ (by omega), hh, Nat.add_sub_cancel_left, List.set_append_right _ _ (by omega), hl, Nat.sub_self, show 8 - j = (8 - (j + 1)) + 1 by omega, List.replicate_succ, List.set_cons_zero, List.take_add_one]
  rw [List.getElem?_eq_getElem (show j < Pl.eight.length from hj), List.getD_eq_getElem?_getD, List.getElem?_eq_getElem (show j < Pl.eight.length from hj)]
  simp only [Option.toList_some, List.append_assoc, List.singleton_append, Option.getD_some]
end Go.Proofs.YtdnebgilkfafhaaGreatDoor
