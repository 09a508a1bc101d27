/- The walks of the document's digest (layer 2): place, turned. -/
import Derived.Test.YtdnebgilkfafhaaGreatDoorHashK
import Derived.Test.YtdnebgilkfafhaaGreatDoorHeldL
import Derived.Test.YtdnebgilkfafhaaGreatDoorSpMem
namespace Go.Proofs.YtdnebgilkfafhaaGreatDoor
open Go.RowKit
set_option linter.unusedVariables false
set_option linter.unusedSimpArgs false
attribute [local go_sem] ba_get ba_cut ba_add
theorem turned_any (x s : Nat) (w : World) (hx : x < 4294967296) (h0 : 0 < s) (h1 : s < 32) :
    Calls Tryz.prog 158 #[.int .u32 (x : Int), .int .u64 (s : Int)] w (Ret (.int .u32 (Pl.rotl x (32 - s) : Int)) w) := by
  have hs0 : (0 : Int) ≤ (s : Int) := by omega
  have hs1 : (s : Int) < 32 := by omega
  go_enter Tryz.func158, Tryz.ntmps158
  go_wp2_with fail
  go_ret
  refine ⟨?_, rfl⟩
  have e1 : (x : Int) / 2 ^ s = ((x / 2 ^ s : Nat) : Int) := by rw [Int.natCast_ediv, Int.natCast_pow]; rfl
  have e2 : (x : Int) * 2 ^ (32 - s) % 4294967296 = ((x * 2 ^ (32 - s) % 4294967296 : Nat) : Int) := by rw [Int.natCast_emod, Int.natCast_mul, Int.natCast_pow]; rfl
  rw [e1, e2, Go.u32_or_nat _ _ (Nat.lt_of_le_of_lt (Nat.div_le_self _ _) hx) (Nat.mod_lt _ (by decide)), Nat.or_comm]
  unfold Pl.rotl
  rw [show 32 - (32 - s) = s by omega]
  rfl
def placeN (c : UInt8) : Nat := if 97 ≤ c.toNat then c.toNat - 87 else c.toNat - 48
theorem place_any (c : UInt8) (w : World) (h : 48 ≤ c.toNat) : Calls Tryz.prog 118 #[.int .u8 (c.toNat : Int)] w (Ret (.int .i64 (placeN c : Int)) w) := by
  have hc := c.toNat_lt
  unfold placeN
  by_cases h9 : 97 ≤ c.toNat
  · rw [if_pos h9]
    have e : (((c.toNat - 87 : Nat)) : Int) = (c.toNat : Int) - 97 + 10 := by omega
    have g1 : decide ((97 : Int) ≤ (c.toNat : Int)) = true := by simp; omega
    have g2 : decide (97 ≤ c.toNat) = true := decide_eq_true h9
    rw [e]
    clear e
    go_enter Tryz.func118, Tryz.ntmps118
    go_wp2_with fail
    go_ret
    exact ⟨rfl, rfl⟩
  · rw [if_neg h9]
    have e : (((c.toNat - 48 : Nat)) : Int) = (c.toNat : Int) - 48 := by omega
    have g1 : decide ((97 : Int) ≤ (c.toNat : Int)) = false := by simp; omega
    have g2 : decide (97 ≤ c.toNat) = false := decide_eq_false h9
    rw [e]
    clear e
    go_enter Tryz.func118, Tryz.ntmps118
    go_wp2_with fail
    go_ret
    exact ⟨rfl, rfl⟩
theorem add_two' (a b c : Nat) : IntKind.u32.wrap (IntKind.u32.wrap ((a : Int) + (b : Int)) + (c : Int)) = ((Pl.add32 a (Pl.add32 b c) : Nat) : Int) := by
  rw [IntKind.wrap_u32, IntKind.wrap_u32]; unfold Pl.add32; omega
theorem results_rowS {fn : Func} {tmps : Array Value} {w : World} {a B : Nat} {T : TypeId} {cs : List Value} {d : TypeDesc} (hf : fn.results = #[.cell a T]) (ha : tmps[a]?.getD undef = .pointer (some ⟨B, 0, none⟩)) (hc : w.rangeAt B 0 cs) (hu : Tryz.prog.underlying T = some d) (hd : d.isRow = true) (hi : (Tryz.prog.info? T).map (·.size) = some cs.length) :
    (results fn tmps).run Tryz.prog w = .ok (.agg cs.toArray) w := by
  have h := run_loadVar_mid (P := Tryz.prog) w B 0 T cs _ hc hu hd hi
  simp [results, hf, ha, asAddr, h, Sem.run_bind]
set_option maxRecDepth 100000 in
set_option maxHeartbeats 8000000 in
theorem rmix_any (V : List Nat) (hV : V.length = 16) (hA : Pl.All32 V) (a b c d x y : Nat) (ha : a < 16) (hb : b < 16) (hc : c < 16) (hd : d < 16) (w : World) :
    Calls Tryz.prog 119 #[.agg (u32s V).toArray, .int .i64 (a : Int), .int .i64 (b : Int), .int .i64 (c : Int), .int .i64 (d : Int), .int .u32 (x : Int), .int .u32 (y : Int)] w
      (RetB (fun v _ => v = .agg (u32s (Pl.mixL V a b c d x y)).toArray) w) := by
  obtain ⟨N, hN⟩ : ∃ N, w.heap.size = N := ⟨_, rfl⟩
  have a0 : (0 : Int) ≤ (a : Int) := by omega
  have b0 : (0 : Int) ≤ (b : Int) := by omega
  have c0 : (0 : Int) ≤ (c : Int) := by omega
  have d0 : (0 : Int) ≤ (d : Int) := by omega
  have a1 : ((a : Int) < 16) = True := eq_true (by omega)
  have b1 : ((b : Int) < 16) = True := eq_true (by omega)
  have c1 : ((c : Int) < 16) = True := eq_true (by omega)
  have d1 : ((d : Int) < 16) = True := eq_true (by omega)
  have HV := Lib.hid (show Pl.mixX (Pl.mixS (Pl.mixX (Pl.mixA (Pl.mixX (Pl.mixS (Pl.mixX (Pl.mixA V a b x) d a 16) c d) b c 20) a b y) d a 24) c d) b c 25 = Pl.mixL V a b c d x y from rfl)
  obtain ⟨R, hR⟩ : ∃ R, Pl.mixL V a b c d x y = R := ⟨_, rfl⟩
  rw [hR] at HV ⊢
  clear hR
  go_enter Tryz.func119, Tryz.ntmps119
  go_upto_region 1 with (fail)
  generalize hW : World.alloc (World.alloc w _) _ = W0
  have hb0 : Below N w W0 := by rw [← hW]; exact ((Below.refl _ _).alloc (by omega) _).alloc (by simp; omega) _
  have hB0 : W0.heap[N]? = some (.cells (u32s V).toArray 190 (0, 0)) := by
    rw [← hW, ← hN]
    exact (Below.heap_alloc _ _ _ (by simp)).trans (heap_alloc_new w _)
  have hr0 : ∃ Z : Array Value, Z.size = 16 ∧ W0.heap[N + 1]? = some (.cells Z 190 (0, 0)) := by
    refine ⟨#[.int .u32 0, .int .u32 0, .int .u32 0, .int .u32 0, .int .u32 0, .int .u32 0, .int .u32 0, .int .u32 0, .int .u32 0, .int .u32 0, .int .u32 0, .int .u32 0, .int .u32 0, .int .u32 0, .int .u32 0, .int .u32 0], rfl, ?_⟩
    rw [← hW]
    have h := heap_alloc_new (w.alloc (.cells (u32s V).toArray 190)) (.cells #[.int .u32 0, .int .u32 0, .int .u32 0, .int .u32 0, .int .u32 0, .int .u32 0, .int .u32 0, .int .u32 0, .int .u32 0, .int .u32 0, .int .u32 0, .int .u32 0, .int .u32 0, .int .u32 0, .int .u32 0, .int .u32 0] 190)
    rw [show (w.alloc (.cells (u32s V).toArray 190)).heap.size = N + 1 by simp [hN]] at h
    exact h
  obtain ⟨Z, hZ, hr0⟩ := hr0
  try simp only [hN]
  clear hW
  have hA0 := hA
  have hV0 := hV
  obtain ⟨p, hp⟩ : ∃ z, V.getD a 0 = z := ⟨_, rfl⟩
  obtain ⟨q, hq⟩ : ∃ z, V.getD b 0 = z := ⟨_, rfl⟩
  have q1 := u32s_cell hB0 a (by omega)
  have q2 := u32s_cell hB0 b (by omega)
  have q3 := frozen_of W0 N a _ _ hB0
  rw [hp] at q1
  rw [hq] at q2
  have l1 : p < 4294967296 := by rw [← hp]; exact hA0 _
  have l2 : q < 4294967296 := by rw [← hq]; exact hA0 _
  refine wp_regionL 11 (fun w' => w'.cell? ⟨N, a, none⟩ = some (.int .u32 (p : Int)) ∧ w'.cell? ⟨N, b, none⟩ = some (.int .u32 (q : Int))) (by kernel_rfl) (by exact ⟨q1, q2⟩) (fun hHeld => ?_)
  refine tkL 0 (v := ?_) rfl ?_ hHeld ?_
  rotate_left
  · (intro w' hSw; (try dsimp only at hSw); obtain ⟨hS0, hS1⟩ := hSw; go_simp; try with_reducible rfl)
  simp only [Act.put, lay9]
  refine tkL 1 (v := ?_) rfl ?_ hHeld ?_
  rotate_left
  · (intro w' hSw; (try dsimp only at hSw); obtain ⟨hS0, hS1⟩ := hSw; go_simp; try with_reducible rfl)
  simp only [Act.put, lay9]
  refine tkL 2 (v := ?_) rfl ?_ hHeld ?_
  rotate_left
  · (intro w' hSw; (try dsimp only at hSw); obtain ⟨hS0, hS1⟩ := hSw; go_simp; try with_reducible rfl)
  simp only [Act.put, lay9]
  refine tkL 3 (v := ?_) rfl ?_ hHeld ?_
  rotate_left
  · (intro w' hSw; (try dsimp only at hSw); obtain ⟨hS0, hS1⟩ := hSw; go_simp; try with_reducible rfl)
  simp only [Act.put, lay9]
  refine tkL 4 (v := ?_) rfl ?_ hHeld ?_
  rotate_left
  · (intro w' hSw; (try dsimp only at hSw); obtain ⟨hS0, hS1⟩ := hSw; go_simp; try with_reducible rfl)
  simp only [Act.put, lay9]
  refine tkL 5 (v := ?_) rfl ?_ hHeld ?_
  rotate_left
  · (intro w' hSw; (try dsimp only at hSw); obtain ⟨hS0, hS1⟩ := hSw; go_simp; try with_reducible rfl)
  simp only [Act.put, lay9]
  refine tkL 6 (v := ?_) rfl ?_ hHeld ?_
  rotate_left
  · (intro w' hSw; (try dsimp only at hSw); obtain ⟨hS0, hS1⟩ := hSw; go_simp; try with_reducible rfl)
  simp only [Act.put, lay9]
  refine tkL 7 (v := ?_) rfl ?_ hHeld ?_
  rotate_left
  · (intro w' hSw; (try dsimp only at hSw); obtain ⟨hS0, hS1⟩ := hSw; go_simp; try with_reducible rfl)
  simp only [Act.put, lay9]
  refine tkL 8 (v := ?_) rfl ?_ hHeld ?_
  rotate_left
  · (intro w' hSw; (try dsimp only at hSw); obtain ⟨hS0, hS1⟩ := hSw; go_simp; try with_reducible rfl)
  simp only [Act.put, lay9]
  refine tkL 9 (v := ?_) rfl ?_ hHeld ?_
  rotate_left
  · (intro w' hSw; (try dsimp only at hSw); obtain ⟨hS0, hS1⟩ := hSw; go_simp; try with_reducible rfl)
  simp only [Act.put, lay9]
  refine tkL 10 (v := ?_) rfl ?_ hHeld ?_
  rotate_left
  · (intro w' hSw; (try dsimp only at hSw); obtain ⟨hS0, hS1⟩ := hSw; go_simp; try with_reducible rfl)
  simp only [Act.put, lay9]
  refine readyL (rs := [11]) (by kernel_rfl) (by simp) (ReadyL.last rfl (fun K hK => ?_))
  go_simp
  refine hK.out _ _ ?_
  clear hK K
  (try simp only [Act.put, lay9])
  refine doneL (by kernel_rfl) ?_ _
  generalize hW : World.drew (World.setCell _ _ _) = W1
  have hB1 : W1.heap[N]? = some (.cells (u32s (Pl.mixA V a b x)).toArray 190 (0, 0)) := by
    rw [← hW]
    have h := u32s_store hB0 a (Pl.add32 p (Pl.add32 q x))
    unfold Pl.mixA
    rw [hp, hq]
    rw [add_two' p q x]; exact h
  have hr1 : W1.heap[N + 1]? = some (.cells Z 190 (0, 0)) := by rw [← hW]; exact (Below.heap_setCell W0 _ _ _ (by show N + 1 ≠ N; omega)).trans hr0
  have hb1 : Below N w W1 := by rw [← hW]; exact (hb0.setCell (p := ⟨N, a, none⟩) (Nat.le_refl _) _).drew
  have hA1 := Pl.mixA_all hA0 a b x
  have hV1 : (Pl.mixA V a b x).length = 16 := by rw [Pl.mixA_len]; exact hV0
  obtain ⟨V1, hv⟩ : ∃ z, Pl.mixA V a b x = z := ⟨_, rfl⟩
  rw [hv] at hB1 hA1 hV1 HV
  clear hW hp hq q1 q2 q3 l1 l2 hv hB0 hA0 hV0 hr0 hb0
  obtain ⟨p, hp⟩ : ∃ z, V1.getD d 0 = z := ⟨_, rfl⟩
  obtain ⟨q, hq⟩ : ∃ z, V1.getD a 0 = z := ⟨_, rfl⟩
  have q1 := u32s_cell hB1 d (by omega)
  have q2 := u32s_cell hB1 a (by omega)
  have q3 := frozen_of W1 N d _ _ hB1
  rw [hp] at q1
  rw [hq] at q2
  have l1 : p < 4294967296 := by rw [← hp]; exact hA1 _
  have l2 : q < 4294967296 := by rw [← hq]; exact hA1 _
  go_wp2_with fail
  refine wp_regionL 10 (fun w' => w'.cell? ⟨N, d, none⟩ = some (.int .u32 (p : Int)) ∧ w'.cell? ⟨N, a, none⟩ = some (.int .u32 (q : Int))) (by kernel_rfl) (by exact ⟨q1, q2⟩) (fun hHeld => ?_)
  have ex : bits .xor .u32 (p : Int) (q : Int) = ((p ^^^ q : Nat) : Int) := Go.u32_xor_nat _ _ l1 l2
  refine tkL 0 (v := ?_) rfl ?_ hHeld ?_
  rotate_left
  · (intro w' hSw; (try dsimp only at hSw); obtain ⟨hS0, hS1⟩ := hSw; go_simp; try with_reducible rfl)
  simp only [Act.put, lay9]
  refine tkL 1 (v := ?_) rfl ?_ hHeld ?_
  rotate_left
  · (intro w' hSw; (try dsimp only at hSw); obtain ⟨hS0, hS1⟩ := hSw; go_simp; try with_reducible rfl)
  simp only [Act.put, lay9]
  refine tkL 2 (v := ?_) rfl ?_ hHeld ?_
  rotate_left
  · (intro w' hSw; (try dsimp only at hSw); obtain ⟨hS0, hS1⟩ := hSw; go_simp; try with_reducible rfl)
  simp only [Act.put, lay9]
  refine tkL 3 (v := ?_) rfl ?_ hHeld ?_
  rotate_left
  · (intro w' hSw; (try dsimp only at hSw); obtain ⟨hS0, hS1⟩ := hSw; go_simp; try with_reducible rfl)
  simp only [Act.put, lay9]
  refine tkL 4 (v := ?_) rfl ?_ hHeld ?_
  rotate_left
  · (intro w' hSw; (try dsimp only at hSw); obtain ⟨hS0, hS1⟩ := hSw; go_simp; try with_reducible rfl)
  simp only [Act.put, lay9]
  refine tkL 5 (v := ?_) rfl ?_ hHeld ?_
  rotate_left
  · (intro w' hSw; (try dsimp only at hSw); obtain ⟨hS0, hS1⟩ := hSw; go_simp; try with_reducible rfl)
  simp only [Act.put, lay9]
  refine tkL 6 (v := ?_) rfl ?_ hHeld ?_
  rotate_left
  · (intro w' hSw; (try dsimp only at hSw); obtain ⟨hS0, hS1⟩ := hSw; go_simp; try with_reducible rfl)
  simp only [Act.put, lay9]
  refine tkL 7 (v := ?_) rfl ?_ hHeld ?_
  rotate_left
  · (intro w' hSw; (try dsimp only at hSw); obtain ⟨hS0, hS1⟩ := hSw; go_simp; try with_reducible rfl)
  simp only [Act.put, lay9]
  refine stillL (i := 8) (v := (.int .u32 ((Pl.rotl (p ^^^ q) 16) : Int))) rfl (by kernel_rfl) (by kernel_rfl) (by kernel_rfl) (by kernel_rfl) (by kernel_rfl) (by decide) (fun _ _ _ h => h) ⟨by rfl, _, _, fun w' hSw => ⟨?_, (turned_any _ 16 w' (Pl.xor_lt l1 l2) (by decide) (by decide))⟩⟩ hHeld ?_
  · (try dsimp only at hSw); go_simp; try with_reducible rfl
  simp only [Act.put, lay9]
  refine tkL 9 (v := ?_) rfl ?_ hHeld ?_
  rotate_left
  · (intro w' hSw; (try dsimp only at hSw); obtain ⟨hS0, hS1⟩ := hSw; go_simp; try with_reducible rfl)
  simp only [Act.put, lay9]
  refine readyL (rs := [10]) (by kernel_rfl) (by simp) (ReadyL.last rfl (fun K hK => ?_))
  go_simp
  refine hK.out _ _ ?_
  clear hK K
  (try simp only [Act.put, lay9])
  refine doneL (by kernel_rfl) ?_ _
  generalize hW : World.drew (World.setCell _ _ _) = W2
  have hB2 : W2.heap[N]? = some (.cells (u32s (Pl.mixX V1 d a 16)).toArray 190 (0, 0)) := by
    rw [← hW]
    have h := u32s_store hB1 d (Pl.rotl (p ^^^ q) 16)
    unfold Pl.mixX
    rw [hp, hq]
    exact h
  have hr2 : W2.heap[N + 1]? = some (.cells Z 190 (0, 0)) := by rw [← hW]; exact (Below.heap_setCell W1 _ _ _ (by show N + 1 ≠ N; omega)).trans hr1
  have hb2 : Below N w W2 := by rw [← hW]; exact (hb1.setCell (p := ⟨N, d, none⟩) (Nat.le_refl _) _).drew
  have hA2 := Pl.mixX_all hA1 d a 16
  have hV2 : (Pl.mixX V1 d a 16).length = 16 := by rw [Pl.mixX_len]; exact hV1
  obtain ⟨V2, hv⟩ : ∃ z, Pl.mixX V1 d a 16 = z := ⟨_, rfl⟩
  rw [hv] at hB2 hA2 hV2 HV
  clear hW hp hq q1 q2 q3 l1 l2 hv hB1 hA1 hV1 hr1 hb1 ex
  obtain ⟨p, hp⟩ : ∃ z, V2.getD c 0 = z := ⟨_, rfl⟩
  obtain ⟨q, hq⟩ : ∃ z, V2.getD d 0 = z := ⟨_, rfl⟩
  have q1 := u32s_cell hB2 c (by omega)
  have q2 := u32s_cell hB2 d (by omega)
  have q3 := frozen_of W2 N c _ _ hB2
  rw [hp] at q1
  rw [hq] at q2
  have l1 : p < 4294967296 := by rw [← hp]; exact hA2 _
  have l2 : q < 4294967296 := by rw [← hq]; exact hA2 _
  go_wp2_with fail
  refine wp_regionL 9 (fun w' => w'.cell? ⟨N, c, none⟩ = some (.int .u32 (p : Int)) ∧ w'.cell? ⟨N, d, none⟩ = some (.int .u32 (q : Int))) (by kernel_rfl) (by exact ⟨q1, q2⟩) (fun hHeld => ?_)
  refine tkL 0 (v := ?_) rfl ?_ hHeld ?_
  rotate_left
  · (intro w' hSw; (try dsimp only at hSw); obtain ⟨hS0, hS1⟩ := hSw; go_simp; try with_reducible rfl)
  simp only [Act.put, lay9]
  refine tkL 1 (v := ?_) rfl ?_ hHeld ?_
  rotate_left
  · (intro w' hSw; (try dsimp only at hSw); obtain ⟨hS0, hS1⟩ := hSw; go_simp; try with_reducible rfl)
  simp only [Act.put, lay9]
  refine tkL 2 (v := ?_) rfl ?_ hHeld ?_
  rotate_left
  · (intro w' hSw; (try dsimp only at hSw); obtain ⟨hS0, hS1⟩ := hSw; go_simp; try with_reducible rfl)
  simp only [Act.put, lay9]
  refine tkL 3 (v := ?_) rfl ?_ hHeld ?_
  rotate_left
  · (intro w' hSw; (try dsimp only at hSw); obtain ⟨hS0, hS1⟩ := hSw; go_simp; try with_reducible rfl)
  simp only [Act.put, lay9]
  refine tkL 4 (v := ?_) rfl ?_ hHeld ?_
  rotate_left
  · (intro w' hSw; (try dsimp only at hSw); obtain ⟨hS0, hS1⟩ := hSw; go_simp; try with_reducible rfl)
  simp only [Act.put, lay9]
  refine tkL 5 (v := ?_) rfl ?_ hHeld ?_
  rotate_left
  · (intro w' hSw; (try dsimp only at hSw); obtain ⟨hS0, hS1⟩ := hSw; go_simp; try with_reducible rfl)
  simp only [Act.put, lay9]
  refine tkL 6 (v := ?_) rfl ?_ hHeld ?_
  rotate_left
  · (intro w' hSw; (try dsimp only at hSw); obtain ⟨hS0, hS1⟩ := hSw; go_simp; try with_reducible rfl)
  simp only [Act.put, lay9]
  refine tkL 7 (v := ?_) rfl ?_ hHeld ?_
  rotate_left
  · (intro w' hSw; (try dsimp only at hSw); obtain ⟨hS0, hS1⟩ := hSw; go_simp; try with_reducible rfl)
  simp only [Act.put, lay9]
  refine tkL 8 (v := ?_) rfl ?_ hHeld ?_
  rotate_left
  · (intro w' hSw; (try dsimp only at hSw); obtain ⟨hS0, hS1⟩ := hSw; go_simp; try with_reducible rfl)
  simp only [Act.put, lay9]
  refine readyL (rs := [9]) (by kernel_rfl) (by simp) (ReadyL.last rfl (fun K hK => ?_))
  go_simp
  refine hK.out _ _ ?_
  clear hK K
  (try simp only [Act.put, lay9])
  refine doneL (by kernel_rfl) ?_ _
  generalize hW : World.drew (World.setCell _ _ _) = W3
  have hB3 : W3.heap[N]? = some (.cells (u32s (Pl.mixS V2 c d)).toArray 190 (0, 0)) := by
    rw [← hW]
    have h := u32s_store hB2 c (Pl.add32 p q)
    unfold Pl.mixS
    rw [hp, hq]
    rw [add_one p q]; exact h
  have hr3 : W3.heap[N + 1]? = some (.cells Z 190 (0, 0)) := by rw [← hW]; exact (Below.heap_setCell W2 _ _ _ (by show N + 1 ≠ N; omega)).trans hr2
  have hb3 : Below N w W3 := by rw [← hW]; exact (hb2.setCell (p := ⟨N, c, none⟩) (Nat.le_refl _) _).drew
  have hA3 := Pl.mixS_all hA2 c d
  have hV3 : (Pl.mixS V2 c d).length = 16 := by rw [Pl.mixS_len]; exact hV2
  obtain ⟨V3, hv⟩ : ∃ z, Pl.mixS V2 c d = z := ⟨_, rfl⟩
  rw [hv] at hB3 hA3 hV3 HV
  clear hW hp hq q1 q2 q3 l1 l2 hv hB2 hA2 hV2 hr2 hb2
  obtain ⟨p, hp⟩ : ∃ z, V3.getD b 0 = z := ⟨_, rfl⟩
  obtain ⟨q, hq⟩ : ∃ z, V3.getD c 0 = z := ⟨_, rfl⟩
  have q1 := u32s_cell hB3 b (by omega)
  have q2 := u32s_cell hB3 c (by omega)
  have q3 := frozen_of W3 N b _ _ hB3
  rw [hp] at q1
  rw [hq] at q2
  have l1 : p < 4294967296 := by rw [← hp]; exact hA3 _
  have l2 : q < 4294967296 := by rw [← hq]; exact hA3 _
  go_wp2_with fail
  refine wp_regionL 10 (fun w' => w'.cell? ⟨N, b, none⟩ = some (.int .u32 (p : Int)) ∧ w'.cell? ⟨N, c, none⟩ = some (.int .u32 (q : Int))) (by kernel_rfl) (by exact ⟨q1, q2⟩) (fun hHeld => ?_)
  have ex : bits .xor .u32 (p : Int) (q : Int) = ((p ^^^ q : Nat) : Int) := Go.u32_xor_nat _ _ l1 l2
  refine tkL 0 (v := ?_) rfl ?_ hHeld ?_
  rotate_left
  · (intro w' hSw; (try dsimp only at hSw); obtain ⟨hS0, hS1⟩ := hSw; go_simp; try with_reducible rfl)
  simp only [Act.put, lay9]
  refine tkL 1 (v := ?_) rfl ?_ hHeld ?_
  rotate_left
  · (intro w' hSw; (try dsimp only at hSw); obtain ⟨hS0, hS1⟩ := hSw; go_simp; try with_reducible rfl)
  simp only [Act.put, lay9]
  refine tkL 2 (v := ?_) rfl ?_ hHeld ?_
  rotate_left
  · (intro w' hSw; (try dsimp only at hSw); obtain ⟨hS0, hS1⟩ := hSw; go_simp; try with_reducible rfl)
  simp only [Act.put, lay9]
  refine tkL 3 (v := ?_) rfl ?_ hHeld ?_
  rotate_left
  · (intro w' hSw; (try dsimp only at hSw); obtain ⟨hS0, hS1⟩ := hSw; go_simp; try with_reducible rfl)
  simp only [Act.put, lay9]
  refine tkL 4 (v := ?_) rfl ?_ hHeld ?_
  rotate_left
  · (intro w' hSw; (try dsimp only at hSw); obtain ⟨hS0, hS1⟩ := hSw; go_simp; try with_reducible rfl)
  simp only [Act.put, lay9]
  refine tkL 5 (v := ?_) rfl ?_ hHeld ?_
  rotate_left
  · (intro w' hSw; (try dsimp only at hSw); obtain ⟨hS0, hS1⟩ := hSw; go_simp; try with_reducible rfl)
  simp only [Act.put, lay9]
  refine tkL 6 (v := ?_) rfl ?_ hHeld ?_
  rotate_left
  · (intro w' hSw; (try dsimp only at hSw); obtain ⟨hS0, hS1⟩ := hSw; go_simp; try with_reducible rfl)
  simp only [Act.put, lay9]
  refine tkL 7 (v := ?_) rfl ?_ hHeld ?_
  rotate_left
  · (intro w' hSw; (try dsimp only at hSw); obtain ⟨hS0, hS1⟩ := hSw; go_simp; try with_reducible rfl)
  simp only [Act.put, lay9]
  refine stillL (i := 8) (v := (.int .u32 ((Pl.rotl (p ^^^ q) 20) : Int))) rfl (by kernel_rfl) (by kernel_rfl) (by kernel_rfl) (by kernel_rfl) (by kernel_rfl) (by decide) (fun _ _ _ h => h) ⟨by rfl, _, _, fun w' hSw => ⟨?_, (turned_any _ 12 w' (Pl.xor_lt l1 l2) (by decide) (by decide))⟩⟩ hHeld ?_
  · (try dsimp only at hSw); go_simp; try with_reducible rfl
  simp only [Act.put, lay9]
  refine tkL 9 (v := ?_) rfl ?_ hHeld ?_
  rotate_left
  · (intro w' hSw; (try dsimp only at hSw); obtain ⟨hS0, hS1⟩ := hSw; go_simp; try with_reducible rfl)
  simp only [Act.put, lay9]
  refine readyL (rs := [10]) (by kernel_rfl) (by simp) (ReadyL.last rfl (fun K hK => ?_))
  go_simp
  refine hK.out _ _ ?_
  clear hK K
  (try simp only [Act.put, lay9])
  refine doneL (by kernel_rfl) ?_ _
  generalize hW : World.drew (World.setCell _ _ _) = W4
  have hB4 : W4.heap[N]? = some (.cells (u32s (Pl.mixX V3 b c 20)).toArray 190 (0, 0)) := by
    rw [← hW]
    have h := u32s_store hB3 b (Pl.rotl (p ^^^ q) 20)
    unfold Pl.mixX
    rw [hp, hq]
    exact h
  have hr4 : W4.heap[N + 1]? = some (.cells Z 190 (0, 0)) := by rw [← hW]; exact (Below.heap_setCell W3 _ _ _ (by show N + 1 ≠ N; omega)).trans hr3
  have hb4 : Below N w W4 := by rw [← hW]; exact (hb3.setCell (p := ⟨N, b, none⟩) (Nat.le_refl _) _).drew
  have hA4 := Pl.mixX_all hA3 b c 20
  have hV4 : (Pl.mixX V3 b c 20).length = 16 := by rw [Pl.mixX_len]; exact hV3
  obtain ⟨V4, hv⟩ : ∃ z, Pl.mixX V3 b c 20 = z := ⟨_, rfl⟩
  rw [hv] at hB4 hA4 hV4 HV
  clear hW hp hq q1 q2 q3 l1 l2 hv hB3 hA3 hV3 hr3 hb3 ex
  obtain ⟨p, hp⟩ : ∃ z, V4.getD a 0 = z := ⟨_, rfl⟩
  obtain ⟨q, hq⟩ : ∃ z, V4.getD b 0 = z := ⟨_, rfl⟩
  have q1 := u32s_cell hB4 a (by omega)
  have q2 := u32s_cell hB4 b (by omega)
  have q3 := frozen_of W4 N a _ _ hB4
  rw [hp] at q1
  rw [hq] at q2
  have l1 : p < 4294967296 := by rw [← hp]; exact hA4 _
  have l2 : q < 4294967296 := by rw [← hq]; exact hA4 _
  go_wp2_with fail
  refine wp_regionL 11 (fun w' => w'.cell? ⟨N, a, none⟩ = some (.int .u32 (p : Int)) ∧ w'.cell? ⟨N, b, none⟩ = some (.int .u32 (q : Int))) (by kernel_rfl) (by exact ⟨q1, q2⟩) (fun hHeld => ?_)
  refine tkL 0 (v := ?_) rfl ?_ hHeld ?_
  rotate_left
  · (intro w' hSw; (try dsimp only at hSw); obtain ⟨hS0, hS1⟩ := hSw; go_simp; try with_reducible rfl)
  simp only [Act.put, lay9]
  refine tkL 1 (v := ?_) rfl ?_ hHeld ?_
  rotate_left
  · (intro w' hSw; (try dsimp only at hSw); obtain ⟨hS0, hS1⟩ := hSw; go_simp; try with_reducible rfl)
  simp only [Act.put, lay9]
  refine tkL 2 (v := ?_) rfl ?_ hHeld ?_
  rotate_left
  · (intro w' hSw; (try dsimp only at hSw); obtain ⟨hS0, hS1⟩ := hSw; go_simp; try with_reducible rfl)
  simp only [Act.put, lay9]
  refine tkL 3 (v := ?_) rfl ?_ hHeld ?_
  rotate_left
  · (intro w' hSw; (try dsimp only at hSw); obtain ⟨hS0, hS1⟩ := hSw; go_simp; try with_reducible rfl)
  simp only [Act.put, lay9]
  refine tkL 4 (v := ?_) rfl ?_ hHeld ?_
  rotate_left
  · (intro w' hSw; (try dsimp only at hSw); obtain ⟨hS0, hS1⟩ := hSw; go_simp; try with_reducible rfl)
  simp only [Act.put, lay9]
  refine tkL 5 (v := ?_) rfl ?_ hHeld ?_
  rotate_left
  · (intro w' hSw; (try dsimp only at hSw); obtain ⟨hS0, hS1⟩ := hSw; go_simp; try with_reducible rfl)
  simp only [Act.put, lay9]
  refine tkL 6 (v := ?_) rfl ?_ hHeld ?_
  rotate_left
  · (intro w' hSw; (try dsimp only at hSw); obtain ⟨hS0, hS1⟩ := hSw; go_simp; try with_reducible rfl)
  simp only [Act.put, lay9]
  refine tkL 7 (v := ?_) rfl ?_ hHeld ?_
  rotate_left
  · (intro w' hSw; (try dsimp only at hSw); obtain ⟨hS0, hS1⟩ := hSw; go_simp; try with_reducible rfl)
  simp only [Act.put, lay9]
  refine tkL 8 (v := ?_) rfl ?_ hHeld ?_
  rotate_left
  · (intro w' hSw; (try dsimp only at hSw); obtain ⟨hS0, hS1⟩ := hSw; go_simp; try with_reducible rfl)
  simp only [Act.put, lay9]
  refine tkL 9 (v := ?_) rfl ?_ hHeld ?_
  rotate_left
  · (intro w' hSw; (try dsimp only at hSw); obtain ⟨hS0, hS1⟩ := hSw; go_simp; try with_reducible rfl)
  simp only [Act.put, lay9]
  refine tkL 10 (v := ?_) rfl ?_ hHeld ?_
  rotate_left
  · (intro w' hSw; (try dsimp only at hSw); obtain ⟨hS0, hS1⟩ := hSw; go_simp; try with_reducible rfl)
  simp only [Act.put, lay9]
  refine readyL (rs := [11]) (by kernel_rfl) (by simp) (ReadyL.last rfl (fun K hK => ?_))
  go_simp
  refine hK.out _ _ ?_
  clear hK K
  (try simp only [Act.put, lay9])
  refine doneL (by kernel_rfl) ?_ _
  generalize hW : World.drew (World.setCell _ _ _) = W5
  have hB5 : W5.heap[N]? = some (.cells (u32s (Pl.mixA V4 a b y)).toArray 190 (0, 0)) := by
    rw [← hW]
    have h := u32s_store hB4 a (Pl.add32 p (Pl.add32 q y))
    unfold Pl.mixA
    rw [hp, hq]
    rw [add_two' p q y]; exact h
  have hr5 : W5.heap[N + 1]? = some (.cells Z 190 (0, 0)) := by rw [← hW]; exact (Below.heap_setCell W4 _ _ _ (by show N + 1 ≠ N; omega)).trans hr4
  have hb5 : Below N w W5 := by rw [← hW]; exact (hb4.setCell (p := ⟨N, a, none⟩) (Nat.le_refl _) _).drew
  have hA5 := Pl.mixA_all hA4 a b y
  have hV5 : (Pl.mixA V4 a b y).length = 16 := by rw [Pl.mixA_len]; exact hV4
  obtain ⟨V5, hv⟩ : ∃ z, Pl.mixA V4 a b y = z := ⟨_, rfl⟩
  rw [hv] at hB5 hA5 hV5 HV
  clear hW hp hq q1 q2 q3 l1 l2 hv hB4 hA4 hV4 hr4 hb4
  obtain ⟨p, hp⟩ : ∃ z, V5.getD d 0 = z := ⟨_, rfl⟩
  obtain ⟨q, hq⟩ : ∃ z, V5.getD a 0 = z := ⟨_, rfl⟩
  have q1 := u32s_cell hB5 d (by omega)
  have q2 := u32s_cell hB5 a (by omega)
  have q3 := frozen_of W5 N d _ _ hB5
  rw [hp] at q1
  rw [hq] at q2
  have l1 : p < 4294967296 := by rw [← hp]; exact hA5 _
  have l2 : q < 4294967296 := by rw [← hq]; exact hA5 _
  go_wp2_with fail
  refine wp_regionL 10 (fun w' => w'.cell? ⟨N, d, none⟩ = some (.int .u32 (p : Int)) ∧ w'.cell? ⟨N, a, none⟩ = some (.int .u32 (q : Int))) (by kernel_rfl) (by exact ⟨q1, q2⟩) (fun hHeld => ?_)
  have ex : bits .xor .u32 (p : Int) (q : Int) = ((p ^^^ q : Nat) : Int) := Go.u32_xor_nat _ _ l1 l2
  refine tkL 0 (v := ?_) rfl ?_ hHeld ?_
  rotate_left
  · (intro w' hSw; (try dsimp only at hSw); obtain ⟨hS0, hS1⟩ := hSw; go_simp; try with_reducible rfl)
  simp only [Act.put, lay9]
  refine tkL 1 (v := ?_) rfl ?_ hHeld ?_
  rotate_left
  · (intro w' hSw; (try dsimp only at hSw); obtain ⟨hS0, hS1⟩ := hSw; go_simp; try with_reducible rfl)
  simp only [Act.put, lay9]
  refine tkL 2 (v := ?_) rfl ?_ hHeld ?_
  rotate_left
  · (intro w' hSw; (try dsimp only at hSw); obtain ⟨hS0, hS1⟩ := hSw; go_simp; try with_reducible rfl)
  simp only [Act.put, lay9]
  refine tkL 3 (v := ?_) rfl ?_ hHeld ?_
  rotate_left
  · (intro w' hSw; (try dsimp only at hSw); obtain ⟨hS0, hS1⟩ := hSw; go_simp; try with_reducible rfl)
  simp only [Act.put, lay9]
  refine tkL 4 (v := ?_) rfl ?_ hHeld ?_
  rotate_left
  · (intro w' hSw; (try dsimp only at hSw); obtain ⟨hS0, hS1⟩ := hSw; go_simp; try with_reducible rfl)
  simp only [Act.put, lay9]
  refine tkL 5 (v := ?_) rfl ?_ hHeld ?_
  rotate_left
  · (intro w' hSw; (try dsimp only at hSw); obtain ⟨hS0, hS1⟩ := hSw; go_simp; try with_reducible rfl)
  simp only [Act.put, lay9]
  refine tkL 6 (v := ?_) rfl ?_ hHeld ?_
  rotate_left
  · (intro w' hSw; (try dsimp only at hSw); obtain ⟨hS0, hS1⟩ := hSw; go_simp; try with_reducible rfl)
  simp only [Act.put, lay9]
  refine tkL 7 (v := ?_) rfl ?_ hHeld ?_
  rotate_left
  · (intro w' hSw; (try dsimp only at hSw); obtain ⟨hS0, hS1⟩ := hSw; go_simp; try with_reducible rfl)
  simp only [Act.put, lay9]
  refine stillL (i := 8) (v := (.int .u32 ((Pl.rotl (p ^^^ q) 24) : Int))) rfl (by kernel_rfl) (by kernel_rfl) (by kernel_rfl) (by kernel_rfl) (by kernel_rfl) (by decide) (fun _ _ _ h => h) ⟨by rfl, _, _, fun w' hSw => ⟨?_, (turned_any _ 8 w' (Pl.xor_lt l1 l2) (by decide) (by decide))⟩⟩ hHeld ?_
  · (try dsimp only at hSw); go_simp; try with_reducible rfl
  simp only [Act.put, lay9]
  refine tkL 9 (v := ?_) rfl ?_ hHeld ?_
  rotate_left
  · (intro w' hSw; (try dsimp only at hSw); obtain ⟨hS0, hS1⟩ := hSw; go_simp; try with_reducible rfl)
  simp only [Act.put, lay9]
  refine readyL (rs := [10]) (by kernel_rfl) (by simp) (ReadyL.last rfl (fun K hK => ?_))
  go_simp
  refine hK.out _ _ ?_
  clear hK K
  (try simp only [Act.put, lay9])
  refine doneL (by kernel_rfl) ?_ _
  generalize hW : World.drew (World.setCell _ _ _) = W6
  have hB6 : W6.heap[N]? = some (.cells (u32s (Pl.mixX V5 d a 24)).toArray 190 (0, 0)) := by
    rw [← hW]
    have h := u32s_store hB5 d (Pl.rotl (p ^^^ q) 24)
    unfold Pl.mixX
    rw [hp, hq]
    exact h
  have hr6 : W6.heap[N + 1]? = some (.cells Z 190 (0, 0)) := by rw [← hW]; exact (Below.heap_setCell W5 _ _ _ (by show N + 1 ≠ N; omega)).trans hr5
  have hb6 : Below N w W6 := by rw [← hW]; exact (hb5.setCell (p := ⟨N, d, none⟩) (Nat.le_refl _) _).drew
  have hA6 := Pl.mixX_all hA5 d a 24
  have hV6 : (Pl.mixX V5 d a 24).length = 16 := by rw [Pl.mixX_len]; exact hV5
  obtain ⟨V6, hv⟩ : ∃ z, Pl.mixX V5 d a 24 = z := ⟨_, rfl⟩
  rw [hv] at hB6 hA6 hV6 HV
  clear hW hp hq q1 q2 q3 l1 l2 hv hB5 hA5 hV5 hr5 hb5 ex
  obtain ⟨p, hp⟩ : ∃ z, V6.getD c 0 = z := ⟨_, rfl⟩
  obtain ⟨q, hq⟩ : ∃ z, V6.getD d 0 = z := ⟨_, rfl⟩
  have q1 := u32s_cell hB6 c (by omega)
  have q2 := u32s_cell hB6 d (by omega)
  have q3 := frozen_of W6 N c _ _ hB6
  rw [hp] at q1
  rw [hq] at q2
  have l1 : p < 4294967296 := by rw [← hp]; exact hA6 _
  have l2 : q < 4294967296 := by rw [← hq]; exact hA6 _
  go_wp2_with fail
  refine wp_regionL 9 (fun w' => w'.cell? ⟨N, c, none⟩ = some (.int .u32 (p : Int)) ∧ w'.cell? ⟨N, d, none⟩ = some (.int .u32 (q : Int))) (by kernel_rfl) (by exact ⟨q1, q2⟩) (fun hHeld => ?_)
  refine tkL 0 (v := ?_) rfl ?_ hHeld ?_
  rotate_left
  · (intro w' hSw; (try dsimp only at hSw); obtain ⟨hS0, hS1⟩ := hSw; go_simp; try with_reducible rfl)
  simp only [Act.put, lay9]
  refine tkL 1 (v := ?_) rfl ?_ hHeld ?_
  rotate_left
  · (intro w' hSw; (try dsimp only at hSw); obtain ⟨hS0, hS1⟩ := hSw; go_simp; try with_reducible rfl)
  simp only [Act.put, lay9]
  refine tkL 2 (v := ?_) rfl ?_ hHeld ?_
  rotate_left
  · (intro w' hSw; (try dsimp only at hSw); obtain ⟨hS0, hS1⟩ := hSw; go_simp; try with_reducible rfl)
  simp only [Act.put, lay9]
  refine tkL 3 (v := ?_) rfl ?_ hHeld ?_
  rotate_left
  · (intro w' hSw; (try dsimp only at hSw); obtain ⟨hS0, hS1⟩ := hSw; go_simp; try with_reducible rfl)
  simp only [Act.put, lay9]
  refine tkL 4 (v := ?_) rfl ?_ hHeld ?_
  rotate_left
  · (intro w' hSw; (try dsimp only at hSw); obtain ⟨hS0, hS1⟩ := hSw; go_simp; try with_reducible rfl)
  simp only [Act.put, lay9]
  refine tkL 5 (v := ?_) rfl ?_ hHeld ?_
  rotate_left
  · (intro w' hSw; (try dsimp only at hSw); obtain ⟨hS0, hS1⟩ := hSw; go_simp; try with_reducible rfl)
  simp only [Act.put, lay9]
  refine tkL 6 (v := ?_) rfl ?_ hHeld ?_
  rotate_left
  · (intro w' hSw; (try dsimp only at hSw); obtain ⟨hS0, hS1⟩ := hSw; go_simp; try with_reducible rfl)
  simp only [Act.put, lay9]
  refine tkL 7 (v := ?_) rfl ?_ hHeld ?_
  rotate_left
  · (intro w' hSw; (try dsimp only at hSw); obtain ⟨hS0, hS1⟩ := hSw; go_simp; try with_reducible rfl)
  simp only [Act.put, lay9]
  refine tkL 8 (v := ?_) rfl ?_ hHeld ?_
  rotate_left
  · (intro w' hSw; (try dsimp only at hSw); obtain ⟨hS0, hS1⟩ := hSw; go_simp; try with_reducible rfl)
  simp only [Act.put, lay9]
  refine readyL (rs := [9]) (by kernel_rfl) (by simp) (ReadyL.last rfl (fun K hK => ?_))
  go_simp
  refine hK.out _ _ ?_
  clear hK K
  (try simp only [Act.put, lay9])
  refine doneL (by kernel_rfl) ?_ _
  generalize hW : World.drew (World.setCell _ _ _) = W7
  have hB7 : W7.heap[N]? = some (.cells (u32s (Pl.mixS V6 c d)).toArray 190 (0, 0)) := by
    rw [← hW]
    have h := u32s_store hB6 c (Pl.add32 p q)
    unfold Pl.mixS
    rw [hp, hq]
    rw [add_one p q]; exact h
  have hr7 : W7.heap[N + 1]? = some (.cells Z 190 (0, 0)) := by rw [← hW]; exact (Below.heap_setCell W6 _ _ _ (by show N + 1 ≠ N; omega)).trans hr6
  have hb7 : Below N w W7 := by rw [← hW]; exact (hb6.setCell (p := ⟨N, c, none⟩) (Nat.le_refl _) _).drew
  have hA7 := Pl.mixS_all hA6 c d
  have hV7 : (Pl.mixS V6 c d).length = 16 := by rw [Pl.mixS_len]; exact hV6
  obtain ⟨V7, hv⟩ : ∃ z, Pl.mixS V6 c d = z := ⟨_, rfl⟩
  rw [hv] at hB7 hA7 hV7 HV
  clear hW hp hq q1 q2 q3 l1 l2 hv hB6 hA6 hV6 hr6 hb6
  obtain ⟨p, hp⟩ : ∃ z, V7.getD b 0 = z := ⟨_, rfl⟩
  obtain ⟨q, hq⟩ : ∃ z, V7.getD c 0 = z := ⟨_, rfl⟩
  have q1 := u32s_cell hB7 b (by omega)
  have q2 := u32s_cell hB7 c (by omega)
  have q3 := frozen_of W7 N b _ _ hB7
  rw [hp] at q1
  rw [hq] at q2
  have l1 : p < 4294967296 := by rw [← hp]; exact hA7 _
  have l2 : q < 4294967296 := by rw [← hq]; exact hA7 _
  go_wp2_with fail
  refine wp_regionL 10 (fun w' => w'.cell? ⟨N, b, none⟩ = some (.int .u32 (p : Int)) ∧ w'.cell? ⟨N, c, none⟩ = some (.int .u32 (q : Int))) (by kernel_rfl) (by exact ⟨q1, q2⟩) (fun hHeld => ?_)
  have ex : bits .xor .u32 (p : Int) (q : Int) = ((p ^^^ q : Nat) : Int) := Go.u32_xor_nat _ _ l1 l2
  refine tkL 0 (v := ?_) rfl ?_ hHeld ?_
  rotate_left
  · (intro w' hSw; (try dsimp only at hSw); obtain ⟨hS0, hS1⟩ := hSw; go_simp; try with_reducible rfl)
  simp only [Act.put, lay9]
  refine tkL 1 (v := ?_) rfl ?_ hHeld ?_
  rotate_left
  · (intro w' hSw; (try dsimp only at hSw); obtain ⟨hS0, hS1⟩ := hSw; go_simp; try with_reducible rfl)
  simp only [Act.put, lay9]
  refine tkL 2 (v := ?_) rfl ?_ hHeld ?_
  rotate_left
  · (intro w' hSw; (try dsimp only at hSw); obtain ⟨hS0, hS1⟩ := hSw; go_simp; try with_reducible rfl)
  simp only [Act.put, lay9]
  refine tkL 3 (v := ?_) rfl ?_ hHeld ?_
  rotate_left
  · (intro w' hSw; (try dsimp only at hSw); obtain ⟨hS0, hS1⟩ := hSw; go_simp; try with_reducible rfl)
  simp only [Act.put, lay9]
  refine tkL 4 (v := ?_) rfl ?_ hHeld ?_
  rotate_left
  · (intro w' hSw; (try dsimp only at hSw); obtain ⟨hS0, hS1⟩ := hSw; go_simp; try with_reducible rfl)
  simp only [Act.put, lay9]
  refine tkL 5 (v := ?_) rfl ?_ hHeld ?_
  rotate_left
  · (intro w' hSw; (try dsimp only at hSw); obtain ⟨hS0, hS1⟩ := hSw; go_simp; try with_reducible rfl)
  simp only [Act.put, lay9]
  refine tkL 6 (v := ?_) rfl ?_ hHeld ?_
  rotate_left
  · (intro w' hSw; (try dsimp only at hSw); obtain ⟨hS0, hS1⟩ := hSw; go_simp; try with_reducible rfl)
  simp only [Act.put, lay9]
  refine tkL 7 (v := ?_) rfl ?_ hHeld ?_
  rotate_left
  · (intro w' hSw; (try dsimp only at hSw); obtain ⟨hS0, hS1⟩ := hSw; go_simp; try with_reducible rfl)
  simp only [Act.put, lay9]
  refine stillL (i := 8) (v := (.int .u32 ((Pl.rotl (p ^^^ q) 25) : Int))) rfl (by kernel_rfl) (by kernel_rfl) (by kernel_rfl) (by kernel_rfl) (by kernel_rfl) (by decide) (fun _ _ _ h => h) ⟨by rfl, _, _, fun w' hSw => ⟨?_, (turned_any _ 7 w' (Pl.xor_lt l1 l2) (by decide) (by decide))⟩⟩ hHeld ?_
  · (try dsimp only at hSw); go_simp; try with_reducible rfl
  simp only [Act.put, lay9]
  refine tkL 9 (v := ?_) rfl ?_ hHeld ?_
  rotate_left
  · (intro w' hSw; (try dsimp only at hSw); obtain ⟨hS0, hS1⟩ := hSw; go_simp; try with_reducible rfl)
  simp only [Act.put, lay9]
  refine readyL (rs := [10]) (by kernel_rfl) (by simp) (ReadyL.last rfl (fun K hK => ?_))
  go_simp
  refine hK.out _ _ ?_
  clear hK K
  (try simp only [Act.put, lay9])
  refine doneL (by kernel_rfl) ?_ _
  generalize hW : World.drew (World.setCell _ _ _) = W8
  have hB8 : W8.heap[N]? = some (.cells (u32s (Pl.mixX V7 b c 25)).toArray 190 (0, 0)) := by
    rw [← hW]
    have h := u32s_store hB7 b (Pl.rotl (p ^^^ q) 25)
    unfold Pl.mixX
    rw [hp, hq]
    exact h
  have hr8 : W8.heap[N + 1]? = some (.cells Z 190 (0, 0)) := by rw [← hW]; exact (Below.heap_setCell W7 _ _ _ (by show N + 1 ≠ N; omega)).trans hr7
  have hb8 : Below N w W8 := by rw [← hW]; exact (hb7.setCell (p := ⟨N, b, none⟩) (Nat.le_refl _) _).drew
  have hA8 := Pl.mixX_all hA7 b c 25
  have hV8 : (Pl.mixX V7 b c 25).length = 16 := by rw [Pl.mixX_len]; exact hV7
  obtain ⟨V8, hv⟩ : ∃ z, Pl.mixX V7 b c 25 = z := ⟨_, rfl⟩
  rw [hv] at hB8 hA8 hV8 HV
  clear hW hp hq q1 q2 q3 l1 l2 hv hB7 hA7 hV7 hr7 hb7 ex
  obtain rfl := HV.out
  have hi := info_16
  have hr : W8.rangeAt N 0 (u32s V8) := rangeL hB8
  have hl : (u32s V8).length = 16 := by rw [u32s_len]; exact hV8
  have ho := u32s_one V8
  obtain ⟨L, hL⟩ : ∃ L, u32s V8 = L := ⟨_, rfl⟩
  rw [hL] at hr hl ho
  have HL := Lib.hid hL
  have hT : W8.there (N + 1) 0 L.toArray.size := thereL hr8 (by rw [List.size_toArray, hl, hZ]; exact Nat.le_refl 16)
  have hi1 : (Tryz.prog.info? 190).map (·.size) = some L.length := by rw [hl]; exact hi
  have hi2 : (Tryz.prog.info? 190).map (·.size) = some L.toArray.size := by rw [List.size_toArray, hl]; exact hi
  clear hL hB8 hr8
  go_wp2_with first
    | with_reducible refine wpList_load_mid rfl 190 _ rfl N 0 rfl L _ hr Tryz.underlying190 rfl hi1 ?_
    | with_reducible refine wpList_store_mid rfl 190 _ _ rfl (N + 1) 0 L.toArray rfl rfl hT hi2 (all_oneCell_toArray ho) ?_
  refine bodyPost_ret (v := .agg L.toArray) (results_rowS (B := N + 1) rfl rfl (World.rangeAt_setCells_same _ _ _ _ (by simpa using hT)) Tryz.underlying190 rfl hi1) rfl ?_
  exact ⟨_, rfl, by rw [HL.out], by rw [hN]; exact hb8.trans (Lib.below_setCells_w (by omega) L 0 W8)⟩
end Go.Proofs.YtdnebgilkfafhaaGreatDoor
