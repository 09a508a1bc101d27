/- The walk of the step of a block of the stream (the closure in cipher's Block). No condition but that the four places are below 16 and the neighbours are not one. The walks of cipher's word, first and Block. No condition. The walk of cipher's Block: 64 bytes of the stream. No condition but the sizes of the key, the nonce and the number. The walk of cipher's Xor: bytes turned by the stream. No condition but the sizes of the key, the nonce and the number, and that there are fewer than 2^62 bytes. -/
import Derived.Test.YtadoplgmeoghmaaDoorHashS
import Derived.Test.YtadoplgmeoghmaaDoorHashK
import Derived.Test.YtadoplgmeoghmaaDoorSealPl
import Derived.Laws.IdiomStrings
namespace Go.Proofs.YtadoplgmeoghmaaDoor
open Go.RowKit
set_option linter.unusedVariables false
set_option linter.unusedSimpArgs false
theorem rot_p16 (x : Nat) (w : World) (hx : x < 4294967296) : Calls Tryd.prog 75 #[.int .u32 (x : Int), .int .i64 16] w (Ret (.int .u32 (Pl.rotl x 16 : Int)) w) := rot_of x 16 16 w hx (by decide) (by decide) (by decide)
theorem rot_p12 (x : Nat) (w : World) (hx : x < 4294967296) : Calls Tryd.prog 75 #[.int .u32 (x : Int), .int .i64 12] w (Ret (.int .u32 (Pl.rotl x 12 : Int)) w) := rot_of x 12 12 w hx (by decide) (by decide) (by decide)
theorem rot_p8 (x : Nat) (w : World) (hx : x < 4294967296) : Calls Tryd.prog 75 #[.int .u32 (x : Int), .int .i64 8] w (Ret (.int .u32 (Pl.rotl x 8 : Int)) w) := rot_of x 8 8 w hx (by decide) (by decide) (by decide)
theorem rot_p7 (x : Nat) (w : World) (hx : x < 4294967296) : Calls Tryd.prog 75 #[.int .u32 (x : Int), .int .i64 7] w (Ret (.int .u32 (Pl.rotl x 7 : Int)) w) := rot_of x 7 7 w hx (by decide) (by decide) (by decide)
set_option maxRecDepth 1000000 in
set_option maxHeartbeats 4000000 in
theorem step_any (V : List Nat) (hV : V.length = 16) (hA : Pl.All32 V) (a b c d : Nat) (ha : a < 16) (hb : b < 16) (hc : c < 16) (hd : d < 16) (hab : a ≠ b) (hda : d ≠ a) (hcd : c ≠ d) (hbc : b ≠ c) (B : Nat) (w : World) (hB : w.heap[B]? = some (.cells (u32s V).toArray 135 (0, 0))) :
    Calls Tryd.prog 74 #[.int .i64 (a : Int), .int .i64 (b : Int), .int .i64 (c : Int), .int .i64 (d : Int), .pointer (some ⟨B, 0, none⟩)] w
      (fun e w' => e = .returned (.tuple #[]) ∧ w'.heap[B]? = some (.cells (u32s (Pl.stepC V a b c d)).toArray 135 (0, 0)) ∧ w.grownBy w' (some B)) := by
  have a0 : (0 : Int) ≤ (a : Int) := by omega
  have a1 : (a : Int) < 16 := by omega
  have b0 : (0 : Int) ≤ (b : Int) := by omega
  have b1 : (b : Int) < 16 := by omega
  have c0 : (0 : Int) ≤ (c : Int) := by omega
  have c1 : (c : Int) < 16 := by omega
  have d0 : (0 : Int) ≤ (d : Int) := by omega
  have d1 : (d : Int) < 16 := by omega
  go_enter Tryd.func74, Tryd.ntmps74
  go_wp2_with fail
  obtain ⟨p1, hp1⟩ : ∃ z, V.getD a 0 = z := ⟨_, rfl⟩
  obtain ⟨o1, ho1⟩ : ∃ z, V.getD b 0 = z := ⟨_, rfl⟩
  have q1 := u32s_cell hB a (by omega)
  have q2 := u32s_cell hB b (by omega)
  have q3 := frozen_of w B a _ _ hB
  rw [hp1] at q1
  rw [ho1] at q2
  have l1 : p1 < 4294967296 := by rw [← hp1]; exact hA _
  have l2 : o1 < 4294967296 := by rw [← ho1]; exact hA _
  refine wp_region_held_drew (S := (fun w' => w'.cell? ⟨B, b, none⟩ = some (.int .u32 (o1 : Int)))) (by kernel_rfl) (by exact q2) (fun hHeld => ?_)
  refine wpAnyH_take (i := 0) (v := ?_) rfl (by kernel_rfl) (by kernel_rfl) (by kernel_rfl) (fun _ _ _ h => h) (Or.inl ⟨by kernel_rfl, ?_⟩) hHeld ?_
  rotate_left
  · (intro w' hSw; (try dsimp only at hSw); go_simp; try with_reducible rfl)
  simp only [Act.put, List.setIfInBounds_toArray, List.set_cons_zero, List.set_cons_succ, List.getElem_toArray, List.getElem_cons_succ, List.getElem_cons_zero]
  refine wpAnyH_take (i := 1) (v := ?_) rfl (by kernel_rfl) (by kernel_rfl) (by kernel_rfl) (fun _ _ _ h => h) (Or.inl ⟨by kernel_rfl, ?_⟩) hHeld ?_
  rotate_left
  · (intro w' hSw; (try dsimp only at hSw); go_simp; try with_reducible rfl)
  simp only [Act.put, List.setIfInBounds_toArray, List.set_cons_zero, List.set_cons_succ, List.getElem_toArray, List.getElem_cons_succ, List.getElem_cons_zero]
  refine wpAnyH_take (i := 3) (v := ?_) rfl (by kernel_rfl) (by kernel_rfl) (by kernel_rfl) (fun _ _ _ h => h) (Or.inl ⟨by kernel_rfl, ?_⟩) hHeld ?_
  rotate_left
  · (intro w' hSw; (try dsimp only at hSw); go_simp; try with_reducible rfl)
  simp only [Act.put, List.setIfInBounds_toArray, List.set_cons_zero, List.set_cons_succ, List.getElem_toArray, List.getElem_cons_succ, List.getElem_cons_zero]
  refine wpAnyH_take (i := 4) (v := ?_) rfl (by kernel_rfl) (by kernel_rfl) (by kernel_rfl) (fun _ _ _ h => h) (Or.inl ⟨by kernel_rfl, ?_⟩) hHeld ?_
  rotate_left
  · (intro w' hSw; (try dsimp only at hSw); go_simp; try with_reducible rfl)
  simp only [Act.put, List.setIfInBounds_toArray, List.set_cons_zero, List.set_cons_succ, List.getElem_toArray, List.getElem_cons_succ, List.getElem_cons_zero]
  refine wpAnyH_take (i := 5) (v := ?_) rfl (by kernel_rfl) (by kernel_rfl) (by kernel_rfl) (fun _ _ _ h => h) (Or.inl ⟨by kernel_rfl, ?_⟩) hHeld ?_
  rotate_left
  · (intro w' hSw; (try dsimp only at hSw); go_simp; try with_reducible rfl)
  simp only [Act.put, List.setIfInBounds_toArray, List.set_cons_zero, List.set_cons_succ, List.getElem_toArray, List.getElem_cons_succ, List.getElem_cons_zero]
  refine wpAnyH_ready (rs := [2]) (by kernel_rfl) (by simp) (AllReadyH.cons rfl (fun K hK => ?_) AllReadyH.nil)
  go_simp
  refine hK.out _ _ hHeld (fun hHeld => ?_)
  clear hK K
  (try simp only [Act.put, List.setIfInBounds_toArray, List.set_cons_zero, List.set_cons_succ, List.getElem_toArray, List.getElem_cons_succ, List.getElem_cons_zero])
  refine wpAnyH_take (i := 6) (v := ?_) rfl (by kernel_rfl) (by kernel_rfl) (by kernel_rfl) (fun _ _ _ h => h) (Or.inl ⟨by kernel_rfl, ?_⟩) hHeld ?_
  rotate_left
  · (intro w' hSw; (try dsimp only at hSw); go_simp; try with_reducible rfl)
  simp only [Act.put, List.setIfInBounds_toArray, List.set_cons_zero, List.set_cons_succ, List.getElem_toArray, List.getElem_cons_succ, List.getElem_cons_zero]
  refine wpAnyH_take (i := 7) (v := ?_) rfl (by kernel_rfl) (by kernel_rfl) (by kernel_rfl) (fun _ _ _ h => h) (Or.inl ⟨by kernel_rfl, ?_⟩) hHeld ?_
  rotate_left
  · (intro w' hSw; (try dsimp only at hSw); go_simp; try with_reducible rfl)
  simp only [Act.put, List.setIfInBounds_toArray, List.set_cons_zero, List.set_cons_succ, List.getElem_toArray, List.getElem_cons_succ, List.getElem_cons_zero]
  refine wpAnyH_ready (rs := [8]) (by kernel_rfl) (by simp) (AllReadyH.cons rfl (fun K hK => ?_) AllReadyH.nil)
  go_simp
  have hs1 : (w.setCell ⟨B, a, none⟩ (.int .u32 (IntKind.u32.wrap ((p1 : Int) + (o1 : Int))))).drew.heap[B]? = some (.cells (u32s (Pl.mixS V a b)).toArray 135 (0, 0)) := by
    have := u32s_store hB a (Pl.add32 p1 o1)
    unfold Pl.mixS
    rw [hp1, ho1, (add_one p1 o1 : (IntKind.u32.wrap ((p1 : Int) + (o1 : Int))) = (((Pl.add32 p1 o1) : Nat) : Int))]
    exact this
  have hg1 : w.grownBy (w.setCell ⟨B, a, none⟩ (.int .u32 (IntKind.u32.wrap ((p1 : Int) + (o1 : Int))))).drew (some B) := grown_drew (grown_set _ _ _ _)
  have hk1 : (w.setCell ⟨B, a, none⟩ (.int .u32 (IntKind.u32.wrap ((p1 : Int) + (o1 : Int))))).drew.cell? ⟨B, b, none⟩ = some (.int .u32 (o1 : Int)) := by
    rw [u32s_cell hs1 b (by rw [Pl.mixS_len]; omega)]
    unfold Pl.mixS
    rw [getD_set_ne' _ hab, ho1]
  refine hK.out _ _ hk1 (fun hHeld => ?_)
  clear hK K
  (try simp only [Act.put, List.setIfInBounds_toArray, List.set_cons_zero, List.set_cons_succ, List.getElem_toArray, List.getElem_cons_succ, List.getElem_cons_zero])
  refine wpAnyH_done (by kernel_rfl) ?_ _
  obtain ⟨W1, hW1⟩ : ∃ W, (w.setCell ⟨B, a, none⟩ (.int .u32 (IntKind.u32.wrap ((p1 : Int) + (o1 : Int))))).drew = W := ⟨_, rfl⟩
  rw [hW1] at hs1 hg1 ⊢
  obtain ⟨V1, hv1⟩ : ∃ z, Pl.mixS V a b = z := ⟨_, rfl⟩
  have hV1 : V1.length = 16 := by rw [← hv1, Pl.mixS_len]; exact hV
  have hA1 : Pl.All32 V1 := by rw [← hv1]; exact Pl.mixS_all hA _ _
  rw [hv1] at hs1
  have hB1 := hs1
  clear hW1 hk1 hHeld q1 q2 q3 l1 l2 hp1 ho1 hs1 
  go_wp2_with fail
  obtain ⟨p2, hp2⟩ : ∃ z, V1.getD d 0 = z := ⟨_, rfl⟩
  obtain ⟨o2, ho2⟩ : ∃ z, V1.getD a 0 = z := ⟨_, rfl⟩
  have q1 := u32s_cell hB1 d (by omega)
  have q2 := u32s_cell hB1 a (by omega)
  have q3 := frozen_of W1 B d _ _ hB1
  rw [hp2] at q1
  rw [ho2] at q2
  have l1 : p2 < 4294967296 := by rw [← hp2]; exact hA1 _
  have l2 : o2 < 4294967296 := by rw [← ho2]; exact hA1 _
  refine wp_region_held_drew (S := (fun w' => w'.cell? ⟨B, a, none⟩ = some (.int .u32 (o2 : Int)))) (by kernel_rfl) (by exact q2) (fun hHeld => ?_)
  have ex : bits .xor .u32 (p2 : Int) (o2 : Int) = ((p2 ^^^ o2 : Nat) : Int) := Go.u32_xor_nat _ _ l1 l2
  refine wpAnyH_take (i := 0) (v := ?_) rfl (by kernel_rfl) (by kernel_rfl) (by kernel_rfl) (fun _ _ _ h => h) (Or.inl ⟨by kernel_rfl, ?_⟩) hHeld ?_
  rotate_left
  · (intro w' hSw; (try dsimp only at hSw); go_simp; try with_reducible rfl)
  simp only [Act.put, List.setIfInBounds_toArray, List.set_cons_zero, List.set_cons_succ, List.getElem_toArray, List.getElem_cons_succ, List.getElem_cons_zero]
  refine wpAnyH_take (i := 1) (v := ?_) rfl (by kernel_rfl) (by kernel_rfl) (by kernel_rfl) (fun _ _ _ h => h) (Or.inl ⟨by kernel_rfl, ?_⟩) hHeld ?_
  rotate_left
  · (intro w' hSw; (try dsimp only at hSw); go_simp; try with_reducible rfl)
  simp only [Act.put, List.setIfInBounds_toArray, List.set_cons_zero, List.set_cons_succ, List.getElem_toArray, List.getElem_cons_succ, List.getElem_cons_zero]
  refine wpAnyH_take (i := 2) (v := ?_) rfl (by kernel_rfl) (by kernel_rfl) (by kernel_rfl) (fun _ _ _ h => h) (Or.inl ⟨by kernel_rfl, ?_⟩) hHeld ?_
  rotate_left
  · (intro w' hSw; (try dsimp only at hSw); go_simp; try with_reducible rfl)
  simp only [Act.put, List.setIfInBounds_toArray, List.set_cons_zero, List.set_cons_succ, List.getElem_toArray, List.getElem_cons_succ, List.getElem_cons_zero]
  refine wpAnyH_take (i := 4) (v := ?_) rfl (by kernel_rfl) (by kernel_rfl) (by kernel_rfl) (fun _ _ _ h => h) (Or.inl ⟨by kernel_rfl, ?_⟩) hHeld ?_
  rotate_left
  · (intro w' hSw; (try dsimp only at hSw); go_simp; try with_reducible rfl)
  simp only [Act.put, List.setIfInBounds_toArray, List.set_cons_zero, List.set_cons_succ, List.getElem_toArray, List.getElem_cons_succ, List.getElem_cons_zero]
  refine wpAnyH_take (i := 5) (v := ?_) rfl (by kernel_rfl) (by kernel_rfl) (by kernel_rfl) (fun _ _ _ h => h) (Or.inl ⟨by kernel_rfl, ?_⟩) hHeld ?_
  rotate_left
  · (intro w' hSw; (try dsimp only at hSw); go_simp; try with_reducible rfl)
  simp only [Act.put, List.setIfInBounds_toArray, List.set_cons_zero, List.set_cons_succ, List.getElem_toArray, List.getElem_cons_succ, List.getElem_cons_zero]
  refine wpAnyH_take (i := 6) (v := ?_) rfl (by kernel_rfl) (by kernel_rfl) (by kernel_rfl) (fun _ _ _ h => h) (Or.inl ⟨by kernel_rfl, ?_⟩) hHeld ?_
  rotate_left
  · (intro w' hSw; (try dsimp only at hSw); go_simp; try with_reducible rfl)
  simp only [Act.put, List.setIfInBounds_toArray, List.set_cons_zero, List.set_cons_succ, List.getElem_toArray, List.getElem_cons_succ, List.getElem_cons_zero]
  refine wpAnyH_ready (rs := [3]) (by kernel_rfl) (by simp) (AllReadyH.cons rfl (fun K hK => ?_) AllReadyH.nil)
  go_simp
  refine hK.out _ _ hHeld (fun hHeld => ?_)
  clear hK K
  (try simp only [Act.put, List.setIfInBounds_toArray, List.set_cons_zero, List.set_cons_succ, List.getElem_toArray, List.getElem_cons_succ, List.getElem_cons_zero])
  refine wpAnyH_take (i := 7) (v := ?_) rfl (by kernel_rfl) (by kernel_rfl) (by kernel_rfl) (fun _ _ _ h => h) (Or.inl ⟨by kernel_rfl, ?_⟩) hHeld ?_
  rotate_left
  · (intro w' hSw; (try dsimp only at hSw); go_simp; try with_reducible rfl)
  simp only [Act.put, List.setIfInBounds_toArray, List.set_cons_zero, List.set_cons_succ, List.getElem_toArray, List.getElem_cons_succ, List.getElem_cons_zero]
  refine still_take (i := 8) (v := (.int .u32 ((Pl.rotl (p2 ^^^ o2) 16) : Int))) rfl (by kernel_rfl) (fun _ _ _ h => h) _ _ _ _ (by kernel_rfl) (by kernel_rfl) ⟨by rfl, _, _, fun w' hSw => ⟨?_, (rot_p16 _ w' (Pl.xor_lt l1 l2))⟩⟩ hHeld ?_
  · (try dsimp only at hSw); go_simp; try with_reducible rfl
  simp only [Act.put, List.setIfInBounds_toArray, List.set_cons_zero, List.set_cons_succ, List.getElem_toArray, List.getElem_cons_succ, List.getElem_cons_zero]
  refine wpAnyH_take (i := 9) (v := ?_) rfl (by kernel_rfl) (by kernel_rfl) (by kernel_rfl) (fun _ _ _ h => h) (Or.inl ⟨by kernel_rfl, ?_⟩) hHeld ?_
  rotate_left
  · (intro w' hSw; (try dsimp only at hSw); go_simp; try with_reducible rfl)
  simp only [Act.put, List.setIfInBounds_toArray, List.set_cons_zero, List.set_cons_succ, List.getElem_toArray, List.getElem_cons_succ, List.getElem_cons_zero]
  refine wpAnyH_ready (rs := [10]) (by kernel_rfl) (by simp) (AllReadyH.cons rfl (fun K hK => ?_) AllReadyH.nil)
  go_simp
  have hs2 : (W1.setCell ⟨B, d, none⟩ (.int .u32 ((Pl.rotl (p2 ^^^ o2) 16) : Int))).drew.heap[B]? = some (.cells (u32s (Pl.mixX V1 d a 16)).toArray 135 (0, 0)) := by
    have := u32s_store hB1 d (Pl.rotl (p2 ^^^ o2) 16)
    unfold Pl.mixX
    rw [hp2, ho2, (rfl : ((Pl.rotl (p2 ^^^ o2) 16) : Int) = (((Pl.rotl (p2 ^^^ o2) 16) : Nat) : Int))]
    exact this
  have hg2 : w.grownBy (W1.setCell ⟨B, d, none⟩ (.int .u32 ((Pl.rotl (p2 ^^^ o2) 16) : Int))).drew (some B) := hg1.trans (grown_drew (grown_set _ _ _ _))
  have hk2 : (W1.setCell ⟨B, d, none⟩ (.int .u32 ((Pl.rotl (p2 ^^^ o2) 16) : Int))).drew.cell? ⟨B, a, none⟩ = some (.int .u32 (o2 : Int)) := by
    rw [u32s_cell hs2 a (by rw [Pl.mixX_len]; omega)]
    unfold Pl.mixX
    rw [getD_set_ne' _ hda, ho2]
  refine hK.out _ _ hk2 (fun hHeld => ?_)
  clear hK K
  (try simp only [Act.put, List.setIfInBounds_toArray, List.set_cons_zero, List.set_cons_succ, List.getElem_toArray, List.getElem_cons_succ, List.getElem_cons_zero])
  refine wpAnyH_done (by kernel_rfl) ?_ _
  obtain ⟨W2, hW2⟩ : ∃ W, (W1.setCell ⟨B, d, none⟩ (.int .u32 ((Pl.rotl (p2 ^^^ o2) 16) : Int))).drew = W := ⟨_, rfl⟩
  rw [hW2] at hs2 hg2 ⊢
  obtain ⟨V2, hv2⟩ : ∃ z, Pl.mixX V1 d a 16 = z := ⟨_, rfl⟩
  have hV2 : V2.length = 16 := by rw [← hv2, Pl.mixX_len]; exact hV1
  have hA2 : Pl.All32 V2 := by rw [← hv2]; exact Pl.mixX_all hA1 _ _ _
  rw [hv2] at hs2
  have hB2 := hs2
  clear hW2 hk2 hHeld q1 q2 q3 l1 l2 hp2 ho2 hs2 ex
  go_wp2_with fail
  obtain ⟨p3, hp3⟩ : ∃ z, V2.getD c 0 = z := ⟨_, rfl⟩
  obtain ⟨o3, ho3⟩ : ∃ z, V2.getD d 0 = z := ⟨_, rfl⟩
  have q1 := u32s_cell hB2 c (by omega)
  have q2 := u32s_cell hB2 d (by omega)
  have q3 := frozen_of W2 B c _ _ hB2
  rw [hp3] at q1
  rw [ho3] at q2
  have l1 : p3 < 4294967296 := by rw [← hp3]; exact hA2 _
  have l2 : o3 < 4294967296 := by rw [← ho3]; exact hA2 _
  refine wp_region_held_drew (S := (fun w' => w'.cell? ⟨B, d, none⟩ = some (.int .u32 (o3 : Int)))) (by kernel_rfl) (by exact q2) (fun hHeld => ?_)
  refine wpAnyH_take (i := 0) (v := ?_) rfl (by kernel_rfl) (by kernel_rfl) (by kernel_rfl) (fun _ _ _ h => h) (Or.inl ⟨by kernel_rfl, ?_⟩) hHeld ?_
  rotate_left
  · (intro w' hSw; (try dsimp only at hSw); go_simp; try with_reducible rfl)
  simp only [Act.put, List.setIfInBounds_toArray, List.set_cons_zero, List.set_cons_succ, List.getElem_toArray, List.getElem_cons_succ, List.getElem_cons_zero]
  refine wpAnyH_take (i := 1) (v := ?_) rfl (by kernel_rfl) (by kernel_rfl) (by kernel_rfl) (fun _ _ _ h => h) (Or.inl ⟨by kernel_rfl, ?_⟩) hHeld ?_
  rotate_left
  · (intro w' hSw; (try dsimp only at hSw); go_simp; try with_reducible rfl)
  simp only [Act.put, List.setIfInBounds_toArray, List.set_cons_zero, List.set_cons_succ, List.getElem_toArray, List.getElem_cons_succ, List.getElem_cons_zero]
  refine wpAnyH_take (i := 3) (v := ?_) rfl (by kernel_rfl) (by kernel_rfl) (by kernel_rfl) (fun _ _ _ h => h) (Or.inl ⟨by kernel_rfl, ?_⟩) hHeld ?_
  rotate_left
  · (intro w' hSw; (try dsimp only at hSw); go_simp; try with_reducible rfl)
  simp only [Act.put, List.setIfInBounds_toArray, List.set_cons_zero, List.set_cons_succ, List.getElem_toArray, List.getElem_cons_succ, List.getElem_cons_zero]
  refine wpAnyH_take (i := 4) (v := ?_) rfl (by kernel_rfl) (by kernel_rfl) (by kernel_rfl) (fun _ _ _ h => h) (Or.inl ⟨by kernel_rfl, ?_⟩) hHeld ?_
  rotate_left
  · (intro w' hSw; (try dsimp only at hSw); go_simp; try with_reducible rfl)
  simp only [Act.put, List.setIfInBounds_toArray, List.set_cons_zero, List.set_cons_succ, List.getElem_toArray, List.getElem_cons_succ, List.getElem_cons_zero]
  refine wpAnyH_take (i := 5) (v := ?_) rfl (by kernel_rfl) (by kernel_rfl) (by kernel_rfl) (fun _ _ _ h => h) (Or.inl ⟨by kernel_rfl, ?_⟩) hHeld ?_
  rotate_left
  · (intro w' hSw; (try dsimp only at hSw); go_simp; try with_reducible rfl)
  simp only [Act.put, List.setIfInBounds_toArray, List.set_cons_zero, List.set_cons_succ, List.getElem_toArray, List.getElem_cons_succ, List.getElem_cons_zero]
  refine wpAnyH_ready (rs := [2]) (by kernel_rfl) (by simp) (AllReadyH.cons rfl (fun K hK => ?_) AllReadyH.nil)
  go_simp
  refine hK.out _ _ hHeld (fun hHeld => ?_)
  clear hK K
  (try simp only [Act.put, List.setIfInBounds_toArray, List.set_cons_zero, List.set_cons_succ, List.getElem_toArray, List.getElem_cons_succ, List.getElem_cons_zero])
  refine wpAnyH_take (i := 6) (v := ?_) rfl (by kernel_rfl) (by kernel_rfl) (by kernel_rfl) (fun _ _ _ h => h) (Or.inl ⟨by kernel_rfl, ?_⟩) hHeld ?_
  rotate_left
  · (intro w' hSw; (try dsimp only at hSw); go_simp; try with_reducible rfl)
  simp only [Act.put, List.setIfInBounds_toArray, List.set_cons_zero, List.set_cons_succ, List.getElem_toArray, List.getElem_cons_succ, List.getElem_cons_zero]
  refine wpAnyH_take (i := 7) (v := ?_) rfl (by kernel_rfl) (by kernel_rfl) (by kernel_rfl) (fun _ _ _ h => h) (Or.inl ⟨by kernel_rfl, ?_⟩) hHeld ?_
  rotate_left
  · (intro w' hSw; (try dsimp only at hSw); go_simp; try with_reducible rfl)
  simp only [Act.put, List.setIfInBounds_toArray, List.set_cons_zero, List.set_cons_succ, List.getElem_toArray, List.getElem_cons_succ, List.getElem_cons_zero]
  refine wpAnyH_ready (rs := [8]) (by kernel_rfl) (by simp) (AllReadyH.cons rfl (fun K hK => ?_) AllReadyH.nil)
  go_simp
  have hs3 : (W2.setCell ⟨B, c, none⟩ (.int .u32 (IntKind.u32.wrap ((p3 : Int) + (o3 : Int))))).drew.heap[B]? = some (.cells (u32s (Pl.mixS V2 c d)).toArray 135 (0, 0)) := by
    have := u32s_store hB2 c (Pl.add32 p3 o3)
    unfold Pl.mixS
    rw [hp3, ho3, (add_one p3 o3 : (IntKind.u32.wrap ((p3 : Int) + (o3 : Int))) = (((Pl.add32 p3 o3) : Nat) : Int))]
    exact this
  have hg3 : w.grownBy (W2.setCell ⟨B, c, none⟩ (.int .u32 (IntKind.u32.wrap ((p3 : Int) + (o3 : Int))))).drew (some B) := hg2.trans (grown_drew (grown_set _ _ _ _))
  have hk3 : (W2.setCell ⟨B, c, none⟩ (.int .u32 (IntKind.u32.wrap ((p3 : Int) + (o3 : Int))))).drew.cell? ⟨B, d, none⟩ = some (.int .u32 (o3 : Int)) := by
    rw [u32s_cell hs3 d (by rw [Pl.mixS_len]; omega)]
    unfold Pl.mixS
    rw [getD_set_ne' _ hcd, ho3]
  refine hK.out _ _ hk3 (fun hHeld => ?_)
  clear hK K
  (try simp only [Act.put, List.setIfInBounds_toArray, List.set_cons_zero, List.set_cons_succ, List.getElem_toArray, List.getElem_cons_succ, List.getElem_cons_zero])
  refine wpAnyH_done (by kernel_rfl) ?_ _
  obtain ⟨W3, hW3⟩ : ∃ W, (W2.setCell ⟨B, c, none⟩ (.int .u32 (IntKind.u32.wrap ((p3 : Int) + (o3 : Int))))).drew = W := ⟨_, rfl⟩
  rw [hW3] at hs3 hg3 ⊢
  obtain ⟨V3, hv3⟩ : ∃ z, Pl.mixS V2 c d = z := ⟨_, rfl⟩
  have hV3 : V3.length = 16 := by rw [← hv3, Pl.mixS_len]; exact hV2
  have hA3 : Pl.All32 V3 := by rw [← hv3]; exact Pl.mixS_all hA2 _ _
  rw [hv3] at hs3
  have hB3 := hs3
  clear hW3 hk3 hHeld q1 q2 q3 l1 l2 hp3 ho3 hs3 
  go_wp2_with fail
  obtain ⟨p4, hp4⟩ : ∃ z, V3.getD b 0 = z := ⟨_, rfl⟩
  obtain ⟨o4, ho4⟩ : ∃ z, V3.getD c 0 = z := ⟨_, rfl⟩
  have q1 := u32s_cell hB3 b (by omega)
  have q2 := u32s_cell hB3 c (by omega)
  have q3 := frozen_of W3 B b _ _ hB3
  rw [hp4] at q1
  rw [ho4] at q2
  have l1 : p4 < 4294967296 := by rw [← hp4]; exact hA3 _
  have l2 : o4 < 4294967296 := by rw [← ho4]; exact hA3 _
  refine wp_region_held_drew (S := (fun w' => w'.cell? ⟨B, c, none⟩ = some (.int .u32 (o4 : Int)))) (by kernel_rfl) (by exact q2) (fun hHeld => ?_)
  have ex : bits .xor .u32 (p4 : Int) (o4 : Int) = ((p4 ^^^ o4 : Nat) : Int) := Go.u32_xor_nat _ _ l1 l2
  refine wpAnyH_take (i := 0) (v := ?_) rfl (by kernel_rfl) (by kernel_rfl) (by kernel_rfl) (fun _ _ _ h => h) (Or.inl ⟨by kernel_rfl, ?_⟩) hHeld ?_
  rotate_left
  · (intro w' hSw; (try dsimp only at hSw); go_simp; try with_reducible rfl)
  simp only [Act.put, List.setIfInBounds_toArray, List.set_cons_zero, List.set_cons_succ, List.getElem_toArray, List.getElem_cons_succ, List.getElem_cons_zero]
  refine wpAnyH_take (i := 1) (v := ?_) rfl (by kernel_rfl) (by kernel_rfl) (by kernel_rfl) (fun _ _ _ h => h) (Or.inl ⟨by kernel_rfl, ?_⟩) hHeld ?_
  rotate_left
  · (intro w' hSw; (try dsimp only at hSw); go_simp; try with_reducible rfl)
  simp only [Act.put, List.setIfInBounds_toArray, List.set_cons_zero, List.set_cons_succ, List.getElem_toArray, List.getElem_cons_succ, List.getElem_cons_zero]
  refine wpAnyH_take (i := 2) (v := ?_) rfl (by kernel_rfl) (by kernel_rfl) (by kernel_rfl) (fun _ _ _ h => h) (Or.inl ⟨by kernel_rfl, ?_⟩) hHeld ?_
  rotate_left
  · (intro w' hSw; (try dsimp only at hSw); go_simp; try with_reducible rfl)
  simp only [Act.put, List.setIfInBounds_toArray, List.set_cons_zero, List.set_cons_succ, List.getElem_toArray, List.getElem_cons_succ, List.getElem_cons_zero]
  refine wpAnyH_take (i := 4) (v := ?_) rfl (by kernel_rfl) (by kernel_rfl) (by kernel_rfl) (fun _ _ _ h => h) (Or.inl ⟨by kernel_rfl, ?_⟩) hHeld ?_
  rotate_left
  · (intro w' hSw; (try dsimp only at hSw); go_simp; try with_reducible rfl)
  simp only [Act.put, List.setIfInBounds_toArray, List.set_cons_zero, List.set_cons_succ, List.getElem_toArray, List.getElem_cons_succ, List.getElem_cons_zero]
  refine wpAnyH_take (i := 5) (v := ?_) rfl (by kernel_rfl) (by kernel_rfl) (by kernel_rfl) (fun _ _ _ h => h) (Or.inl ⟨by kernel_rfl, ?_⟩) hHeld ?_
  rotate_left
  · (intro w' hSw; (try dsimp only at hSw); go_simp; try with_reducible rfl)
  simp only [Act.put, List.setIfInBounds_toArray, List.set_cons_zero, List.set_cons_succ, List.getElem_toArray, List.getElem_cons_succ, List.getElem_cons_zero]
  refine wpAnyH_take (i := 6) (v := ?_) rfl (by kernel_rfl) (by kernel_rfl) (by kernel_rfl) (fun _ _ _ h => h) (Or.inl ⟨by kernel_rfl, ?_⟩) hHeld ?_
  rotate_left
  · (intro w' hSw; (try dsimp only at hSw); go_simp; try with_reducible rfl)
  simp only [Act.put, List.setIfInBounds_toArray, List.set_cons_zero, List.set_cons_succ, List.getElem_toArray, List.getElem_cons_succ, List.getElem_cons_zero]
  refine wpAnyH_ready (rs := [3]) (by kernel_rfl) (by simp) (AllReadyH.cons rfl (fun K hK => ?_) AllReadyH.nil)
  go_simp
  refine hK.out _ _ hHeld (fun hHeld => ?_)
  clear hK K
  (try simp only [Act.put, List.setIfInBounds_toArray, List.set_cons_zero, List.set_cons_succ, List.getElem_toArray, List.getElem_cons_succ, List.getElem_cons_zero])
  refine wpAnyH_take (i := 7) (v := ?_) rfl (by kernel_rfl) (by kernel_rfl) (by kernel_rfl) (fun _ _ _ h => h) (Or.inl ⟨by kernel_rfl, ?_⟩) hHeld ?_
  rotate_left
  · (intro w' hSw; (try dsimp only at hSw); go_simp; try with_reducible rfl)
  simp only [Act.put, List.setIfInBounds_toArray, List.set_cons_zero, List.set_cons_succ, List.getElem_toArray, List.getElem_cons_succ, List.getElem_cons_zero]
  refine still_take (i := 8) (v := (.int .u32 ((Pl.rotl (p4 ^^^ o4) 12) : Int))) rfl (by kernel_rfl) (fun _ _ _ h => h) _ _ _ _ (by kernel_rfl) (by kernel_rfl) ⟨by rfl, _, _, fun w' hSw => ⟨?_, (rot_p12 _ w' (Pl.xor_lt l1 l2))⟩⟩ hHeld ?_
  · (try dsimp only at hSw); go_simp; try with_reducible rfl
  simp only [Act.put, List.setIfInBounds_toArray, List.set_cons_zero, List.set_cons_succ, List.getElem_toArray, List.getElem_cons_succ, List.getElem_cons_zero]
  refine wpAnyH_take (i := 9) (v := ?_) rfl (by kernel_rfl) (by kernel_rfl) (by kernel_rfl) (fun _ _ _ h => h) (Or.inl ⟨by kernel_rfl, ?_⟩) hHeld ?_
  rotate_left
  · (intro w' hSw; (try dsimp only at hSw); go_simp; try with_reducible rfl)
  simp only [Act.put, List.setIfInBounds_toArray, List.set_cons_zero, List.set_cons_succ, List.getElem_toArray, List.getElem_cons_succ, List.getElem_cons_zero]
  refine wpAnyH_ready (rs := [10]) (by kernel_rfl) (by simp) (AllReadyH.cons rfl (fun K hK => ?_) AllReadyH.nil)
  go_simp
  have hs4 : (W3.setCell ⟨B, b, none⟩ (.int .u32 ((Pl.rotl (p4 ^^^ o4) 12) : Int))).drew.heap[B]? = some (.cells (u32s (Pl.mixX V3 b c 12)).toArray 135 (0, 0)) := by
    have := u32s_store hB3 b (Pl.rotl (p4 ^^^ o4) 12)
    unfold Pl.mixX
    rw [hp4, ho4, (rfl : ((Pl.rotl (p4 ^^^ o4) 12) : Int) = (((Pl.rotl (p4 ^^^ o4) 12) : Nat) : Int))]
    exact this
  have hg4 : w.grownBy (W3.setCell ⟨B, b, none⟩ (.int .u32 ((Pl.rotl (p4 ^^^ o4) 12) : Int))).drew (some B) := hg3.trans (grown_drew (grown_set _ _ _ _))
  have hk4 : (W3.setCell ⟨B, b, none⟩ (.int .u32 ((Pl.rotl (p4 ^^^ o4) 12) : Int))).drew.cell? ⟨B, c, none⟩ = some (.int .u32 (o4 : Int)) := by
    rw [u32s_cell hs4 c (by rw [Pl.mixX_len]; omega)]
    unfold Pl.mixX
    rw [getD_set_ne' _ hbc, ho4]
  refine hK.out _ _ hk4 (fun hHeld => ?_)
  clear hK K
  (try simp only [Act.put, List.setIfInBounds_toArray, List.set_cons_zero, List.set_cons_succ, List.getElem_toArray, List.getElem_cons_succ, List.getElem_cons_zero])
  refine wpAnyH_done (by kernel_rfl) ?_ _
  obtain ⟨W4, hW4⟩ : ∃ W, (W3.setCell ⟨B, b, none⟩ (.int .u32 ((Pl.rotl (p4 ^^^ o4) 12) : Int))).drew = W := ⟨_, rfl⟩
  rw [hW4] at hs4 hg4 ⊢
  obtain ⟨V4, hv4⟩ : ∃ z, Pl.mixX V3 b c 12 = z := ⟨_, rfl⟩
  have hV4 : V4.length = 16 := by rw [← hv4, Pl.mixX_len]; exact hV3
  have hA4 : Pl.All32 V4 := by rw [← hv4]; exact Pl.mixX_all hA3 _ _ _
  rw [hv4] at hs4
  have hB4 := hs4
  clear hW4 hk4 hHeld q1 q2 q3 l1 l2 hp4 ho4 hs4 ex
  go_wp2_with fail
  obtain ⟨p5, hp5⟩ : ∃ z, V4.getD a 0 = z := ⟨_, rfl⟩
  obtain ⟨o5, ho5⟩ : ∃ z, V4.getD b 0 = z := ⟨_, rfl⟩
  have q1 := u32s_cell hB4 a (by omega)
  have q2 := u32s_cell hB4 b (by omega)
  have q3 := frozen_of W4 B a _ _ hB4
  rw [hp5] at q1
  rw [ho5] at q2
  have l1 : p5 < 4294967296 := by rw [← hp5]; exact hA4 _
  have l2 : o5 < 4294967296 := by rw [← ho5]; exact hA4 _
  refine wp_region_held_drew (S := (fun w' => w'.cell? ⟨B, b, none⟩ = some (.int .u32 (o5 : Int)))) (by kernel_rfl) (by exact q2) (fun hHeld => ?_)
  refine wpAnyH_take (i := 0) (v := ?_) rfl (by kernel_rfl) (by kernel_rfl) (by kernel_rfl) (fun _ _ _ h => h) (Or.inl ⟨by kernel_rfl, ?_⟩) hHeld ?_
  rotate_left
  · (intro w' hSw; (try dsimp only at hSw); go_simp; try with_reducible rfl)
  simp only [Act.put, List.setIfInBounds_toArray, List.set_cons_zero, List.set_cons_succ, List.getElem_toArray, List.getElem_cons_succ, List.getElem_cons_zero]
  refine wpAnyH_take (i := 1) (v := ?_) rfl (by kernel_rfl) (by kernel_rfl) (by kernel_rfl) (fun _ _ _ h => h) (Or.inl ⟨by kernel_rfl, ?_⟩) hHeld ?_
  rotate_left
  · (intro w' hSw; (try dsimp only at hSw); go_simp; try with_reducible rfl)
  simp only [Act.put, List.setIfInBounds_toArray, List.set_cons_zero, List.set_cons_succ, List.getElem_toArray, List.getElem_cons_succ, List.getElem_cons_zero]
  refine wpAnyH_take (i := 3) (v := ?_) rfl (by kernel_rfl) (by kernel_rfl) (by kernel_rfl) (fun _ _ _ h => h) (Or.inl ⟨by kernel_rfl, ?_⟩) hHeld ?_
  rotate_left
  · (intro w' hSw; (try dsimp only at hSw); go_simp; try with_reducible rfl)
  simp only [Act.put, List.setIfInBounds_toArray, List.set_cons_zero, List.set_cons_succ, List.getElem_toArray, List.getElem_cons_succ, List.getElem_cons_zero]
  refine wpAnyH_take (i := 4) (v := ?_) rfl (by kernel_rfl) (by kernel_rfl) (by kernel_rfl) (fun _ _ _ h => h) (Or.inl ⟨by kernel_rfl, ?_⟩) hHeld ?_
  rotate_left
  · (intro w' hSw; (try dsimp only at hSw); go_simp; try with_reducible rfl)
  simp only [Act.put, List.setIfInBounds_toArray, List.set_cons_zero, List.set_cons_succ, List.getElem_toArray, List.getElem_cons_succ, List.getElem_cons_zero]
  refine wpAnyH_take (i := 5) (v := ?_) rfl (by kernel_rfl) (by kernel_rfl) (by kernel_rfl) (fun _ _ _ h => h) (Or.inl ⟨by kernel_rfl, ?_⟩) hHeld ?_
  rotate_left
  · (intro w' hSw; (try dsimp only at hSw); go_simp; try with_reducible rfl)
  simp only [Act.put, List.setIfInBounds_toArray, List.set_cons_zero, List.set_cons_succ, List.getElem_toArray, List.getElem_cons_succ, List.getElem_cons_zero]
  refine wpAnyH_ready (rs := [2]) (by kernel_rfl) (by simp) (AllReadyH.cons rfl (fun K hK => ?_) AllReadyH.nil)
  go_simp
  refine hK.out _ _ hHeld (fun hHeld => ?_)
  clear hK K
  (try simp only [Act.put, List.setIfInBounds_toArray, List.set_cons_zero, List.set_cons_succ, List.getElem_toArray, List.getElem_cons_succ, List.getElem_cons_zero])
  refine wpAnyH_take (i := 6) (v := ?_) rfl (by kernel_rfl) (by kernel_rfl) (by kernel_rfl) (fun _ _ _ h => h) (Or.inl ⟨by kernel_rfl, ?_⟩) hHeld ?_
  rotate_left
  · (intro w' hSw; (try dsimp only at hSw); go_simp; try with_reducible rfl)
  simp only [Act.put, List.setIfInBounds_toArray, List.set_cons_zero, List.set_cons_succ, List.getElem_toArray, List.getElem_cons_succ, List.getElem_cons_zero]
  refine wpAnyH_take (i := 7) (v := ?_) rfl (by kernel_rfl) (by kernel_rfl) (by kernel_rfl) (fun _ _ _ h => h) (Or.inl ⟨by kernel_rfl, ?_⟩) hHeld ?_
  rotate_left
  · (intro w' hSw; (try dsimp only at hSw); go_simp; try with_reducible rfl)
  simp only [Act.put, List.setIfInBounds_toArray, List.set_cons_zero, List.set_cons_succ, List.getElem_toArray, List.getElem_cons_succ, List.getElem_cons_zero]
  refine wpAnyH_ready (rs := [8]) (by kernel_rfl) (by simp) (AllReadyH.cons rfl (fun K hK => ?_) AllReadyH.nil)
  go_simp
  have hs5 : (W4.setCell ⟨B, a, none⟩ (.int .u32 (IntKind.u32.wrap ((p5 : Int) + (o5 : Int))))).drew.heap[B]? = some (.cells (u32s (Pl.mixS V4 a b)).toArray 135 (0, 0)) := by
    have := u32s_store hB4 a (Pl.add32 p5 o5)
    unfold Pl.mixS
    rw [hp5, ho5, (add_one p5 o5 : (IntKind.u32.wrap ((p5 : Int) + (o5 : Int))) = (((Pl.add32 p5 o5) : Nat) : Int))]
    exact this
  have hg5 : w.grownBy (W4.setCell ⟨B, a, none⟩ (.int .u32 (IntKind.u32.wrap ((p5 : Int) + (o5 : Int))))).drew (some B) := hg4.trans (grown_drew (grown_set _ _ _ _))
  have hk5 : (W4.setCell ⟨B, a, none⟩ (.int .u32 (IntKind.u32.wrap ((p5 : Int) + (o5 : Int))))).drew.cell? ⟨B, b, none⟩ = some (.int .u32 (o5 : Int)) := by
    rw [u32s_cell hs5 b (by rw [Pl.mixS_len]; omega)]
    unfold Pl.mixS
    rw [getD_set_ne' _ hab, ho5]
  refine hK.out _ _ hk5 (fun hHeld => ?_)
  clear hK K
  (try simp only [Act.put, List.setIfInBounds_toArray, List.set_cons_zero, List.set_cons_succ, List.getElem_toArray, List.getElem_cons_succ, List.getElem_cons_zero])
  refine wpAnyH_done (by kernel_rfl) ?_ _
  obtain ⟨W5, hW5⟩ : ∃ W, (W4.setCell ⟨B, a, none⟩ (.int .u32 (IntKind.u32.wrap ((p5 : Int) + (o5 : Int))))).drew = W := ⟨_, rfl⟩
  rw [hW5] at hs5 hg5 ⊢
  obtain ⟨V5, hv5⟩ : ∃ z, Pl.mixS V4 a b = z := ⟨_, rfl⟩
  have hV5 : V5.length = 16 := by rw [← hv5, Pl.mixS_len]; exact hV4
  have hA5 : Pl.All32 V5 := by rw [← hv5]; exact Pl.mixS_all hA4 _ _
  rw [hv5] at hs5
  have hB5 := hs5
  clear hW5 hk5 hHeld q1 q2 q3 l1 l2 hp5 ho5 hs5 
  go_wp2_with fail
  obtain ⟨p6, hp6⟩ : ∃ z, V5.getD d 0 = z := ⟨_, rfl⟩
  obtain ⟨o6, ho6⟩ : ∃ z, V5.getD a 0 = z := ⟨_, rfl⟩
  have q1 := u32s_cell hB5 d (by omega)
  have q2 := u32s_cell hB5 a (by omega)
  have q3 := frozen_of W5 B d _ _ hB5
  rw [hp6] at q1
  rw [ho6] at q2
  have l1 : p6 < 4294967296 := by rw [← hp6]; exact hA5 _
  have l2 : o6 < 4294967296 := by rw [← ho6]; exact hA5 _
  refine wp_region_held_drew (S := (fun w' => w'.cell? ⟨B, a, none⟩ = some (.int .u32 (o6 : Int)))) (by kernel_rfl) (by exact q2) (fun hHeld => ?_)
  have ex : bits .xor .u32 (p6 : Int) (o6 : Int) = ((p6 ^^^ o6 : Nat) : Int) := Go.u32_xor_nat _ _ l1 l2
  refine wpAnyH_take (i := 0) (v := ?_) rfl (by kernel_rfl) (by kernel_rfl) (by kernel_rfl) (fun _ _ _ h => h) (Or.inl ⟨by kernel_rfl, ?_⟩) hHeld ?_
  rotate_left
  · (intro w' hSw; (try dsimp only at hSw); go_simp; try with_reducible rfl)
  simp only [Act.put, List.setIfInBounds_toArray, List.set_cons_zero, List.set_cons_succ, List.getElem_toArray, List.getElem_cons_succ, List.getElem_cons_zero]
  refine wpAnyH_take (i := 1) (v := ?_) rfl (by kernel_rfl) (by kernel_rfl) (by kernel_rfl) (fun _ _ _ h => h) (Or.inl ⟨by kernel_rfl, ?_⟩) hHeld ?_
  rotate_left
  · (intro w' hSw; (try dsimp only at hSw); go_simp; try with_reducible rfl)
  simp only [Act.put, List.setIfInBounds_toArray, List.set_cons_zero, List.set_cons_succ, List.getElem_toArray, List.getElem_cons_succ, List.getElem_cons_zero]
  refine wpAnyH_take (i := 2) (v := ?_) rfl (by kernel_rfl) (by kernel_rfl) (by kernel_rfl) (fun _ _ _ h => h) (Or.inl ⟨by kernel_rfl, ?_⟩) hHeld ?_
  rotate_left
  · (intro w' hSw; (try dsimp only at hSw); go_simp; try with_reducible rfl)
  simp only [Act.put, List.setIfInBounds_toArray, List.set_cons_zero, List.set_cons_succ, List.getElem_toArray, List.getElem_cons_succ, List.getElem_cons_zero]
  refine wpAnyH_take (i := 4) (v := ?_) rfl (by kernel_rfl) (by kernel_rfl) (by kernel_rfl) (fun _ _ _ h => h) (Or.inl ⟨by kernel_rfl, ?_⟩) hHeld ?_
  rotate_left
  · (intro w' hSw; (try dsimp only at hSw); go_simp; try with_reducible rfl)
  simp only [Act.put, List.setIfInBounds_toArray, List.set_cons_zero, List.set_cons_succ, List.getElem_toArray, List.getElem_cons_succ, List.getElem_cons_zero]
  refine wpAnyH_take (i := 5) (v := ?_) rfl (by kernel_rfl) (by kernel_rfl) (by kernel_rfl) (fun _ _ _ h => h) (Or.inl ⟨by kernel_rfl, ?_⟩) hHeld ?_
  rotate_left
  · (intro w' hSw; (try dsimp only at hSw); go_simp; try with_reducible rfl)
  simp only [Act.put, List.setIfInBounds_toArray, List.set_cons_zero, List.set_cons_succ, List.getElem_toArray, List.getElem_cons_succ, List.getElem_cons_zero]
  refine wpAnyH_take (i := 6) (v := ?_) rfl (by kernel_rfl) (by kernel_rfl) (by kernel_rfl) (fun _ _ _ h => h) (Or.inl ⟨by kernel_rfl, ?_⟩) hHeld ?_
  rotate_left
  · (intro w' hSw; (try dsimp only at hSw); go_simp; try with_reducible rfl)
  simp only [Act.put, List.setIfInBounds_toArray, List.set_cons_zero, List.set_cons_succ, List.getElem_toArray, List.getElem_cons_succ, List.getElem_cons_zero]
  refine wpAnyH_ready (rs := [3]) (by kernel_rfl) (by simp) (AllReadyH.cons rfl (fun K hK => ?_) AllReadyH.nil)
  go_simp
  refine hK.out _ _ hHeld (fun hHeld => ?_)
  clear hK K
  (try simp only [Act.put, List.setIfInBounds_toArray, List.set_cons_zero, List.set_cons_succ, List.getElem_toArray, List.getElem_cons_succ, List.getElem_cons_zero])
  refine wpAnyH_take (i := 7) (v := ?_) rfl (by kernel_rfl) (by kernel_rfl) (by kernel_rfl) (fun _ _ _ h => h) (Or.inl ⟨by kernel_rfl, ?_⟩) hHeld ?_
  rotate_left
  · (intro w' hSw; (try dsimp only at hSw); go_simp; try with_reducible rfl)
  simp only [Act.put, List.setIfInBounds_toArray, List.set_cons_zero, List.set_cons_succ, List.getElem_toArray, List.getElem_cons_succ, List.getElem_cons_zero]
  refine still_take (i := 8) (v := (.int .u32 ((Pl.rotl (p6 ^^^ o6) 8) : Int))) rfl (by kernel_rfl) (fun _ _ _ h => h) _ _ _ _ (by kernel_rfl) (by kernel_rfl) ⟨by rfl, _, _, fun w' hSw => ⟨?_, (rot_p8 _ w' (Pl.xor_lt l1 l2))⟩⟩ hHeld ?_
  · (try dsimp only at hSw); go_simp; try with_reducible rfl
  simp only [Act.put, List.setIfInBounds_toArray, List.set_cons_zero, List.set_cons_succ, List.getElem_toArray, List.getElem_cons_succ, List.getElem_cons_zero]
  refine wpAnyH_take (i := 9) (v := ?_) rfl (by kernel_rfl) (by kernel_rfl) (by kernel_rfl) (fun _ _ _ h => h) (Or.inl ⟨by kernel_rfl, ?_⟩) hHeld ?_
  rotate_left
  · (intro w' hSw; (try dsimp only at hSw); go_simp; try with_reducible rfl)
  simp only [Act.put, List.setIfInBounds_toArray, List.set_cons_zero, List.set_cons_succ, List.getElem_toArray, List.getElem_cons_succ, List.getElem_cons_zero]
  refine wpAnyH_ready (rs := [10]) (by kernel_rfl) (by simp) (AllReadyH.cons rfl (fun K hK => ?_) AllReadyH.nil)
  go_simp
  have hs6 : (W5.setCell ⟨B, d, none⟩ (.int .u32 ((Pl.rotl (p6 ^^^ o6) 8) : Int))).drew.heap[B]? = some (.cells (u32s (Pl.mixX V5 d a 8)).toArray 135 (0, 0)) := by
    have := u32s_store hB5 d (Pl.rotl (p6 ^^^ o6) 8)
    unfold Pl.mixX
    rw [hp6, ho6, (rfl : ((Pl.rotl (p6 ^^^ o6) 8) : Int) = (((Pl.rotl (p6 ^^^ o6) 8) : Nat) : Int))]
    exact this
  have hg6 : w.grownBy (W5.setCell ⟨B, d, none⟩ (.int .u32 ((Pl.rotl (p6 ^^^ o6) 8) : Int))).drew (some B) := hg5.trans (grown_drew (grown_set _ _ _ _))
  have hk6 : (W5.setCell ⟨B, d, none⟩ (.int .u32 ((Pl.rotl (p6 ^^^ o6) 8) : Int))).drew.cell? ⟨B, a, none⟩ = some (.int .u32 (o6 : Int)) := by
    rw [u32s_cell hs6 a (by rw [Pl.mixX_len]; omega)]
    unfold Pl.mixX
    rw [getD_set_ne' _ hda, ho6]
  refine hK.out _ _ hk6 (fun hHeld => ?_)
  clear hK K
  (try simp only [Act.put, List.setIfInBounds_toArray, List.set_cons_zero, List.set_cons_succ, List.getElem_toArray, List.getElem_cons_succ, List.getElem_cons_zero])
  refine wpAnyH_done (by kernel_rfl) ?_ _
  obtain ⟨W6, hW6⟩ : ∃ W, (W5.setCell ⟨B, d, none⟩ (.int .u32 ((Pl.rotl (p6 ^^^ o6) 8) : Int))).drew = W := ⟨_, rfl⟩
  rw [hW6] at hs6 hg6 ⊢
  obtain ⟨V6, hv6⟩ : ∃ z, Pl.mixX V5 d a 8 = z := ⟨_, rfl⟩
  have hV6 : V6.length = 16 := by rw [← hv6, Pl.mixX_len]; exact hV5
  have hA6 : Pl.All32 V6 := by rw [← hv6]; exact Pl.mixX_all hA5 _ _ _
  rw [hv6] at hs6
  have hB6 := hs6
  clear hW6 hk6 hHeld q1 q2 q3 l1 l2 hp6 ho6 hs6 ex
  go_wp2_with fail
  obtain ⟨p7, hp7⟩ : ∃ z, V6.getD c 0 = z := ⟨_, rfl⟩
  obtain ⟨o7, ho7⟩ : ∃ z, V6.getD d 0 = z := ⟨_, rfl⟩
  have q1 := u32s_cell hB6 c (by omega)
  have q2 := u32s_cell hB6 d (by omega)
  have q3 := frozen_of W6 B c _ _ hB6
  rw [hp7] at q1
  rw [ho7] at q2
  have l1 : p7 < 4294967296 := by rw [← hp7]; exact hA6 _
  have l2 : o7 < 4294967296 := by rw [← ho7]; exact hA6 _
  refine wp_region_held_drew (S := (fun w' => w'.cell? ⟨B, d, none⟩ = some (.int .u32 (o7 : Int)))) (by kernel_rfl) (by exact q2) (fun hHeld => ?_)
  refine wpAnyH_take (i := 0) (v := ?_) rfl (by kernel_rfl) (by kernel_rfl) (by kernel_rfl) (fun _ _ _ h => h) (Or.inl ⟨by kernel_rfl, ?_⟩) hHeld ?_
  rotate_left
  · (intro w' hSw; (try dsimp only at hSw); go_simp; try with_reducible rfl)
  simp only [Act.put, List.setIfInBounds_toArray, List.set_cons_zero, List.set_cons_succ, List.getElem_toArray, List.getElem_cons_succ, List.getElem_cons_zero]
  refine wpAnyH_take (i := 1) (v := ?_) rfl (by kernel_rfl) (by kernel_rfl) (by kernel_rfl) (fun _ _ _ h => h) (Or.inl ⟨by kernel_rfl, ?_⟩) hHeld ?_
  rotate_left
  · (intro w' hSw; (try dsimp only at hSw); go_simp; try with_reducible rfl)
  simp only [Act.put, List.setIfInBounds_toArray, List.set_cons_zero, List.set_cons_succ, List.getElem_toArray, List.getElem_cons_succ, List.getElem_cons_zero]
  refine wpAnyH_take (i := 3) (v := ?_) rfl (by kernel_rfl) (by kernel_rfl) (by kernel_rfl) (fun _ _ _ h => h) (Or.inl ⟨by kernel_rfl, ?_⟩) hHeld ?_
  rotate_left
  · (intro w' hSw; (try dsimp only at hSw); go_simp; try with_reducible rfl)
  simp only [Act.put, List.setIfInBounds_toArray, List.set_cons_zero, List.set_cons_succ, List.getElem_toArray, List.getElem_cons_succ, List.getElem_cons_zero]
  refine wpAnyH_take (i := 4) (v := ?_) rfl (by kernel_rfl) (by kernel_rfl) (by kernel_rfl) (fun _ _ _ h => h) (Or.inl ⟨by kernel_rfl, ?_⟩) hHeld ?_
  rotate_left
  · (intro w' hSw; (try dsimp only at hSw); go_simp; try with_reducible rfl)
  simp only [Act.put, List.setIfInBounds_toArray, List.set_cons_zero, List.set_cons_succ, List.getElem_toArray, List.getElem_cons_succ, List.getElem_cons_zero]
  refine wpAnyH_take (i := 5) (v := ?_) rfl (by kernel_rfl) (by kernel_rfl) (by kernel_rfl) (fun _ _ _ h => h) (Or.inl ⟨by kernel_rfl, ?_⟩) hHeld ?_
  rotate_left
  · (intro w' hSw; (try dsimp only at hSw); go_simp; try with_reducible rfl)
  simp only [Act.put, List.setIfInBounds_toArray, List.set_cons_zero, List.set_cons_succ, List.getElem_toArray, List.getElem_cons_succ, List.getElem_cons_zero]
  refine wpAnyH_ready (rs := [2]) (by kernel_rfl) (by simp) (AllReadyH.cons rfl (fun K hK => ?_) AllReadyH.nil)
  go_simp
  refine hK.out _ _ hHeld (fun hHeld => ?_)
  clear hK K
  (try simp only [Act.put, List.setIfInBounds_toArray, List.set_cons_zero, List.set_cons_succ, List.getElem_toArray, List.getElem_cons_succ, List.getElem_cons_zero])
  refine wpAnyH_take (i := 6) (v := ?_) rfl (by kernel_rfl) (by kernel_rfl) (by kernel_rfl) (fun _ _ _ h => h) (Or.inl ⟨by kernel_rfl, ?_⟩) hHeld ?_
  rotate_left
  · (intro w' hSw; (try dsimp only at hSw); go_simp; try with_reducible rfl)
  simp only [Act.put, List.setIfInBounds_toArray, List.set_cons_zero, List.set_cons_succ, List.getElem_toArray, List.getElem_cons_succ, List.getElem_cons_zero]
  refine wpAnyH_take (i := 7) (v := ?_) rfl (by kernel_rfl) (by kernel_rfl) (by kernel_rfl) (fun _ _ _ h => h) (Or.inl ⟨by kernel_rfl, ?_⟩) hHeld ?_
  rotate_left
  · (intro w' hSw; (try dsimp only at hSw); go_simp; try with_reducible rfl)
  simp only [Act.put, List.setIfInBounds_toArray, List.set_cons_zero, List.set_cons_succ, List.getElem_toArray, List.getElem_cons_succ, List.getElem_cons_zero]
  refine wpAnyH_ready (rs := [8]) (by kernel_rfl) (by simp) (AllReadyH.cons rfl (fun K hK => ?_) AllReadyH.nil)
  go_simp
  have hs7 : (W6.setCell ⟨B, c, none⟩ (.int .u32 (IntKind.u32.wrap ((p7 : Int) + (o7 : Int))))).drew.heap[B]? = some (.cells (u32s (Pl.mixS V6 c d)).toArray 135 (0, 0)) := by
    have := u32s_store hB6 c (Pl.add32 p7 o7)
    unfold Pl.mixS
    rw [hp7, ho7, (add_one p7 o7 : (IntKind.u32.wrap ((p7 : Int) + (o7 : Int))) = (((Pl.add32 p7 o7) : Nat) : Int))]
    exact this
  have hg7 : w.grownBy (W6.setCell ⟨B, c, none⟩ (.int .u32 (IntKind.u32.wrap ((p7 : Int) + (o7 : Int))))).drew (some B) := hg6.trans (grown_drew (grown_set _ _ _ _))
  have hk7 : (W6.setCell ⟨B, c, none⟩ (.int .u32 (IntKind.u32.wrap ((p7 : Int) + (o7 : Int))))).drew.cell? ⟨B, d, none⟩ = some (.int .u32 (o7 : Int)) := by
    rw [u32s_cell hs7 d (by rw [Pl.mixS_len]; omega)]
    unfold Pl.mixS
    rw [getD_set_ne' _ hcd, ho7]
  refine hK.out _ _ hk7 (fun hHeld => ?_)
  clear hK K
  (try simp only [Act.put, List.setIfInBounds_toArray, List.set_cons_zero, List.set_cons_succ, List.getElem_toArray, List.getElem_cons_succ, List.getElem_cons_zero])
  refine wpAnyH_done (by kernel_rfl) ?_ _
  obtain ⟨W7, hW7⟩ : ∃ W, (W6.setCell ⟨B, c, none⟩ (.int .u32 (IntKind.u32.wrap ((p7 : Int) + (o7 : Int))))).drew = W := ⟨_, rfl⟩
  rw [hW7] at hs7 hg7 ⊢
  obtain ⟨V7, hv7⟩ : ∃ z, Pl.mixS V6 c d = z := ⟨_, rfl⟩
  have hV7 : V7.length = 16 := by rw [← hv7, Pl.mixS_len]; exact hV6
  have hA7 : Pl.All32 V7 := by rw [← hv7]; exact Pl.mixS_all hA6 _ _
  rw [hv7] at hs7
  have hB7 := hs7
  clear hW7 hk7 hHeld q1 q2 q3 l1 l2 hp7 ho7 hs7 
  go_wp2_with fail
  obtain ⟨p8, hp8⟩ : ∃ z, V7.getD b 0 = z := ⟨_, rfl⟩
  obtain ⟨o8, ho8⟩ : ∃ z, V7.getD c 0 = z := ⟨_, rfl⟩
  have q1 := u32s_cell hB7 b (by omega)
  have q2 := u32s_cell hB7 c (by omega)
  have q3 := frozen_of W7 B b _ _ hB7
  rw [hp8] at q1
  rw [ho8] at q2
  have l1 : p8 < 4294967296 := by rw [← hp8]; exact hA7 _
  have l2 : o8 < 4294967296 := by rw [← ho8]; exact hA7 _
  refine wp_region_held_drew (S := (fun w' => w'.cell? ⟨B, c, none⟩ = some (.int .u32 (o8 : Int)))) (by kernel_rfl) (by exact q2) (fun hHeld => ?_)
  have ex : bits .xor .u32 (p8 : Int) (o8 : Int) = ((p8 ^^^ o8 : Nat) : Int) := Go.u32_xor_nat _ _ l1 l2
  refine wpAnyH_take (i := 0) (v := ?_) rfl (by kernel_rfl) (by kernel_rfl) (by kernel_rfl) (fun _ _ _ h => h) (Or.inl ⟨by kernel_rfl, ?_⟩) hHeld ?_
  rotate_left
  · (intro w' hSw; (try dsimp only at hSw); go_simp; try with_reducible rfl)
  simp only [Act.put, List.setIfInBounds_toArray, List.set_cons_zero, List.set_cons_succ, List.getElem_toArray, List.getElem_cons_succ, List.getElem_cons_zero]
  refine wpAnyH_take (i := 1) (v := ?_) rfl (by kernel_rfl) (by kernel_rfl) (by kernel_rfl) (fun _ _ _ h => h) (Or.inl ⟨by kernel_rfl, ?_⟩) hHeld ?_
  rotate_left
  · (intro w' hSw; (try dsimp only at hSw); go_simp; try with_reducible rfl)
  simp only [Act.put, List.setIfInBounds_toArray, List.set_cons_zero, List.set_cons_succ, List.getElem_toArray, List.getElem_cons_succ, List.getElem_cons_zero]
  refine wpAnyH_take (i := 2) (v := ?_) rfl (by kernel_rfl) (by kernel_rfl) (by kernel_rfl) (fun _ _ _ h => h) (Or.inl ⟨by kernel_rfl, ?_⟩) hHeld ?_
  rotate_left
  · (intro w' hSw; (try dsimp only at hSw); go_simp; try with_reducible rfl)
  simp only [Act.put, List.setIfInBounds_toArray, List.set_cons_zero, List.set_cons_succ, List.getElem_toArray, List.getElem_cons_succ, List.getElem_cons_zero]
  refine wpAnyH_take (i := 4) (v := ?_) rfl (by kernel_rfl) (by kernel_rfl) (by kernel_rfl) (fun _ _ _ h => h) (Or.inl ⟨by kernel_rfl, ?_⟩) hHeld ?_
  rotate_left
  · (intro w' hSw; (try dsimp only at hSw); go_simp; try with_reducible rfl)
  simp only [Act.put, List.setIfInBounds_toArray, List.set_cons_zero, List.set_cons_succ, List.getElem_toArray, List.getElem_cons_succ, List.getElem_cons_zero]
  refine wpAnyH_take (i := 5) (v := ?_) rfl (by kernel_rfl) (by kernel_rfl) (by kernel_rfl) (fun _ _ _ h => h) (Or.inl ⟨by kernel_rfl, ?_⟩) hHeld ?_
  rotate_left
  · (intro w' hSw; (try dsimp only at hSw); go_simp; try with_reducible rfl)
  simp only [Act.put, List.setIfInBounds_toArray, List.set_cons_zero, List.set_cons_succ, List.getElem_toArray, List.getElem_cons_succ, List.getElem_cons_zero]
  refine wpAnyH_take (i := 6) (v := ?_) rfl (by kernel_rfl) (by kernel_rfl) (by kernel_rfl) (fun _ _ _ h => h) (Or.inl ⟨by kernel_rfl, ?_⟩) hHeld ?_
  rotate_left
  · (intro w' hSw; (try dsimp only at hSw); go_simp; try with_reducible rfl)
  simp only [Act.put, List.setIfInBounds_toArray, List.set_cons_zero, List.set_cons_succ, List.getElem_toArray, List.getElem_cons_succ, List.getElem_cons_zero]
  refine wpAnyH_ready (rs := [3]) (by kernel_rfl) (by simp) (AllReadyH.cons rfl (fun K hK => ?_) AllReadyH.nil)
  go_simp
  refine hK.out _ _ hHeld (fun hHeld => ?_)
  clear hK K
  (try simp only [Act.put, List.setIfInBounds_toArray, List.set_cons_zero, List.set_cons_succ, List.getElem_toArray, List.getElem_cons_succ, List.getElem_cons_zero])
  refine wpAnyH_take (i := 7) (v := ?_) rfl (by kernel_rfl) (by kernel_rfl) (by kernel_rfl) (fun _ _ _ h => h) (Or.inl ⟨by kernel_rfl, ?_⟩) hHeld ?_
  rotate_left
  · (intro w' hSw; (try dsimp only at hSw); go_simp; try with_reducible rfl)
  simp only [Act.put, List.setIfInBounds_toArray, List.set_cons_zero, List.set_cons_succ, List.getElem_toArray, List.getElem_cons_succ, List.getElem_cons_zero]
  refine still_take (i := 8) (v := (.int .u32 ((Pl.rotl (p8 ^^^ o8) 7) : Int))) rfl (by kernel_rfl) (fun _ _ _ h => h) _ _ _ _ (by kernel_rfl) (by kernel_rfl) ⟨by rfl, _, _, fun w' hSw => ⟨?_, (rot_p7 _ w' (Pl.xor_lt l1 l2))⟩⟩ hHeld ?_
  · (try dsimp only at hSw); go_simp; try with_reducible rfl
  simp only [Act.put, List.setIfInBounds_toArray, List.set_cons_zero, List.set_cons_succ, List.getElem_toArray, List.getElem_cons_succ, List.getElem_cons_zero]
  refine wpAnyH_take (i := 9) (v := ?_) rfl (by kernel_rfl) (by kernel_rfl) (by kernel_rfl) (fun _ _ _ h => h) (Or.inl ⟨by kernel_rfl, ?_⟩) hHeld ?_
  rotate_left
  · (intro w' hSw; (try dsimp only at hSw); go_simp; try with_reducible rfl)
  simp only [Act.put, List.setIfInBounds_toArray, List.set_cons_zero, List.set_cons_succ, List.getElem_toArray, List.getElem_cons_succ, List.getElem_cons_zero]
  refine wpAnyH_ready (rs := [10]) (by kernel_rfl) (by simp) (AllReadyH.cons rfl (fun K hK => ?_) AllReadyH.nil)
  go_simp
  have hs8 : (W7.setCell ⟨B, b, none⟩ (.int .u32 ((Pl.rotl (p8 ^^^ o8) 7) : Int))).drew.heap[B]? = some (.cells (u32s (Pl.mixX V7 b c 7)).toArray 135 (0, 0)) := by
    have := u32s_store hB7 b (Pl.rotl (p8 ^^^ o8) 7)
    unfold Pl.mixX
    rw [hp8, ho8, (rfl : ((Pl.rotl (p8 ^^^ o8) 7) : Int) = (((Pl.rotl (p8 ^^^ o8) 7) : Nat) : Int))]
    exact this
  have hg8 : w.grownBy (W7.setCell ⟨B, b, none⟩ (.int .u32 ((Pl.rotl (p8 ^^^ o8) 7) : Int))).drew (some B) := hg7.trans (grown_drew (grown_set _ _ _ _))
  have hk8 : (W7.setCell ⟨B, b, none⟩ (.int .u32 ((Pl.rotl (p8 ^^^ o8) 7) : Int))).drew.cell? ⟨B, c, none⟩ = some (.int .u32 (o8 : Int)) := by
    rw [u32s_cell hs8 c (by rw [Pl.mixX_len]; omega)]
    unfold Pl.mixX
    rw [getD_set_ne' _ hbc, ho8]
  refine hK.out _ _ hk8 (fun hHeld => ?_)
  clear hK K
  (try simp only [Act.put, List.setIfInBounds_toArray, List.set_cons_zero, List.set_cons_succ, List.getElem_toArray, List.getElem_cons_succ, List.getElem_cons_zero])
  refine wpAnyH_done (by kernel_rfl) ?_ _
  obtain ⟨W8, hW8⟩ : ∃ W, (W7.setCell ⟨B, b, none⟩ (.int .u32 ((Pl.rotl (p8 ^^^ o8) 7) : Int))).drew = W := ⟨_, rfl⟩
  rw [hW8] at hs8 hg8 ⊢
  obtain ⟨V8, hv8⟩ : ∃ z, Pl.mixX V7 b c 7 = z := ⟨_, rfl⟩
  have hV8 : V8.length = 16 := by rw [← hv8, Pl.mixX_len]; exact hV7
  have hA8 : Pl.All32 V8 := by rw [← hv8]; exact Pl.mixX_all hA7 _ _ _
  rw [hv8] at hs8
  have hB8 := hs8
  clear hW8 hk8 hHeld q1 q2 q3 l1 l2 hp8 ho8 hs8 ex
  go_wp2_with fail
  refine bodyPost_end (results_none rfl _ _ _) rfl ?_
  refine ⟨rfl, ?_, hg8⟩
  have e8 : Pl.stepC V a b c d = V8 := by
    unfold Pl.stepC
    rw [hv1, hv2, hv3, hv4, hv5, hv6, hv7, hv8]
  rw [e8]; exact hB8
end Go.Proofs.YtadoplgmeoghmaaDoor
namespace Go.Proofs.YtadoplgmeoghmaaDoor
open Go.RowKit
set_option linter.unusedVariables false
set_option linter.unusedSimpArgs false
/-- Four bytes that lie behind one another. -/
structure Four0 (W : World) (S q : Nat) (c0 c1 c2 c3 : Nat) : Prop where
  c0 : W.cell? ⟨S, q, none⟩ = some (.int .u8 (c0 : Int))
  c1 : W.cell? ⟨S, q + 1, none⟩ = some (.int .u8 (c1 : Int))
  c2 : W.cell? ⟨S, q + 2, none⟩ = some (.int .u8 (c2 : Int))
  c3 : W.cell? ⟨S, q + 3, none⟩ = some (.int .u8 (c3 : Int))
set_option maxRecDepth 1000000 in
set_option maxHeartbeats 4000000 in
theorem word_any (S q n c : Nat) (hn : 4 ≤ n) (b0 b1 b2 b3 : Nat) (x0 : b0 < 256) (x1 : b1 < 256) (x2 : b2 < 256) (x3 : b3 < 256) (w : World) (H : Four0 w S q b0 b1 b2 b3) :
    Calls Tryd.prog 88 #[.slice (some ⟨S, q, none⟩) n c] w (fun e w' => e = .returned (.int .u32 ((b0 + 256 * b1 + 65536 * b2 + 16777216 * b3 : Nat) : Int)) ∧ w' = w.drew) := by
  have w0 : IntKind.u32.wrap (b0 : Int) = b0 := by rw [IntKind.wrap_u32]; omega
  have w1 : IntKind.u32.wrap (b1 : Int) = b1 := by rw [IntKind.wrap_u32]; omega
  have w2 : IntKind.u32.wrap (b2 : Int) = b2 := by rw [IntKind.wrap_u32]; omega
  have w3 : IntKind.u32.wrap (b3 : Int) = b3 := by rw [IntKind.wrap_u32]; omega
  have v1 : IntKind.u32.wrap ((b1 : Int) * 256) = (b1 : Int) * 256 := by rw [IntKind.wrap_u32]; omega
  have v2 : IntKind.u32.wrap ((b2 : Int) * 65536) = (b2 : Int) * 65536 := by rw [IntKind.wrap_u32]; omega
  have v3 : IntKind.u32.wrap ((b3 : Int) * 16777216) = (b3 : Int) * 16777216 := by rw [IntKind.wrap_u32]; omega
  have ho := or_le4 b0 b1 b2 b3 x0 x1 x2 x3
  have n0 : 0 < n := by omega
  have n1 : (1 : Int) < (n : Int) := by omega
  have n2 : (2 : Int) < (n : Int) := by omega
  have n3 : (3 : Int) < (n : Int) := by omega
  go_enter Tryd.func88, Tryd.ntmps88
  go_wp2_with fail
  refine wp_region_held_drew (S := (fun w' => Four0 w' S q b0 b1 b2 b3)) (by kernel_rfl) (by exact ⟨H.c0, H.c1, H.c2, H.c3⟩) (fun hHeld => ?_)
  refine wpAnyH_take (i := 0) (v := ?_) rfl (by kernel_rfl) (by kernel_rfl) (by kernel_rfl) (fun _ _ _ h => h) (Or.inl ⟨by kernel_rfl, ?_⟩) hHeld ?_
  rotate_left
  · (intro w' hSw; obtain ⟨hS0, hS1, hS2, hS3⟩ := hSw; go_simp; try with_reducible rfl)
  simp only [Act.put, List.setIfInBounds_toArray, List.set_cons_zero, List.set_cons_succ, List.getElem_toArray, List.getElem_cons_succ, List.getElem_cons_zero]
  refine wpAnyH_take (i := 1) (v := ?_) rfl (by kernel_rfl) (by kernel_rfl) (by kernel_rfl) (fun _ _ _ h => h) (Or.inl ⟨by kernel_rfl, ?_⟩) hHeld ?_
  rotate_left
  · (intro w' hSw; obtain ⟨hS0, hS1, hS2, hS3⟩ := hSw; go_simp; try with_reducible rfl)
  simp only [Act.put, List.setIfInBounds_toArray, List.set_cons_zero, List.set_cons_succ, List.getElem_toArray, List.getElem_cons_succ, List.getElem_cons_zero]
  refine wpAnyH_take (i := 2) (v := ?_) rfl (by kernel_rfl) (by kernel_rfl) (by kernel_rfl) (fun _ _ _ h => h) (Or.inl ⟨by kernel_rfl, ?_⟩) hHeld ?_
  rotate_left
  · (intro w' hSw; obtain ⟨hS0, hS1, hS2, hS3⟩ := hSw; go_simp; try with_reducible rfl)
  simp only [Act.put, List.setIfInBounds_toArray, List.set_cons_zero, List.set_cons_succ, List.getElem_toArray, List.getElem_cons_succ, List.getElem_cons_zero]
  refine wpAnyH_take (i := 3) (v := ?_) rfl (by kernel_rfl) (by kernel_rfl) (by kernel_rfl) (fun _ _ _ h => h) (Or.inl ⟨by kernel_rfl, ?_⟩) hHeld ?_
  rotate_left
  · (intro w' hSw; obtain ⟨hS0, hS1, hS2, hS3⟩ := hSw; go_simp; try with_reducible rfl)
  simp only [Act.put, List.setIfInBounds_toArray, List.set_cons_zero, List.set_cons_succ, List.getElem_toArray, List.getElem_cons_succ, List.getElem_cons_zero]
  refine wpAnyH_take (i := 4) (v := ?_) rfl (by kernel_rfl) (by kernel_rfl) (by kernel_rfl) (fun _ _ _ h => h) (Or.inl ⟨by kernel_rfl, ?_⟩) hHeld ?_
  rotate_left
  · (intro w' hSw; obtain ⟨hS0, hS1, hS2, hS3⟩ := hSw; go_simp; try with_reducible rfl)
  simp only [Act.put, List.setIfInBounds_toArray, List.set_cons_zero, List.set_cons_succ, List.getElem_toArray, List.getElem_cons_succ, List.getElem_cons_zero]
  refine wpAnyH_take (i := 5) (v := ?_) rfl (by kernel_rfl) (by kernel_rfl) (by kernel_rfl) (fun _ _ _ h => h) (Or.inl ⟨by kernel_rfl, ?_⟩) hHeld ?_
  rotate_left
  · (intro w' hSw; obtain ⟨hS0, hS1, hS2, hS3⟩ := hSw; go_simp; try with_reducible rfl)
  simp only [Act.put, List.setIfInBounds_toArray, List.set_cons_zero, List.set_cons_succ, List.getElem_toArray, List.getElem_cons_succ, List.getElem_cons_zero]
  refine wpAnyH_take (i := 6) (v := ?_) rfl (by kernel_rfl) (by kernel_rfl) (by kernel_rfl) (fun _ _ _ h => h) (Or.inl ⟨by kernel_rfl, ?_⟩) hHeld ?_
  rotate_left
  · (intro w' hSw; obtain ⟨hS0, hS1, hS2, hS3⟩ := hSw; go_simp; try with_reducible rfl)
  simp only [Act.put, List.setIfInBounds_toArray, List.set_cons_zero, List.set_cons_succ, List.getElem_toArray, List.getElem_cons_succ, List.getElem_cons_zero]
  refine wpAnyH_take (i := 7) (v := ?_) rfl (by kernel_rfl) (by kernel_rfl) (by kernel_rfl) (fun _ _ _ h => h) (Or.inl ⟨by kernel_rfl, ?_⟩) hHeld ?_
  rotate_left
  · (intro w' hSw; obtain ⟨hS0, hS1, hS2, hS3⟩ := hSw; go_simp; try with_reducible rfl)
  simp only [Act.put, List.setIfInBounds_toArray, List.set_cons_zero, List.set_cons_succ, List.getElem_toArray, List.getElem_cons_succ, List.getElem_cons_zero]
  refine wpAnyH_take (i := 8) (v := ?_) rfl (by kernel_rfl) (by kernel_rfl) (by kernel_rfl) (fun _ _ _ h => h) (Or.inl ⟨by kernel_rfl, ?_⟩) hHeld ?_
  rotate_left
  · (intro w' hSw; obtain ⟨hS0, hS1, hS2, hS3⟩ := hSw; go_simp; try with_reducible rfl)
  simp only [Act.put, List.setIfInBounds_toArray, List.set_cons_zero, List.set_cons_succ, List.getElem_toArray, List.getElem_cons_succ, List.getElem_cons_zero]
  refine wpAnyH_take (i := 9) (v := ?_) rfl (by kernel_rfl) (by kernel_rfl) (by kernel_rfl) (fun _ _ _ h => h) (Or.inl ⟨by kernel_rfl, ?_⟩) hHeld ?_
  rotate_left
  · (intro w' hSw; obtain ⟨hS0, hS1, hS2, hS3⟩ := hSw; go_simp; try with_reducible rfl)
  simp only [Act.put, List.setIfInBounds_toArray, List.set_cons_zero, List.set_cons_succ, List.getElem_toArray, List.getElem_cons_succ, List.getElem_cons_zero]
  refine wpAnyH_take (i := 10) (v := ?_) rfl (by kernel_rfl) (by kernel_rfl) (by kernel_rfl) (fun _ _ _ h => h) (Or.inl ⟨by kernel_rfl, ?_⟩) hHeld ?_
  rotate_left
  · (intro w' hSw; obtain ⟨hS0, hS1, hS2, hS3⟩ := hSw; go_simp; try with_reducible rfl)
  simp only [Act.put, List.setIfInBounds_toArray, List.set_cons_zero, List.set_cons_succ, List.getElem_toArray, List.getElem_cons_succ, List.getElem_cons_zero]
  refine wpAnyH_take (i := 11) (v := ?_) rfl (by kernel_rfl) (by kernel_rfl) (by kernel_rfl) (fun _ _ _ h => h) (Or.inl ⟨by kernel_rfl, ?_⟩) hHeld ?_
  rotate_left
  · (intro w' hSw; obtain ⟨hS0, hS1, hS2, hS3⟩ := hSw; go_simp; try with_reducible rfl)
  simp only [Act.put, List.setIfInBounds_toArray, List.set_cons_zero, List.set_cons_succ, List.getElem_toArray, List.getElem_cons_succ, List.getElem_cons_zero]
  refine wpAnyH_take (i := 12) (v := ?_) rfl (by kernel_rfl) (by kernel_rfl) (by kernel_rfl) (fun _ _ _ h => h) (Or.inl ⟨by kernel_rfl, ?_⟩) hHeld ?_
  rotate_left
  · (intro w' hSw; obtain ⟨hS0, hS1, hS2, hS3⟩ := hSw; go_simp; try with_reducible rfl)
  simp only [Act.put, List.setIfInBounds_toArray, List.set_cons_zero, List.set_cons_succ, List.getElem_toArray, List.getElem_cons_succ, List.getElem_cons_zero]
  refine wpAnyH_take (i := 13) (v := ?_) rfl (by kernel_rfl) (by kernel_rfl) (by kernel_rfl) (fun _ _ _ h => h) (Or.inl ⟨by kernel_rfl, ?_⟩) hHeld ?_
  rotate_left
  · (intro w' hSw; obtain ⟨hS0, hS1, hS2, hS3⟩ := hSw; go_simp; try with_reducible rfl)
  simp only [Act.put, List.setIfInBounds_toArray, List.set_cons_zero, List.set_cons_succ, List.getElem_toArray, List.getElem_cons_succ, List.getElem_cons_zero]
  refine wpAnyH_take (i := 14) (v := ?_) rfl (by kernel_rfl) (by kernel_rfl) (by kernel_rfl) (fun _ _ _ h => h) (Or.inl ⟨by kernel_rfl, ?_⟩) hHeld ?_
  rotate_left
  · (intro w' hSw; obtain ⟨hS0, hS1, hS2, hS3⟩ := hSw; go_simp; try with_reducible rfl)
  simp only [Act.put, List.setIfInBounds_toArray, List.set_cons_zero, List.set_cons_succ, List.getElem_toArray, List.getElem_cons_succ, List.getElem_cons_zero]
  refine wpAnyH_take (i := 15) (v := ?_) rfl (by kernel_rfl) (by kernel_rfl) (by kernel_rfl) (fun _ _ _ h => h) (Or.inl ⟨by kernel_rfl, ?_⟩) hHeld ?_
  rotate_left
  · (intro w' hSw; obtain ⟨hS0, hS1, hS2, hS3⟩ := hSw; go_simp; try with_reducible rfl)
  simp only [Act.put, List.setIfInBounds_toArray, List.set_cons_zero, List.set_cons_succ, List.getElem_toArray, List.getElem_cons_succ, List.getElem_cons_zero]
  refine wpAnyH_take (i := 16) (v := ?_) rfl (by kernel_rfl) (by kernel_rfl) (by kernel_rfl) (fun _ _ _ h => h) (Or.inl ⟨by kernel_rfl, ?_⟩) hHeld ?_
  rotate_left
  · (intro w' hSw; obtain ⟨hS0, hS1, hS2, hS3⟩ := hSw; go_simp; try with_reducible rfl)
  simp only [Act.put, List.setIfInBounds_toArray, List.set_cons_zero, List.set_cons_succ, List.getElem_toArray, List.getElem_cons_succ, List.getElem_cons_zero]
  refine wpAnyH_take (i := 17) (v := ?_) rfl (by kernel_rfl) (by kernel_rfl) (by kernel_rfl) (fun _ _ _ h => h) (Or.inl ⟨by kernel_rfl, ?_⟩) hHeld ?_
  rotate_left
  · (intro w' hSw; obtain ⟨hS0, hS1, hS2, hS3⟩ := hSw; go_simp; try with_reducible rfl)
  simp only [Act.put, List.setIfInBounds_toArray, List.set_cons_zero, List.set_cons_succ, List.getElem_toArray, List.getElem_cons_succ, List.getElem_cons_zero]
  refine wpAnyH_take (i := 18) (v := ?_) rfl (by kernel_rfl) (by kernel_rfl) (by kernel_rfl) (fun _ _ _ h => h) (Or.inl ⟨by kernel_rfl, ?_⟩) hHeld ?_
  rotate_left
  · (intro w' hSw; obtain ⟨hS0, hS1, hS2, hS3⟩ := hSw; go_simp; try with_reducible rfl)
  simp only [Act.put, List.setIfInBounds_toArray, List.set_cons_zero, List.set_cons_succ, List.getElem_toArray, List.getElem_cons_succ, List.getElem_cons_zero]
  refine wpAnyH_take (i := 19) (v := ?_) rfl (by kernel_rfl) (by kernel_rfl) (by kernel_rfl) (fun _ _ _ h => h) (Or.inl ⟨by kernel_rfl, ?_⟩) hHeld ?_
  rotate_left
  · (intro w' hSw; obtain ⟨hS0, hS1, hS2, hS3⟩ := hSw; go_simp; try with_reducible rfl)
  simp only [Act.put, List.setIfInBounds_toArray, List.set_cons_zero, List.set_cons_succ, List.getElem_toArray, List.getElem_cons_succ, List.getElem_cons_zero]
  refine wpAnyH_take (i := 20) (v := ?_) rfl (by kernel_rfl) (by kernel_rfl) (by kernel_rfl) (fun _ _ _ h => h) (Or.inl ⟨by kernel_rfl, ?_⟩) hHeld ?_
  rotate_left
  · (intro w' hSw; obtain ⟨hS0, hS1, hS2, hS3⟩ := hSw; go_simp; try with_reducible rfl)
  simp only [Act.put, List.setIfInBounds_toArray, List.set_cons_zero, List.set_cons_succ, List.getElem_toArray, List.getElem_cons_succ, List.getElem_cons_zero]
  refine wpAnyH_take (i := 21) (v := ?_) rfl (by kernel_rfl) (by kernel_rfl) (by kernel_rfl) (fun _ _ _ h => h) (Or.inl ⟨by kernel_rfl, ?_⟩) hHeld ?_
  rotate_left
  · (intro w' hSw; obtain ⟨hS0, hS1, hS2, hS3⟩ := hSw; go_simp; try with_reducible rfl)
  simp only [Act.put, List.setIfInBounds_toArray, List.set_cons_zero, List.set_cons_succ, List.getElem_toArray, List.getElem_cons_succ, List.getElem_cons_zero]
  refine wpAnyH_take (i := 22) (v := ?_) rfl (by kernel_rfl) (by kernel_rfl) (by kernel_rfl) (fun _ _ _ h => h) (Or.inl ⟨by kernel_rfl, ?_⟩) hHeld ?_
  rotate_left
  · (intro w' hSw; obtain ⟨hS0, hS1, hS2, hS3⟩ := hSw; go_simp; try with_reducible rfl)
  simp only [Act.put, List.setIfInBounds_toArray, List.set_cons_zero, List.set_cons_succ, List.getElem_toArray, List.getElem_cons_succ, List.getElem_cons_zero]
  refine wpAnyH_done (by kernel_rfl) ?_ _
  go_wp2_with fail
  go_ret
  exact ⟨congrArg (fun z => Ending.returned (Value.int .u32 z)) (by omega), rfl⟩
theorem word_at (w : World) (K : Nat) (k : List UInt8) (T : TypeId) (hK : w.heap[K]? = some (.cells (u8s k).toArray T (0, 0))) (q n c : Nat) (hq : q + 4 ≤ k.length) (hn : 4 ≤ n) :
    Calls Tryd.prog 88 #[.slice (some ⟨K, q, none⟩) n c] w (fun e w' => e = .returned (.int .u32 ((Pl.le4 k q : Nat) : Int)) ∧ w' = w.drew) :=
  word_any K q n c hn (k.getD q 0).toNat (k.getD (q + 1) 0).toNat (k.getD (q + 2) 0).toNat (k.getD (q + 3) 0).toNat (UInt8.toNat_lt _) (UInt8.toNat_lt _) (UInt8.toNat_lt _) (UInt8.toNat_lt _) w
    ⟨u8s_cell hK q (by omega), u8s_cell hK (q + 1) (by omega), u8s_cell hK (q + 2) (by omega), u8s_cell hK (q + 3) (by omega)⟩
def sig0 : List Nat := Pl.sigma ++ List.replicate 12 0
theorem build_16 {L : List Nat} (h : sig0 = L) (w : World) : (Instr.build 135 #[(0, .int .u32 1634760805), (1, .int .u32 857760878), (2, .int .u32 2036477234), (3, .int .u32 1797285236)]).run Tryd.prog w = .ok (.agg (u32s L).toArray) w := by
  subst h
  exact run_build w _ _ _ (by kernel_rfl)
theorem wpList_build_c4 {c0 c1 c2 c3 out : Value} {T : TypeId} {ops : Array Oper} {rest : List Oper} {op : Oper} {a : Act} {w : World} {Q : Exit → Act → World → Prop} (hb : ∀ W, (Instr.build T #[(0, c0), (1, c1), (2, c2), (3, c3)]).run Tryd.prog W = .ok out W) (hgd : op.guard = none) (ho : op.op = .build T #[(0, .const c0), (1, .const c1), (2, .const c2), (3, .const c3)])
    (h : wpList Tryd.prog ops Q rest (a.put op.dst out) w) : wpList Tryd.prog ops Q (op :: rest) a w :=
  wpList_plain hgd fun _ hK => by
    unfold Oper.wp execOp
    simp only [ho, List.map_toArray, List.map_cons, List.map_nil, Act.eval, Sem.run_bind, hb, Result.andThen_ok, Sem.run_pure]
    exact hK _ _ h
/-- Words laid into a row, one behind the other. -/
def setK (k : List UInt8) (o : Nat) : Nat → List Nat → List Nat
  | 0, V => V
  | j + 1, V => (setK k o j V).set (o + j) (Pl.le4 k (4 * j))
theorem setK_len (k : List UInt8) (o : Nat) : ∀ (j : Nat) (V : List Nat), (setK k o j V).length = V.length
  | 0, _ => rfl
  | j + 1, V => by rw [setK, List.length_set, setK_len]
theorem setK_first (k nonce : List UInt8) (n : Nat) : setK nonce 13 3 ((setK k 4 8 sig0).set 12 n) = Pl.firstC k nonce n := rfl
set_option maxRecDepth 1000000 in
set_option maxHeartbeats 4000000 in
theorem first_any (k nonce : List UInt8) (n : Nat) (hk : k.length = 32) (hn : nonce.length = 12) (w : World) :
    Calls Tryd.prog 73 #[.agg (u8s k).toArray, .agg (u8s nonce).toArray, .int .u32 (n : Int)] w (fun e w' => e = .returned (.agg (u32s (Pl.firstC k nonce n)).toArray) ∧ Below w.heap.size w w') := by
  go_enter Tryd.func73, Tryd.ntmps73
  go_upto_region 1 with (fail)
  generalize hX : ((w.alloc _).alloc _).alloc _ = X
  have HB := Lib.hid (show Below w.heap.size w X by rw [← hX]; exact (((Below.refl _ _).alloc (Nat.le_refl _) _).alloc (by simp) _).alloc (by simp; omega) _)
  have HK := Lib.hid (show X.heap[w.heap.size]? = some (.cells (u8s k).toArray 24 (0, 0)) by rw [← hX]; exact (Below.heap_alloc _ _ _ (by simp; omega)).trans ((Below.heap_alloc _ _ _ (by simp)).trans (heap_alloc_new w _)))
  have HN := Lib.hid (show X.heap[w.heap.size + 1]? = some (.cells (u8s nonce).toArray 53 (0, 0)) by rw [← hX]; exact (Below.heap_alloc _ _ _ (by simp)).trans (heap_alloc_2 w _ _))
  have HR := Lib.hid (show X.heap[w.heap.size + 1 + 1]? = some (.cells (u32s (List.replicate 16 0)).toArray 135 (0, 0)) by rw [← hX]; have := heap_alloc_2 (w.alloc (.cells (u8s k).toArray 24)) (.cells (u8s nonce).toArray 53) (.cells (u32s (List.replicate 16 0)).toArray 135); rw [show (w.alloc (.cells (u8s k).toArray 24)).heap.size = w.heap.size + 1 by simp] at this; exact this)
  have hXs : X.heap.size = w.heap.size + 3 := by rw [← hX]; simp
  clear hX
  obtain ⟨K, hKe⟩ : ∃ K, w.heap.size = K := ⟨_, rfl⟩
  obtain ⟨N, hNe⟩ : ∃ N, K + 1 = N := ⟨_, rfl⟩
  obtain ⟨R, hRe⟩ : ∃ R, N + 1 = R := ⟨_, rfl⟩
  rw [hKe] at HB HK HN HR hXs ⊢
  rw [hNe] at HN HR ⊢
  rw [hRe] at HR ⊢
  have k1 : K < N := by omega
  have k2 : N < R := by omega
  have HKe := Lib.hid hKe
  obtain ⟨D, hD⟩ : ∃ D, X.heap.size = D := ⟨_, rfl⟩
  have k3 : R < D := by omega
  clear hKe hNe hRe hXs
  have HZ1 := Lib.hid (show (X.alloc (.cells (u32s (List.replicate 16 0)).toArray 135)).heap[D]? = some (.cells (u32s (List.replicate 16 0)).toArray 135 (0, 0)) by rw [← hD]; exact heap_alloc_new X _)
  have HDe := Lib.hid hD
  obtain ⟨L, hL⟩ : ∃ L, sig0 = L := ⟨_, rfl⟩
  have HBl := Lib.hid (build_16 hL)
  have HLl := Lib.hid (show L.length = 16 by rw [← hL]; rfl)
  have HL1 := Lib.hid (show (u32s L).toArray.all (·.oneCell') = true from all_oneCell_toArray (u32s_one L))
  have HTH := Lib.hid (show (X.alloc (.cells #[.int .u32 0, .int .u32 0, .int .u32 0, .int .u32 0, .int .u32 0, .int .u32 0, .int .u32 0, .int .u32 0, .int .u32 0, .int .u32 0, .int .u32 0, .int .u32 0, .int .u32 0, .int .u32 0, .int .u32 0, .int .u32 0] 135)).there D 0 (u32s L).toArray.size from thereL (n := (u32s L).toArray.size) HZ1.out (by simp [u32s_len, HLl.out]))
  have HLe := Lib.hid hL
  rw [← hD] at HTH
  clear hL hD
  go_upto_region 2 with (first
    | (with_reducible refine wpList_build_c4 HBl.out rfl rfl ?_)
    | (with_reducible refine wpList_store_mid rfl 135 _ _ rfl X.heap.size 0 (u32s L).toArray rfl rfl HTH.out (by rw [List.size_toArray, u32s_len, HLl.out]; exact info_16) HL1.out ?_))
  generalize hY : (X.alloc _).setCells _ _ _ = Y
  have hby : Below D X Y := by rw [← hY, HDe.out]; exact ((Below.refl _ _).alloc (by rw [HDe.out]; exact Nat.le_refl _) _).trans (Lib.below_setCells_w (Nat.le_refl _) _ _ _)
  have HYD := Lib.hid (show Y.heap[D]? = some (.cells (u32s L).toArray 135 (0, 0)) by rw [← hY, HDe.out]; exact heap_setCells_all HZ1.out (by simp [u32s_len, HLl.out]))
  have HYK := Lib.hid ((hby.block _ (by omega)).trans HK.out)
  have HYN := Lib.hid ((hby.block _ (by omega)).trans HN.out)
  have HYR := Lib.hid ((hby.block _ (by omega)).trans HR.out)
  have HYB := Lib.hid (HB.out.trans (hby.mono (by omega)))
  rw [HDe.out]
  clear hY hby HTH HL1 HBl HZ1 HR HN HK HB
  simp only [Act.put]
  go_wp2_with fail
  go_loopw [11] (fun i wr => ∃ (j : Nat) (V : List Nat), j ≤ 8 ∧ i = .int .i64 j ∧ Hid (V = setK k 4 j L) ∧ Hid (wr.heap[D]? = some (.cells (u32s V).toArray 135 (0, 0))) ∧ Hid (Y.grownBy wr (some D))) (fun i _ => 8 - (intOf i).toNat)
  case atStart => exact ⟨0, L, Nat.zero_le _, rfl, rfl, HYD.out, World.grownBy.refl _ _⟩
  case round =>
    obtain ⟨j, V, hj, rfl, HV, HD, HG⟩ := hrel
    clear HYD
    have HVl := Lib.hid (show V.length = 16 by rw [HV.out, setK_len]; exact HLl.out)
    by_cases hlt : j < 8
    · have j0 : (0 : Int) ≤ (j : Int) := by omega
      have j1 : (j : Int) < 8 := by omega
      obtain ⟨q, hq⟩ : ∃ q, 4 * j = q := ⟨_, rfl⟩
      have e0 : IntKind.i64.wrap (4 * (j : Int)) = (q : Int) := (IntWalk.i64_in _ (by omega)).trans (by omega)
      have q0 : (0 : Int) ≤ (q : Int) := by omega
      have q1 : (q : Int) ≤ 32 := by omega
      have q2 : ¬ 32 = q := by omega
      have q3 : q + 4 ≤ 32 := by omega
      have HQ := Lib.hid hq
      clear hq
      have HKr := Lib.hid ((HG.out.block _ (blk_lt HYK.out) (by simp; omega)).trans HYK.out)
      have HC := Lib.hid (word_at wr K k _ HKr.out q (32 - q) (32 - q) (by omega) (by omega))
      go_wp2_with fail
      with_reducible refine HC.out.mono ?_
      rintro _ W1 ⟨rfl, rfl⟩
      obtain ⟨x, hx⟩ : ∃ x, Pl.le4 k q = x := ⟨_, rfl⟩
      rw [hx]
      have n1 : (0 : Int) ≤ 4 + (j : Int) := by omega
      have n2 : 4 + (j : Int) < 16 := by omega
      have n3 : (4 + (j : Int)).toNat = 4 + j := by omega
      have q5 : wr.cell? ⟨D, 4 + j, none⟩ = some (.int .u32 ((V.getD (4 + j) 0 : Nat) : Int)) := u32s_cell HD.out _ (by rw [HVl.out]; omega)
      have q6 := frozen_of wr D (4 + j) _ _ HD.out
      have HS := Lib.hid (u32s_store HD.out (4 + j) x)
      have HS2 := Lib.hid (grown_set wr D (4 + j) (.int .u32 (x : Int)))
      have HV2 := Lib.hid (show V.set (4 + j) x = setK k 4 (j + 1) L by rw [setK, HQ.out, hx, HV.out])
      clear hx HC HKr
      go_wp2_with fail
      go_roundw
      case rel => exact ⟨j + 1, V.set (4 + j) x, by omega, by go_num, HV2.out, HS.out, HG.out.trans (grown_drew HS2.out)⟩
      case measure => simp [intOf]; omega
    · obtain rfl : j = 8 := by omega
      have q5 : wr.cell? ⟨D, 12, none⟩ = some (.int .u32 ((V.getD 12 0 : Nat) : Int)) := u32s_cell HD.out 12 (by rw [HVl.out]; omega)
      have q6 := frozen_of wr D 12 _ _ HD.out
      have HS := Lib.hid (u32s_store HD.out 12 n)
      have HS2 := Lib.hid (HG.out.trans (grown_set wr D 12 (.int .u32 (n : Int))))
      obtain ⟨L2, hL2⟩ : ∃ L2, V.set 12 n = L2 := ⟨_, rfl⟩
      have HL2 := Lib.hid (show L2 = (setK k 4 8 sig0).set 12 n by rw [← hL2, HV.out, HLe.out])
      have HL2l := Lib.hid (show L2.length = 16 by rw [← hL2, List.length_set]; exact HVl.out)
      rw [hL2] at HS
      clear hL2 HV HD HG HVl
      go_wp2_with fail
      rw [show ((8 : Nat) : Int) = 8 from rfl]
      clear q5 q6
      go_loopw [24] (fun i wr => ∃ (j : Nat) (V : List Nat), j ≤ 3 ∧ i = .int .i64 j ∧ Hid (V = setK nonce 13 j L2) ∧ Hid (wr.heap[D]? = some (.cells (u32s V).toArray 135 (0, 0))) ∧ Hid (Y.grownBy wr (some D))) (fun i _ => 3 - (intOf i).toNat)
      case atStart => exact ⟨0, L2, Nat.zero_le _, rfl, rfl, HS.out, HS2.out⟩
      case round =>
        obtain ⟨j, V, hj, rfl, HV, HD, HG⟩ := hrel
        clear HS HS2
        have HVl := Lib.hid (show V.length = 16 by rw [HV.out, setK_len]; exact HL2l.out)
        by_cases hlt : j < 3
        · have j0 : (0 : Int) ≤ (j : Int) := by omega
          have j1 : (j : Int) < 3 := by omega
          obtain ⟨q, hq⟩ : ∃ q, 4 * j = q := ⟨_, rfl⟩
          have e0 : IntKind.i64.wrap (4 * (j : Int)) = (q : Int) := (IntWalk.i64_in _ (by omega)).trans (by omega)
          have q0 : (0 : Int) ≤ (q : Int) := by omega
          have q1 : (q : Int) ≤ 12 := by omega
          have q2 : ¬ 12 = q := by omega
          have q3 : q + 4 ≤ 12 := by omega
          have HQ := Lib.hid hq
          clear hq
          have HKr := Lib.hid ((HG.out.block _ (blk_lt HYN.out) (by simp; omega)).trans HYN.out)
          have HC := Lib.hid (word_at wr N nonce _ HKr.out q (12 - q) (12 - q) (by omega) (by omega))
          go_wp2_with fail
          with_reducible refine HC.out.mono ?_
          rintro _ W1 ⟨rfl, rfl⟩
          obtain ⟨x, hx⟩ : ∃ x, Pl.le4 nonce q = x := ⟨_, rfl⟩
          rw [hx]
          have n1 : (0 : Int) ≤ 13 + (j : Int) := by omega
          have n2 : 13 + (j : Int) < 16 := by omega
          have n3 : (13 + (j : Int)).toNat = 13 + j := by omega
          have q5 : wr.cell? ⟨D, 13 + j, none⟩ = some (.int .u32 ((V.getD (13 + j) 0 : Nat) : Int)) := u32s_cell HD.out _ (by rw [HVl.out]; omega)
          have q6 := frozen_of wr D (13 + j) _ _ HD.out
          have HS := Lib.hid (u32s_store HD.out (13 + j) x)
          have HS2 := Lib.hid (grown_set wr D (13 + j) (.int .u32 (x : Int)))
          have HV2 := Lib.hid (show V.set (13 + j) x = setK nonce 13 (j + 1) L2 by rw [setK, HQ.out, hx, HV.out])
          clear hx HC HKr
          go_wp2_with fail
          go_roundw
          case rel => exact ⟨j + 1, V.set (13 + j) x, by omega, by go_num, HV2.out, HS.out, HG.out.trans (grown_drew HS2.out)⟩
          case measure => simp [intOf]; omega
        · obtain rfl : j = 3 := by omega
          obtain ⟨M, hM⟩ : ∃ M, u32s V = M := ⟨_, rfl⟩
          have HMe := Lib.hid (show M = u32s (Pl.firstC k nonce n) by rw [← hM, HV.out, HL2.out, setK_first])
          have HMl := Lib.hid (show M.length = 16 by rw [← hM, u32s_len]; exact HVl.out)
          have HM1 := Lib.hid (show M.toArray.all (·.oneCell') = true by rw [← hM]; exact all_oneCell_toArray (u32s_one V))
          rw [hM] at HD
          have HRr := Lib.hid ((HG.out.block _ (blk_lt HYR.out) (by simp; omega)).trans HYR.out)
          have HTH := Lib.hid (thereL (n := M.toArray.size) HRr.out (by simp [u32s_len, HMl.out]))
          clear hM
          go_wp2_with (first
            | (with_reducible refine wpList_load_mid rfl 135 _ rfl D 0 rfl M _ (rangeL HD.out) Tryd.underlying135 rfl (by rw [HMl.out]; exact info_16) ?_)
            | (with_reducible refine wpList_store_mid rfl 135 _ _ rfl R 0 M.toArray rfl rfl HTH.out (by rw [List.size_toArray, HMl.out]; exact info_16) HM1.out ?_))
          have hfin := heap_setCells_all HRr.out (vs := M) (by simp [u32s_len, HMl.out])
          refine bodyPost_ret (v := .agg M.toArray) (results_one rfl rfl (rangeL hfin) Tryd.underlying135 rfl (by rw [HMl.out]; exact info_16)) rfl ?_
          rw [HKe.out]
          refine ⟨by rw [HMe.out], (HYB.out.grown HG.out (by rw [← HKe.out]; exact HYB.out.size) (fun j hj => by simp at hj; omega)).trans (Lib.below_setCells_w (by omega) _ _ _)⟩
end Go.Proofs.YtadoplgmeoghmaaDoor
namespace Go.Proofs.YtadoplgmeoghmaaDoor
open Go.RowKit
set_option linter.unusedVariables false
set_option linter.unusedSimpArgs false
theorem setK_all (k : List UInt8) (o : Nat) : ∀ (j : Nat) {V : List Nat}, Pl.All32 V → Pl.All32 (setK k o j V)
  | 0, _, h => h
  | j + 1, V, h => (setK_all k o j h).set _ (Pl.le4_lt _ _)
theorem sig0_all : Pl.All32 sig0 := by
  intro i
  rcases Nat.lt_or_ge i 16 with hi | hi
  · have : ∀ i, i < 16 → sig0.getD i 0 < 4294967296 := by decide
    exact this i hi
  · rw [List.getD_eq_getElem?_getD, List.getElem?_eq_none hi]; decide
theorem first_all (k nonce : List UInt8) (n : Nat) (hn : n < 4294967296) : Pl.All32 (Pl.firstC k nonce n) := by
  rw [← setK_first]
  exact setK_all _ _ _ ((setK_all _ _ _ sig0_all).set _ hn)
theorem first_len (k nonce : List UInt8) (n : Nat) : (Pl.firstC k nonce n).length = 16 := rfl
theorem turns_more (V : List Nat) (m : Nat) : Pl.turnsC (m + 1) V = Pl.turnsC m (Pl.doubleC V) := rfl
/-- The first bytes of a row of 64, the others as they were made. -/
def partB (F : List UInt8) (n : Nat) : List UInt8 := F.take n ++ List.replicate (64 - n) 0
theorem partB_0 (F : List UInt8) : partB F 0 = List.replicate 64 0 := by simp [partB]
theorem partB_64 {F : List UInt8} (h : F.length = 64) : partB F 64 = F := by simp [partB, List.take_of_length_le (Nat.le_of_eq h)]
theorem partB_len {F : List UInt8} (h : F.length = 64) {n : Nat} (hn : n ≤ 64) : (partB F n).length = 64 := by simp [partB, h]; omega
theorem partB_step {F : List UInt8} (h : F.length = 64) {n : Nat} (hn : n < 64) : (partB F n).set n (F.getD n 0) = partB F (n + 1) := by
  unfold partB
  have hl : (F.take n).length = n := by rw [List.length_take]; omega
  rw [List.set_append_right _ _ (by omega), hl, Nat.sub_self, show 64 - n = (64 - (n + 1)) + 1 by omega, List.replicate_succ, List.set_cons_zero, List.take_add_one, List.getElem?_eq_getElem (by omega), List.getD_eq_getElem?_getD, List.getElem?_eq_getElem (by omega)]
  simp only [Option.toList_some, Option.getD_some, List.append_assoc, List.singleton_append]
def sumsC (W A : List Nat) : List Nat := (List.range 16).map fun i => Pl.add32 (W.getD i 0) (A.getD i 0)
theorem block_flat (k nonce : List UInt8) (n : Nat) : Pl.blockC k nonce n = (sumsC (Pl.turnsC 10 (Pl.firstC k nonce n)) (Pl.firstC k nonce n)).flatMap Pl.leB := by
  unfold Pl.blockC sumsC
  rw [List.flatMap_map]
theorem sums_get (W A : List Nat) (i : Nat) (hi : i < 16) : (sumsC W A).getD i 0 = Pl.add32 (W.getD i 0) (A.getD i 0) := by
  unfold sumsC
  rw [List.getD_eq_getElem?_getD, List.getElem?_map, List.getElem?_range hi]; rfl
theorem sums_len (W A : List Nat) : (sumsC W A).length = 16 := by simp [sumsC]
theorem step_0 (V : List Nat) (hV : V.length = 16) (hA : Pl.All32 V) (B : Nat) (w : World) (hB : w.heap[B]? = some (.cells (u32s V).toArray 135 (0, 0))) :
    Calls Tryd.prog 74 #[.int .i64 0, .int .i64 4, .int .i64 8, .int .i64 12, .pointer (some ⟨B, 0, none⟩)] w
      (fun e w' => e = .returned (.tuple #[]) ∧ w'.heap[B]? = some (.cells (u32s (Pl.stepC V 0 4 8 12)).toArray 135 (0, 0)) ∧ w.grownBy w' (some B)) := step_any V hV hA 0 4 8 12 (by decide) (by decide) (by decide) (by decide) (by decide) (by decide) (by decide) (by decide) B w hB
theorem step_1 (V : List Nat) (hV : V.length = 16) (hA : Pl.All32 V) (B : Nat) (w : World) (hB : w.heap[B]? = some (.cells (u32s V).toArray 135 (0, 0))) :
    Calls Tryd.prog 74 #[.int .i64 1, .int .i64 5, .int .i64 9, .int .i64 13, .pointer (some ⟨B, 0, none⟩)] w
      (fun e w' => e = .returned (.tuple #[]) ∧ w'.heap[B]? = some (.cells (u32s (Pl.stepC V 1 5 9 13)).toArray 135 (0, 0)) ∧ w.grownBy w' (some B)) := step_any V hV hA 1 5 9 13 (by decide) (by decide) (by decide) (by decide) (by decide) (by decide) (by decide) (by decide) B w hB
theorem step_2 (V : List Nat) (hV : V.length = 16) (hA : Pl.All32 V) (B : Nat) (w : World) (hB : w.heap[B]? = some (.cells (u32s V).toArray 135 (0, 0))) :
    Calls Tryd.prog 74 #[.int .i64 2, .int .i64 6, .int .i64 10, .int .i64 14, .pointer (some ⟨B, 0, none⟩)] w
      (fun e w' => e = .returned (.tuple #[]) ∧ w'.heap[B]? = some (.cells (u32s (Pl.stepC V 2 6 10 14)).toArray 135 (0, 0)) ∧ w.grownBy w' (some B)) := step_any V hV hA 2 6 10 14 (by decide) (by decide) (by decide) (by decide) (by decide) (by decide) (by decide) (by decide) B w hB
theorem step_3 (V : List Nat) (hV : V.length = 16) (hA : Pl.All32 V) (B : Nat) (w : World) (hB : w.heap[B]? = some (.cells (u32s V).toArray 135 (0, 0))) :
    Calls Tryd.prog 74 #[.int .i64 3, .int .i64 7, .int .i64 11, .int .i64 15, .pointer (some ⟨B, 0, none⟩)] w
      (fun e w' => e = .returned (.tuple #[]) ∧ w'.heap[B]? = some (.cells (u32s (Pl.stepC V 3 7 11 15)).toArray 135 (0, 0)) ∧ w.grownBy w' (some B)) := step_any V hV hA 3 7 11 15 (by decide) (by decide) (by decide) (by decide) (by decide) (by decide) (by decide) (by decide) B w hB
theorem step_4 (V : List Nat) (hV : V.length = 16) (hA : Pl.All32 V) (B : Nat) (w : World) (hB : w.heap[B]? = some (.cells (u32s V).toArray 135 (0, 0))) :
    Calls Tryd.prog 74 #[.int .i64 0, .int .i64 5, .int .i64 10, .int .i64 15, .pointer (some ⟨B, 0, none⟩)] w
      (fun e w' => e = .returned (.tuple #[]) ∧ w'.heap[B]? = some (.cells (u32s (Pl.stepC V 0 5 10 15)).toArray 135 (0, 0)) ∧ w.grownBy w' (some B)) := step_any V hV hA 0 5 10 15 (by decide) (by decide) (by decide) (by decide) (by decide) (by decide) (by decide) (by decide) B w hB
theorem step_5 (V : List Nat) (hV : V.length = 16) (hA : Pl.All32 V) (B : Nat) (w : World) (hB : w.heap[B]? = some (.cells (u32s V).toArray 135 (0, 0))) :
    Calls Tryd.prog 74 #[.int .i64 1, .int .i64 6, .int .i64 11, .int .i64 12, .pointer (some ⟨B, 0, none⟩)] w
      (fun e w' => e = .returned (.tuple #[]) ∧ w'.heap[B]? = some (.cells (u32s (Pl.stepC V 1 6 11 12)).toArray 135 (0, 0)) ∧ w.grownBy w' (some B)) := step_any V hV hA 1 6 11 12 (by decide) (by decide) (by decide) (by decide) (by decide) (by decide) (by decide) (by decide) B w hB
theorem step_6 (V : List Nat) (hV : V.length = 16) (hA : Pl.All32 V) (B : Nat) (w : World) (hB : w.heap[B]? = some (.cells (u32s V).toArray 135 (0, 0))) :
    Calls Tryd.prog 74 #[.int .i64 2, .int .i64 7, .int .i64 8, .int .i64 13, .pointer (some ⟨B, 0, none⟩)] w
      (fun e w' => e = .returned (.tuple #[]) ∧ w'.heap[B]? = some (.cells (u32s (Pl.stepC V 2 7 8 13)).toArray 135 (0, 0)) ∧ w.grownBy w' (some B)) := step_any V hV hA 2 7 8 13 (by decide) (by decide) (by decide) (by decide) (by decide) (by decide) (by decide) (by decide) B w hB
theorem step_7 (V : List Nat) (hV : V.length = 16) (hA : Pl.All32 V) (B : Nat) (w : World) (hB : w.heap[B]? = some (.cells (u32s V).toArray 135 (0, 0))) :
    Calls Tryd.prog 74 #[.int .i64 3, .int .i64 4, .int .i64 9, .int .i64 14, .pointer (some ⟨B, 0, none⟩)] w
      (fun e w' => e = .returned (.tuple #[]) ∧ w'.heap[B]? = some (.cells (u32s (Pl.stepC V 3 4 9 14)).toArray 135 (0, 0)) ∧ w.grownBy w' (some B)) := step_any V hV hA 3 4 9 14 (by decide) (by decide) (by decide) (by decide) (by decide) (by decide) (by decide) (by decide) B w hB
theorem info_k : (Tryd.prog.info? 24).map (·.size) = some 32 := by kernel_rfl
theorem info_n12 : (Tryd.prog.info? 53).map (·.size) = some 12 := by kernel_rfl
theorem info_b64 : (Tryd.prog.info? 96).map (·.size) = some 64 := by kernel_rfl
set_option maxRecDepth 1000000 in
set_option maxHeartbeats 8000000 in
theorem block_any (k nonce : List UInt8) (n : Nat) (hk : k.length = 32) (hn : nonce.length = 12) (hN : n < 4294967296) (w : World) :
    Calls Tryd.prog 61 #[.agg (u8s k).toArray, .agg (u8s nonce).toArray, .int .u32 (n : Int)] w (fun e w' => e = .returned (.agg (u8s (Pl.blockC k nonce n)).toArray) ∧ Below w.heap.size w w') := by
  go_enter Tryd.func61, Tryd.ntmps61
  go_upto_region 1 with (fail)
  generalize hX : ((w.alloc _).alloc _).alloc _ = X
  have HB := Lib.hid (show Below w.heap.size w X by rw [← hX]; exact (((Below.refl _ _).alloc (Nat.le_refl _) _).alloc (by simp) _).alloc (by simp; omega) _)
  have HK := Lib.hid (show X.heap[w.heap.size]? = some (.cells (u8s k).toArray 24 (0, 0)) by rw [← hX]; exact (Below.heap_alloc _ _ _ (by simp; omega)).trans ((Below.heap_alloc _ _ _ (by simp)).trans (heap_alloc_new w _)))
  have HN := Lib.hid (show X.heap[w.heap.size + 1]? = some (.cells (u8s nonce).toArray 53 (0, 0)) by rw [← hX]; exact (Below.heap_alloc _ _ _ (by simp)).trans (heap_alloc_2 w _ _))
  have HR := Lib.hid (show X.heap[w.heap.size + 1 + 1]? = some (.cells (u8s (List.replicate 64 0)).toArray 96 (0, 0)) by rw [← hX]; have := heap_alloc_2 (w.alloc (.cells (u8s k).toArray 24)) (.cells (u8s nonce).toArray 53) (.cells (u8s (List.replicate 64 0)).toArray 96); rw [show (w.alloc (.cells (u8s k).toArray 24)).heap.size = w.heap.size + 1 by simp] at this; exact this)
  have hXs : X.heap.size = w.heap.size + 3 := by rw [← hX]; simp
  clear hX
  obtain ⟨K, hKe⟩ : ∃ K, w.heap.size = K := ⟨_, rfl⟩
  obtain ⟨N, hNe⟩ : ∃ N, K + 1 = N := ⟨_, rfl⟩
  obtain ⟨R, hRe⟩ : ∃ R, N + 1 = R := ⟨_, rfl⟩
  rw [hKe] at HK HN HR hXs ⊢
  rw [hNe] at HN HR ⊢
  rw [hRe] at HR ⊢
  have k0 : w.heap.size ≤ K := Nat.le_of_eq hKe
  have k1 : K < N := by omega
  have k2 : N < R := by omega
  have k3 : R < X.heap.size := by omega
  have HKe := Lib.hid hKe
  clear hKe hNe hRe hXs
  obtain ⟨kL, hkL⟩ : ∃ L, u8s k = L := ⟨_, rfl⟩
  obtain ⟨nL, hnL⟩ : ∃ L, u8s nonce = L := ⟨_, rfl⟩
  have HkL := Lib.hid (show kL.length = 32 by rw [← hkL, u8s_len, hk])
  have HnL := Lib.hid (show nL.length = 12 by rw [← hnL, u8s_len, hn])
  have HC := Lib.hid (first_any k nonce n hk hn X)
  have hAl := first_all k nonce n hN
  have HF := Lib.hid (block_flat k nonce n)
  obtain ⟨A, hA⟩ : ∃ A, Pl.firstC k nonce n = A := ⟨_, rfl⟩
  have hA16 : A.length = 16 := by rw [← hA]; exact first_len _ _ _
  rw [hA] at HC hAl HF
  rw [hkL, hnL] at HC
  rw [hkL] at HK ⊢
  rw [hnL] at HN ⊢
  clear hA hkL hnL
  go_wp2_with (first
    | (with_reducible refine wpList_load_mid rfl 24 _ rfl K 0 rfl kL _ (rangeL HK.out) Tryd.underlying24 rfl (by rw [HkL.out]; exact info_k) ?_)
    | (with_reducible refine wpList_load_mid rfl 53 _ rfl N 0 rfl nL _ (rangeL HN.out) Tryd.underlying53 rfl (by rw [HnL.out]; exact info_n12) ?_))
  with_reducible refine HC.out.mono ?_
  rintro _ W1 ⟨rfl, hb1⟩
  obtain ⟨AL, hAL⟩ : ∃ L, u32s A = L := ⟨_, rfl⟩
  have HAl := Lib.hid (show AL.length = 16 by rw [← hAL, u32s_len, hA16])
  have HA1 := Lib.hid (show AL.toArray.all (·.oneCell') = true by rw [← hAL]; exact all_oneCell_toArray (u32s_one A))
  have HAe := Lib.hid hAL
  rw [hAL]
  clear hAL
  have HB1 := Lib.hid (HB.out.trans (hb1.mono HB.out.size))
  have HR1 := Lib.hid ((hb1.block _ (blk_lt HR.out)).trans HR.out)
  have k4 : R < W1.heap.size := Nat.lt_of_lt_of_le k3 hb1.size
  clear hb1 HB HK HN HR HC HkL HnL k3
  have HZ1 := Lib.hid (show (W1.alloc (.cells #[.int .u32 0, .int .u32 0, .int .u32 0, .int .u32 0, .int .u32 0, .int .u32 0, .int .u32 0, .int .u32 0, .int .u32 0, .int .u32 0, .int .u32 0, .int .u32 0, .int .u32 0, .int .u32 0, .int .u32 0, .int .u32 0] 135)).heap[W1.heap.size]? = some (.cells (u32s (List.replicate 16 0)).toArray 135 (0, 0)) from heap_alloc_new W1 _)
  have HT1 := Lib.hid (show (W1.alloc (.cells #[.int .u32 0, .int .u32 0, .int .u32 0, .int .u32 0, .int .u32 0, .int .u32 0, .int .u32 0, .int .u32 0, .int .u32 0, .int .u32 0, .int .u32 0, .int .u32 0, .int .u32 0, .int .u32 0, .int .u32 0, .int .u32 0] 135)).there W1.heap.size 0 AL.toArray.size from thereL HZ1.out (by rw [List.size_toArray, HAl.out]; simp [u32s_len]))
  go_upto_region 2 with (with_reducible refine wpList_store_mid rfl 135 _ _ rfl W1.heap.size 0 AL.toArray rfl rfl HT1.out (by rw [List.size_toArray, HAl.out]; exact info_16) HA1.out ?_)
  generalize hX2 : (W1.alloc _).setCells _ _ _ = X2
  have hb2 : Below W1.heap.size W1 X2 := by rw [← hX2]; exact ((Below.refl _ _).alloc (Nat.le_refl _) _).trans (Lib.below_setCells_w (Nat.le_refl _) _ _ _)
  have HB2 := Lib.hid (HB1.out.trans (hb2.mono HB1.out.size))
  have HR2 := Lib.hid ((hb2.block _ (blk_lt HR1.out)).trans HR1.out)
  have HP := Lib.hid (show X2.heap[W1.heap.size]? = some (.cells AL.toArray 135 (0, 0)) by rw [← hX2]; exact heap_setCells_all HZ1.out (by simp [u32s_len, HAl.out]))
  obtain ⟨P, hP⟩ : ∃ P, W1.heap.size = P := ⟨_, rfl⟩
  rw [hP] at HP k4 ⊢
  clear hX2 hb2 hP HZ1 HT1 HB1 HR1
  simp only [Act.put]
  have HZ2 := Lib.hid (show (X2.alloc (.cells #[.int .u32 0, .int .u32 0, .int .u32 0, .int .u32 0, .int .u32 0, .int .u32 0, .int .u32 0, .int .u32 0, .int .u32 0, .int .u32 0, .int .u32 0, .int .u32 0, .int .u32 0, .int .u32 0, .int .u32 0, .int .u32 0] 135)).heap[X2.heap.size]? = some (.cells (u32s (List.replicate 16 0)).toArray 135 (0, 0)) from heap_alloc_new X2 _)
  have HT2 := Lib.hid (show (X2.alloc (.cells #[.int .u32 0, .int .u32 0, .int .u32 0, .int .u32 0, .int .u32 0, .int .u32 0, .int .u32 0, .int .u32 0, .int .u32 0, .int .u32 0, .int .u32 0, .int .u32 0, .int .u32 0, .int .u32 0, .int .u32 0, .int .u32 0] 135)).there X2.heap.size 0 AL.toArray.size from thereL HZ2.out (by rw [List.size_toArray, HAl.out]; simp [u32s_len]))
  go_upto_region 3 with (first
    | (with_reducible refine wpList_load_mid rfl 135 _ rfl P 0 rfl AL _ (rangeL HP.out) Tryd.underlying135 rfl (by rw [HAl.out]; exact info_16) ?_)
    | (with_reducible refine wpList_store_mid rfl 135 _ _ rfl X2.heap.size 0 AL.toArray rfl rfl HT2.out (by rw [List.size_toArray, HAl.out]; exact info_16) HA1.out ?_))
  generalize hX3 : (X2.alloc _).setCells _ _ _ = X3
  have hb3 : Below X2.heap.size X2 X3 := by rw [← hX3]; exact ((Below.refl _ _).alloc (Nat.le_refl _) _).trans (Lib.below_setCells_w (Nat.le_refl _) _ _ _)
  have HB3 := Lib.hid (HB2.out.trans (hb3.mono HB2.out.size))
  have HR3 := Lib.hid ((hb3.block _ (blk_lt HR2.out)).trans HR2.out)
  have HP3 := Lib.hid (show X3.heap[P]? = some (.cells (u32s A).toArray 135 (0, 0)) by rw [HAe.out]; exact (hb3.block _ (blk_lt HP.out)).trans HP.out)
  have HQ3 := Lib.hid (show X3.heap[X2.heap.size]? = some (.cells (u32s A).toArray 135 (0, 0)) by rw [HAe.out, ← hX3]; exact heap_setCells_all HZ2.out (by simp [u32s_len, HAl.out]))
  have k5 : P < X2.heap.size := blk_lt HP.out
  obtain ⟨Q, hQ⟩ : ∃ Q, X2.heap.size = Q := ⟨_, rfl⟩
  rw [hQ] at HQ3 k5 ⊢
  clear hX3 hb3 hQ HZ2 HT2 HB2 HR2 HP HA1 HAl
  simp only [Act.put]
  go_wp2_with fail
  go_loopw [20] (fun i wr => ∃ (j : Nat) (V : List Nat), j ≤ 10 ∧ i = .int .i64 j ∧ Hid (Pl.turnsC (10 - j) V = Pl.turnsC 10 A) ∧ Hid (V.length = 16 ∧ Pl.All32 V) ∧ Hid (wr.heap[Q]? = some (.cells (u32s V).toArray 135 (0, 0))) ∧ Hid (X3.grownBy wr (some Q))) (fun i _ => 10 - (intOf i).toNat)
  case atStart => exact ⟨0, A, Nat.zero_le _, rfl, rfl, ⟨hA16, hAl⟩, HQ3.out, World.grownBy.refl _ _⟩
  case round =>
    obtain ⟨j, V, hj, rfl, HV, HVl, HD, HG⟩ := hrel
    clear HQ3
    by_cases hlt : j < 10
    · have j1 : (j : Int) < 10 := by omega
      obtain ⟨hV0, hA0⟩ := HVl.out
      clear HVl
      have HC := Lib.hid (step_0 V hV0 hA0 Q wr HD.out)
      obtain ⟨V1, hv1⟩ : ∃ z, Pl.stepC V 0 4 8 12 = z := ⟨_, rfl⟩
      have hV1 : V1.length = 16 := by rw [← hv1, Pl.stepC_len]; exact hV0
      have hA1 : Pl.All32 V1 := by rw [← hv1]; exact Pl.stepC_all hA0 _ _ _ _
      rw [hv1] at HC
      have Hv1 := Lib.hid hv1
      clear hv1
      go_wp2_with fail
      with_reducible refine HC.out.mono ?_
      rintro _ Y1 ⟨rfl, hd1, hg1⟩
      have HD1 := Lib.hid hd1
      have HG1 := Lib.hid (HG.out.trans hg1)
      clear hd1 hg1 HC HD HG hV0 hA0
      have HC := Lib.hid (step_1 V1 hV1 hA1 Q Y1 HD1.out)
      obtain ⟨V2, hv2⟩ : ∃ z, Pl.stepC V1 1 5 9 13 = z := ⟨_, rfl⟩
      have hV2 : V2.length = 16 := by rw [← hv2, Pl.stepC_len]; exact hV1
      have hA2 : Pl.All32 V2 := by rw [← hv2]; exact Pl.stepC_all hA1 _ _ _ _
      rw [hv2] at HC
      have Hv2 := Lib.hid hv2
      clear hv2
      go_wp2_with fail
      with_reducible refine HC.out.mono ?_
      rintro _ Y2 ⟨rfl, hd2, hg2⟩
      have HD2 := Lib.hid hd2
      have HG2 := Lib.hid (HG1.out.trans hg2)
      clear hd2 hg2 HC HD1 HG1 hV1 hA1
      have HC := Lib.hid (step_2 V2 hV2 hA2 Q Y2 HD2.out)
      obtain ⟨V3, hv3⟩ : ∃ z, Pl.stepC V2 2 6 10 14 = z := ⟨_, rfl⟩
      have hV3 : V3.length = 16 := by rw [← hv3, Pl.stepC_len]; exact hV2
      have hA3 : Pl.All32 V3 := by rw [← hv3]; exact Pl.stepC_all hA2 _ _ _ _
      rw [hv3] at HC
      have Hv3 := Lib.hid hv3
      clear hv3
      go_wp2_with fail
      with_reducible refine HC.out.mono ?_
      rintro _ Y3 ⟨rfl, hd3, hg3⟩
      have HD3 := Lib.hid hd3
      have HG3 := Lib.hid (HG2.out.trans hg3)
      clear hd3 hg3 HC HD2 HG2 hV2 hA2
      have HC := Lib.hid (step_3 V3 hV3 hA3 Q Y3 HD3.out)
      obtain ⟨V4, hv4⟩ : ∃ z, Pl.stepC V3 3 7 11 15 = z := ⟨_, rfl⟩
      have hV4 : V4.length = 16 := by rw [← hv4, Pl.stepC_len]; exact hV3
      have hA4 : Pl.All32 V4 := by rw [← hv4]; exact Pl.stepC_all hA3 _ _ _ _
      rw [hv4] at HC
      have Hv4 := Lib.hid hv4
      clear hv4
      go_wp2_with fail
      with_reducible refine HC.out.mono ?_
      rintro _ Y4 ⟨rfl, hd4, hg4⟩
      have HD4 := Lib.hid hd4
      have HG4 := Lib.hid (HG3.out.trans hg4)
      clear hd4 hg4 HC HD3 HG3 hV3 hA3
      have HC := Lib.hid (step_4 V4 hV4 hA4 Q Y4 HD4.out)
      obtain ⟨V5, hv5⟩ : ∃ z, Pl.stepC V4 0 5 10 15 = z := ⟨_, rfl⟩
      have hV5 : V5.length = 16 := by rw [← hv5, Pl.stepC_len]; exact hV4
      have hA5 : Pl.All32 V5 := by rw [← hv5]; exact Pl.stepC_all hA4 _ _ _ _
      rw [hv5] at HC
      have Hv5 := Lib.hid hv5
      clear hv5
      go_wp2_with fail
      with_reducible refine HC.out.mono ?_
      rintro _ Y5 ⟨rfl, hd5, hg5⟩
      have HD5 := Lib.hid hd5
      have HG5 := Lib.hid (HG4.out.trans hg5)
      clear hd5 hg5 HC HD4 HG4 hV4 hA4
      have HC := Lib.hid (step_5 V5 hV5 hA5 Q Y5 HD5.out)
      obtain ⟨V6, hv6⟩ : ∃ z, Pl.stepC V5 1 6 11 12 = z := ⟨_, rfl⟩
      have hV6 : V6.length = 16 := by rw [← hv6, Pl.stepC_len]; exact hV5
      have hA6 : Pl.All32 V6 := by rw [← hv6]; exact Pl.stepC_all hA5 _ _ _ _
      rw [hv6] at HC
      have Hv6 := Lib.hid hv6
      clear hv6
      go_wp2_with fail
      with_reducible refine HC.out.mono ?_
      rintro _ Y6 ⟨rfl, hd6, hg6⟩
      have HD6 := Lib.hid hd6
      have HG6 := Lib.hid (HG5.out.trans hg6)
      clear hd6 hg6 HC HD5 HG5 hV5 hA5
      have HC := Lib.hid (step_6 V6 hV6 hA6 Q Y6 HD6.out)
      obtain ⟨V7, hv7⟩ : ∃ z, Pl.stepC V6 2 7 8 13 = z := ⟨_, rfl⟩
      have hV7 : V7.length = 16 := by rw [← hv7, Pl.stepC_len]; exact hV6
      have hA7 : Pl.All32 V7 := by rw [← hv7]; exact Pl.stepC_all hA6 _ _ _ _
      rw [hv7] at HC
      have Hv7 := Lib.hid hv7
      clear hv7
      go_wp2_with fail
      with_reducible refine HC.out.mono ?_
      rintro _ Y7 ⟨rfl, hd7, hg7⟩
      have HD7 := Lib.hid hd7
      have HG7 := Lib.hid (HG6.out.trans hg7)
      clear hd7 hg7 HC HD6 HG6 hV6 hA6
      have HC := Lib.hid (step_7 V7 hV7 hA7 Q Y7 HD7.out)
      obtain ⟨V8, hv8⟩ : ∃ z, Pl.stepC V7 3 4 9 14 = z := ⟨_, rfl⟩
      have hV8 : V8.length = 16 := by rw [← hv8, Pl.stepC_len]; exact hV7
      have hA8 : Pl.All32 V8 := by rw [← hv8]; exact Pl.stepC_all hA7 _ _ _ _
      rw [hv8] at HC
      have Hv8 := Lib.hid hv8
      clear hv8
      go_wp2_with fail
      with_reducible refine HC.out.mono ?_
      rintro _ Y8 ⟨rfl, hd8, hg8⟩
      have HD8 := Lib.hid hd8
      have HG8 := Lib.hid (HG7.out.trans hg8)
      clear hd8 hg8 HC HD7 HG7 hV7 hA7
      have HT := Lib.hid (show Pl.turnsC (10 - (j + 1)) V8 = Pl.turnsC 10 A by
        have e := HV.out
        rw [show 10 - j = 10 - (j + 1) + 1 by omega, turns_more] at e
        rw [← e]
        unfold Pl.doubleC
        rw [Hv1.out, Hv2.out, Hv3.out, Hv4.out, Hv5.out, Hv6.out, Hv7.out, Hv8.out])
      clear HV Hv1 Hv2 Hv3 Hv4 Hv5 Hv6 Hv7 Hv8
      go_wp2_with fail
      go_roundw
      case rel => exact ⟨j + 1, V8, by omega, by go_num, HT.out, ⟨hV8, hA8⟩, HD8.out, HG8.out⟩
      case measure => simp [intOf]; omega
    · obtain rfl : j = 10 := by omega
      have HV0 := Lib.hid (show V = Pl.turnsC 10 A from HV.out)
      clear HV
      go_upto_region 16 with (fail)
      generalize hX4 : wr.alloc _ = X4
      have hb4 : Below wr.heap.size wr X4 := by rw [← hX4]; exact (Below.refl _ _).alloc (Nat.le_refl _) _
      have HD0 := Lib.hid (show X4.heap[wr.heap.size]? = some (.cells (u8s (List.replicate 64 0)).toArray 96 (0, 0)) by rw [← hX4]; exact heap_alloc_new wr _)
      have HQ4 := Lib.hid ((hb4.block _ (blk_lt HD.out)).trans HD.out)
      have hp := (HG.out.block _ (blk_lt HP3.out) (by simp; omega)).trans HP3.out
      have HP4 := Lib.hid ((hb4.block _ (blk_lt hp)).trans hp)
      have hr := (HG.out.block _ (blk_lt HR3.out) (by simp; omega)).trans HR3.out
      have HR4 := Lib.hid ((hb4.block _ (blk_lt hr)).trans hr)
      have hbw := HB3.out.grown HG.out HB3.out.size (fun j hj => by simp at hj; omega)
      have HB4 := Lib.hid (hbw.trans (hb4.mono hbw.size))
      have k6 : Q < wr.heap.size := blk_lt HD.out
      obtain ⟨D, hD⟩ : ∃ D, wr.heap.size = D := ⟨_, rfl⟩
      rw [hD] at HD0 k6 ⊢
      obtain ⟨hV16, hVA⟩ := HVl.out
      obtain ⟨T, hT⟩ : ∃ T, sumsC V A = T := ⟨_, rfl⟩
      have hT16 : T.length = 16 := by rw [← hT]; exact sums_len _ _
      have HTg := Lib.hid (show ∀ i, i < 16 → T.getD i 0 = Pl.add32 (V.getD i 0) (A.getD i 0) from fun i hi => by rw [← hT]; exact sums_get _ _ i hi)
      obtain ⟨F, hF⟩ : ∃ F, T.flatMap Pl.leB = F := ⟨_, rfl⟩
      have hFl : F.length = 64 := by rw [← hF, Pl.flat_len, hT16]
      have HFg := Lib.hid (show ∀ i j, i < 16 → j < 4 → F.getD (4 * i + j) 0 = (Pl.leB (T.getD i 0)).getD j 0 from fun i j hi hj => by rw [← hF]; exact flat_get T i j (by omega) hj)
      have HFe := Lib.hid (show Pl.blockC k nonce n = F by rw [HF.out, ← HV0.out, hT, hF])
      clear hX4 hb4 hp hr hbw hD hT hF HD HVl HG HF HV0 HB3 HR3 HP3
      go_wp2_with (with_reducible refine wpList_load_mid rfl 135 _ rfl Q 0 rfl (u32s V) _ (rangeL HQ4.out) Tryd.underlying135 rfl (by rw [u32s_len, hV16]; exact info_16) ?_)
      try rw [show ((10 : Nat) : Int) = 10 from rfl]
      clear HQ4
      go_loopw [40] (fun i wr => ∃ (k : Nat), k ≤ 16 ∧ i = .int .i64 k ∧ Hid (wr.heap[D]? = some (.cells (u8s (partB F (4 * k))).toArray 96 (0, 0))) ∧ Hid (X4.grownBy wr (some D))) (fun i _ => 16 - (intOf i).toNat)
      case atStart => exact ⟨0, Nat.zero_le _, rfl, by rw [Nat.mul_zero, partB_0]; exact HD0.out, World.grownBy.refl _ _⟩
      case round =>
        obtain ⟨k, hk, rfl, HD, HG⟩ := hrel
        clear HD0
        by_cases hlt : k < 16
        · obtain ⟨x0, hx0⟩ : ∃ x, V.getD k 0 = x := ⟨_, rfl⟩
          obtain ⟨y0, hy0⟩ : ∃ x, A.getD k 0 = x := ⟨_, rfl⟩
          obtain ⟨x, hx⟩ : ∃ x, Pl.add32 x0 y0 = x := ⟨_, rfl⟩
          have lx : x < 4294967296 := by rw [← hx]; exact Pl.add32_lt _ _
          have hidx : ∀ w : World, (Instr.index 135 (.agg (u32s V).toArray) (.int .i64 (k : Int))).run Tryd.prog w = .ok (.int .u32 (x0 : Int)) w := fun w => by rw [← hx0]; exact index16 V hV16 k hlt w
          have HFx := Lib.hid (fun j (hj : j < 4) => (HFg.out k j hlt hj).trans (by rw [HTg.out k hlt, hx0, hy0, hx] : (Pl.leB (T.getD k 0)).getD j 0 = (Pl.leB x).getD j 0))
          have hsum : IntKind.u32.wrap ((x0 : Int) + (y0 : Int)) = (x : Int) := by rw [← hx]; exact add_one x0 y0
          have q5 : wr.cell? ⟨P, k, none⟩ = some (.int .u32 (y0 : Int)) := by rw [← hy0]; exact HG.out.cell (u32s_cell HP4.out k (by omega)) (by simp; omega)
          have k0' : (0 : Int) ≤ (k : Int) := by omega
          have k1' : (k : Int) < 16 := by omega
          clear hx hx0 hy0
          go_wp2_with fail
          clear hidx hsum q5
          go_loopw [49] (fun i wr => ∃ (j : Nat), j ≤ 4 ∧ i = .int .i64 j ∧ Hid (wr.heap[D]? = some (.cells (u8s (partB F (4 * k + j))).toArray 96 (0, 0))) ∧ Hid (X4.grownBy wr (some D))) (fun i _ => 4 - (intOf i).toNat)
          case atStart => exact ⟨0, Nat.zero_le _, rfl, HD.out, HG.out⟩
          case round =>
            clear HD HG
            obtain ⟨j, hj, rfl, HD, HG⟩ := hrel
            by_cases hlj : j < 4
            · obtain rfl | rfl | rfl | rfl : j = 0 ∨ j = 1 ∨ j = 2 ∨ j = 3 := by omega
              · replace HD := Lib.hid (show wr.heap[D]? = some (.cells (u8s (partB F (4 * k))).toArray 96 (0, 0)) from HD.out)
                obtain ⟨y, hy⟩ : ∃ y, (F.getD (4 * k) 0).toNat = y := ⟨_, rfl⟩
                have hyx : y = x % 256 := by rw [← hy, show 4 * k = 4 * k + 0 from rfl, HFx.out 0 (by decide)]; show (UInt8.ofNat (x % 256)).toNat = _; rw [UInt8.toNat_ofNat']; omega
                have ec : IntKind.u8.wrap ((x : Int)) = (y : Int) := by rw [IntKind.wrap_u8, hyx]; omega
                have hlen : (partB F (4 * k)).length = 64 := partB_len hFl (by omega)
                have q1 : wr.cell? ⟨D, 4 * k, none⟩ = some (.int .u8 (((partB F (4 * k)).getD (4 * k) 0).toNat : Int)) := u8s_cell HD.out _ (by omega)
                have q2 := frozen_of wr D (4 * k) _ _ HD.out
                have n1 : (0 : Int) ≤ 4 * (k : Int) := by omega
                have n2 : 4 * (k : Int) < 64 := by omega
                have n3 : (4 * (k : Int)).toNat = 4 * k := by omega
                have HS := Lib.hid (show (wr.setCell ⟨D, 4 * k, none⟩ (.int .u8 (y : Int))).heap[D]? = some (.cells (u8s (partB F (4 * k + 0 + 1))).toArray 96 (0, 0)) by
                  rw [set_at _ _ _ _ _ _ HD.out, List.setIfInBounds_toArray, ← hy, u8s_set, partB_step hFl (by omega)])
                have HS3 := Lib.hid (HG.out.trans (grown_set wr D (4 * k) (.int .u8 (y : Int))))
                clear hy hyx hlen
                go_wp2_with fail
                go_roundw
                case rel => exact ⟨0 + 1, by omega, by go_num, HS.out, HS3.out⟩
                case measure => simp [intOf]
              · obtain ⟨y, hy⟩ : ∃ y, (F.getD (4 * k + 1) 0).toNat = y := ⟨_, rfl⟩
                have hyx : y = x / 256 % 256 := by rw [← hy, HFx.out 1 (by decide)]; show (UInt8.ofNat (x / 256 % 256)).toNat = _; rw [UInt8.toNat_ofNat']; omega
                have ec : IntKind.u8.wrap ((x : Int) / 256) = (y : Int) := by rw [IntKind.wrap_u8, hyx]; omega
                have hlen : (partB F (4 * k + 1)).length = 64 := partB_len hFl (by omega)
                have q1 : wr.cell? ⟨D, 4 * k + 1, none⟩ = some (.int .u8 (((partB F (4 * k + 1)).getD (4 * k + 1) 0).toNat : Int)) := u8s_cell HD.out _ (by omega)
                have q2 := frozen_of wr D (4 * k + 1) _ _ HD.out
                have n1 : (0 : Int) ≤ 4 * (k : Int) + 1 := by omega
                have n2 : 4 * (k : Int) + 1 < 64 := by omega
                have n3 : (4 * (k : Int) + 1).toNat = 4 * k + 1 := by omega
                have HS := Lib.hid (show (wr.setCell ⟨D, 4 * k + 1, none⟩ (.int .u8 (y : Int))).heap[D]? = some (.cells (u8s (partB F (4 * k + 1 + 1))).toArray 96 (0, 0)) by
                  rw [set_at _ _ _ _ _ _ HD.out, List.setIfInBounds_toArray, ← hy, u8s_set, partB_step hFl (by omega)])
                have HS3 := Lib.hid (HG.out.trans (grown_set wr D (4 * k + 1) (.int .u8 (y : Int))))
                clear hy hyx hlen
                go_wp2_with fail
                go_roundw
                case rel => exact ⟨1 + 1, by omega, by go_num, HS.out, HS3.out⟩
                case measure => simp [intOf]
              · obtain ⟨y, hy⟩ : ∃ y, (F.getD (4 * k + 2) 0).toNat = y := ⟨_, rfl⟩
                have hyx : y = x / 65536 % 256 := by rw [← hy, HFx.out 2 (by decide)]; show (UInt8.ofNat (x / 65536 % 256)).toNat = _; rw [UInt8.toNat_ofNat']; omega
                have ec : IntKind.u8.wrap ((x : Int) / 65536) = (y : Int) := by rw [IntKind.wrap_u8, hyx]; omega
                have hlen : (partB F (4 * k + 2)).length = 64 := partB_len hFl (by omega)
                have q1 : wr.cell? ⟨D, 4 * k + 2, none⟩ = some (.int .u8 (((partB F (4 * k + 2)).getD (4 * k + 2) 0).toNat : Int)) := u8s_cell HD.out _ (by omega)
                have q2 := frozen_of wr D (4 * k + 2) _ _ HD.out
                have n1 : (0 : Int) ≤ 4 * (k : Int) + 2 := by omega
                have n2 : 4 * (k : Int) + 2 < 64 := by omega
                have n3 : (4 * (k : Int) + 2).toNat = 4 * k + 2 := by omega
                have HS := Lib.hid (show (wr.setCell ⟨D, 4 * k + 2, none⟩ (.int .u8 (y : Int))).heap[D]? = some (.cells (u8s (partB F (4 * k + 2 + 1))).toArray 96 (0, 0)) by
                  rw [set_at _ _ _ _ _ _ HD.out, List.setIfInBounds_toArray, ← hy, u8s_set, partB_step hFl (by omega)])
                have HS3 := Lib.hid (HG.out.trans (grown_set wr D (4 * k + 2) (.int .u8 (y : Int))))
                clear hy hyx hlen
                go_wp2_with fail
                go_roundw
                case rel => exact ⟨2 + 1, by omega, by go_num, HS.out, HS3.out⟩
                case measure => simp [intOf]
              · obtain ⟨y, hy⟩ : ∃ y, (F.getD (4 * k + 3) 0).toNat = y := ⟨_, rfl⟩
                have hyx : y = x / 16777216 % 256 := by rw [← hy, HFx.out 3 (by decide)]; show (UInt8.ofNat (x / 16777216 % 256)).toNat = _; rw [UInt8.toNat_ofNat']; omega
                have ec : IntKind.u8.wrap ((x : Int) / 16777216) = (y : Int) := by rw [IntKind.wrap_u8, hyx]; omega
                have hlen : (partB F (4 * k + 3)).length = 64 := partB_len hFl (by omega)
                have q1 : wr.cell? ⟨D, 4 * k + 3, none⟩ = some (.int .u8 (((partB F (4 * k + 3)).getD (4 * k + 3) 0).toNat : Int)) := u8s_cell HD.out _ (by omega)
                have q2 := frozen_of wr D (4 * k + 3) _ _ HD.out
                have n1 : (0 : Int) ≤ 4 * (k : Int) + 3 := by omega
                have n2 : 4 * (k : Int) + 3 < 64 := by omega
                have n3 : (4 * (k : Int) + 3).toNat = 4 * k + 3 := by omega
                have HS := Lib.hid (show (wr.setCell ⟨D, 4 * k + 3, none⟩ (.int .u8 (y : Int))).heap[D]? = some (.cells (u8s (partB F (4 * k + 3 + 1))).toArray 96 (0, 0)) by
                  rw [set_at _ _ _ _ _ _ HD.out, List.setIfInBounds_toArray, ← hy, u8s_set, partB_step hFl (by omega)])
                have HS3 := Lib.hid (HG.out.trans (grown_set wr D (4 * k + 3) (.int .u8 (y : Int))))
                clear hy hyx hlen
                go_wp2_with fail
                go_roundw
                case rel => exact ⟨3 + 1, by omega, by go_num, HS.out, HS3.out⟩
                case measure => simp [intOf]
            · obtain rfl : j = 4 := by omega
              have HD' := Lib.hid (show wr.heap[D]? = some (.cells (u8s (partB F (4 * (k + 1)))).toArray 96 (0, 0)) from HD.out)
              go_wp2_with fail
              go_roundw
              case rel => exact ⟨k + 1, by omega, by go_num, HD'.out, HG.out⟩
              case measure => simp [intOf]; omega
        · obtain rfl : k = 16 := by omega
          obtain ⟨L, hL⟩ : ∃ L, u8s F = L := ⟨_, rfl⟩
          have hLl : L.length = 64 := by rw [← hL, u8s_len, hFl]
          have hL1 : ∀ v ∈ L, v.oneCell' = true := by rw [← hL]; exact u8s_one _
          have hat := HD.out
          rw [show 4 * 16 = 64 from rfl, partB_64 hFl, hL] at hat
          have HAT := Lib.hid hat
          have HL := Lib.hid hL
          have HLl := Lib.hid hLl
          have HRr := Lib.hid ((HG.out.block _ (blk_lt HR4.out) (by simp; omega)).trans HR4.out)
          have HTH := Lib.hid (thereL (n := L.toArray.size) HRr.out (by rw [List.size_toArray, List.size_toArray, HLl.out, u8s_len, List.length_replicate]; exact Nat.le_refl _))
          clear hat hL hLl
          go_wp2_with (first
            | (with_reducible refine wpList_load_mid rfl 96 _ rfl D 0 rfl L _ (rangeL HAT.out) Tryd.underlying96 rfl (by rw [HLl.out]; exact info_b64) ?_)
            | (with_reducible refine wpList_store_mid rfl 96 _ _ rfl R 0 L.toArray rfl rfl HTH.out (by rw [List.size_toArray, HLl.out]; exact info_b64) (all_oneCell_toArray hL1) ?_))
          have hfin := heap_setCells_all HRr.out (vs := L) (by rw [HLl.out, u8s_len, List.length_replicate])
          refine bodyPost_ret (v := .agg L.toArray) (results_one rfl rfl (rangeL hfin) Tryd.underlying96 rfl (by rw [HLl.out]; exact info_b64)) rfl ?_
          refine ⟨by rw [HFe.out, HL.out], ?_⟩
          have hbz := HB4.out.grown HG.out HB4.out.size (fun j hj => by simp at hj; omega)
          rw [HKe.out] at hbz ⊢
          exact hbz.trans (Lib.below_setCells_w (by omega) _ _ _)
end Go.Proofs.YtadoplgmeoghmaaDoor
namespace Go.Proofs.YtadoplgmeoghmaaDoor
open Go.RowKit
set_option linter.unusedVariables false
set_option linter.unusedSimpArgs false
theorem xorL_get {a b : List UInt8} (p : Nat) (h : p < a.length) (hb : p < b.length) : (Pl.xorL a b).getD p 0 = a.getD p 0 ^^^ b.getD p 0 := by
  unfold Pl.xorL
  simp [List.getD_eq_getElem?_getD, List.getElem?_zipWith, List.getElem?_eq_getElem h, List.getElem?_eq_getElem hb]
theorem xorF_get (k nonce : List UInt8) : ∀ (f n : Nat) (d : List UInt8) (p : Nat), d.length ≤ f → p < d.length → n < 4294967296 → (Pl.xorF k nonce f n d).getD p 0 = d.getD p 0 ^^^ (Pl.blockC k nonce ((n + p / 64) % 4294967296)).getD (p % 64) 0
  | 0, n, d, p, h, hp, _ => by omega
  | f + 1, n, d, p, h, hp, hn => by
    have hne : d ≠ [] := by intro e; rw [e] at hp; simp at hp
    rw [Pl.xorF, if_neg hne]
    have hl : (Pl.xorL (d.take 64) (Pl.blockC k nonce n)).length = min 64 d.length := by rw [Pl.xorL_len (by rw [Pl.blockC_len, List.length_take]; omega), List.length_take]
    rcases Nat.lt_or_ge p 64 with h64 | h64
    · rw [List.getD_eq_getElem?_getD, List.getElem?_append_left (by omega), ← List.getD_eq_getElem?_getD, xorL_get p (by rw [List.length_take]; omega) (by rw [Pl.blockC_len]; omega)]
      rw [show p / 64 = 0 by omega, show p % 64 = p by omega, Nat.add_zero, Nat.mod_eq_of_lt hn]
      congr 1
      simp [List.getD_eq_getElem?_getD, List.getElem?_take, h64]
    · rw [List.getD_eq_getElem?_getD, List.getElem?_append_right (by omega), hl, show min 64 d.length = 64 by omega, ← List.getD_eq_getElem?_getD, xorF_get k nonce f _ _ _ (by rw [List.length_drop]; omega) (by rw [List.length_drop]; omega) (Nat.mod_lt _ (by decide))]
      rw [show (p - 64) % 64 = p % 64 by omega, show ((n + 1) % 4294967296 + (p - 64) / 64) % 4294967296 = (n + p / 64) % 4294967296 by omega]
      congr 1
      simp only [List.getD_eq_getElem?_getD, List.getElem?_drop]
      rw [show 64 + (p - 64) = p by omega]
theorem xorC_get (k nonce : List UInt8) (n : Nat) (d : List UInt8) (p : Nat) (hp : p < d.length) (hn : n < 4294967296) : (Pl.xorC k nonce n d).getD p 0 = d.getD p 0 ^^^ (Pl.blockC k nonce ((n + p / 64) % 4294967296)).getD (p % 64) 0 := xorF_get k nonce _ n d p (Nat.le_refl _) hp hn
/-- The first bytes turned, the others as they were. -/
def partX (X d : List UInt8) (p : Nat) : List UInt8 := X.take p ++ d.drop p
theorem partX_0 (X d : List UInt8) : partX X d 0 = d := by simp [partX]
theorem partX_len {X d : List UInt8} (h : X.length = d.length) (p : Nat) : (partX X d p).length = d.length := by simp [partX, h]; omega
theorem partX_all {X d : List UInt8} (h : X.length = d.length) {p : Nat} (hp : d.length ≤ p) : partX X d p = X := by simp [partX, List.take_of_length_le (Nat.le_trans (Nat.le_of_eq h) hp), List.drop_of_length_le hp]
theorem partX_get {X d : List UInt8} (h : X.length = d.length) {p : Nat} (hp : p < d.length) : (partX X d p).getD p 0 = d.getD p 0 := by
  unfold partX
  rw [List.getD_eq_getElem?_getD, List.getElem?_append_right (by rw [List.length_take]; omega), List.length_take, h, Nat.min_eq_left (Nat.le_of_lt hp), Nat.sub_self, List.getElem?_drop, List.getD_eq_getElem?_getD, Nat.add_zero]
theorem partX_step {X d : List UInt8} (h : X.length = d.length) {p : Nat} (hp : p < d.length) : (partX X d p).set p (X.getD p 0) = partX X d (p + 1) := by
  unfold partX
  have hl : (X.take p).length = p := by rw [List.length_take]; omega
  rw [List.set_append_right _ _ (by omega), hl, Nat.sub_self, List.drop_eq_getElem_cons hp, List.set_cons_zero, List.take_add_one, List.getElem?_eq_getElem (by omega), List.getD_eq_getElem?_getD, List.getElem?_eq_getElem (by omega)]
  simp only [Option.toList_some, Option.getD_some, List.append_assoc, List.singleton_append]
/-- The row that a text's bytes are copied into: some zeros may stand behind them. -/
structure OutB (W : World) (O z : Nat) (E : List UInt8) : Prop where
  at_ : W.heap[O]? = some (.cells (u8s (E ++ List.replicate z 0)).toArray 5 (E.length + z, E.length + z + 1))
section
variable {W W' : World} {O z : Nat} {E : List UInt8}
theorem OutB.cell (H : OutB W O z E) (i : Nat) (hi : i < E.length) : W.cell? ⟨O, i, none⟩ = some (.int .u8 ((E.getD i 0).toNat : Int)) := by
  rw [cell_of_row W O i _ _ _ H.at_, List.getElem?_toArray, u8s_get _ _ (by rw [List.length_append]; omega)]
  congr 4
  rw [List.getD_eq_getElem?_getD, List.getElem?_append_left hi, ← List.getD_eq_getElem?_getD]
theorem OutB.froz (H : OutB W O z E) (i : Nat) (hi : i < E.length) : W.frozen? ⟨O, i, none⟩ = false := by
  simp only [World.frozen?, H.at_]
  simp
  omega
theorem OutB.set (H : OutB W O z E) (i : Nat) (x : UInt8) (hi : i < E.length) : OutB (W.setCell ⟨O, i, none⟩ (.int .u8 (x.toNat : Int))) O z (E.set i x) := by
  refine ⟨?_⟩
  have h := H.at_
  have : (W.setCell ⟨O, i, none⟩ (.int .u8 (x.toNat : Int))).heap[O]? = some (.cells ((u8s (E ++ List.replicate z 0)).toArray.setIfInBounds i (.int .u8 (x.toNat : Int))) 5 (E.length + z, E.length + z + 1)) := by
    simp [World.setCell, Array.getElem?_modify, h]
  rw [this, List.setIfInBounds_toArray, u8s_set, List.set_append_left _ _ hi, List.length_set]
theorem OutB.kept (H : OutB W O z E) {r : Option Nat} (hg : W.grownBy W' r) (hr : some O ≠ r) : OutB W' O z E := ⟨(hg.block _ (blk_lt H.at_) hr).trans H.at_⟩
end
/-- The world in which a text's bytes lie in a row of their own. -/
def outW (W : World) (d : List UInt8) : World := W.drew.alloc (.cells (u8s (d ++ List.replicate (grownCap W d.length 0 5 - d.length) 0)).toArray 5 (d.length + (grownCap W d.length 0 5 - d.length), d.length + (grownCap W d.length 0 5 - d.length) + 1))
theorem conv_out (d : List UInt8) (W : World) : (convert 9 71 (.string ⟨d.toArray⟩)).run Tryd.prog W = .ok (.slice (some ⟨W.heap.size, 0, none⟩) d.length (grownCap W d.length 0 5)) (outW W d) := by
  rw [run_bytes_of_string W _ _ _ _ Tryd.underlying9 Tryd.underlying71 Tryd.underlying5]
  have hsz : (⟨d.toArray⟩ : ByteArray).size = d.length := rfl
  have hrow : bytesRow ⟨d.toArray⟩ (grownCap W d.length 0 5) = (u8s (d ++ List.replicate (grownCap W d.length 0 5 - d.length) 0)).toArray := by
    simp [bytesRow, u8s, hsz]
  rw [hsz, hrow]
  unfold outW
  simp [u8s_len]
theorem outW_out (W : World) (d : List UInt8) : OutB (outW W d) W.heap.size (grownCap W d.length 0 5 - d.length) d := ⟨heap_alloc_new W.drew _⟩
theorem outW_below (W : World) (d : List UInt8) : Below W.heap.size W (outW W d) := (Below.refl _ _).drew.alloc (Nat.le_refl _) _
theorem outW_size (W : World) (d : List UInt8) : (outW W d).heap.size = W.heap.size + 1 := by simp [outW]
set_option maxRecDepth 1000000 in
set_option maxHeartbeats 8000000 in
theorem xor_any (k nonce : List UInt8) (n : Nat) (d : List UInt8) (hk : k.length = 32) (hn : nonce.length = 12) (hN : n < 4294967296) (hd : d.length < 4611686018427387904) (w : World) :
    Calls Tryd.prog 43 #[.agg (u8s k).toArray, .agg (u8s nonce).toArray, .int .u32 (n : Int), .string ⟨d.toArray⟩] w (fun e w' => e = .returned (.string ⟨(Pl.xorC k nonce n d).toArray⟩) ∧ Below w.heap.size w w') := by
  have hconv := conv_out d
  go_enter Tryd.func43, Tryd.ntmps43
  go_upto_region 3 with (fail)
  clear hconv
  obtain ⟨X, hX⟩ : ∃ X, (w.alloc (.cells (u8s k).toArray 24)).alloc (.cells (u8s nonce).toArray 53) = X := ⟨_, rfl⟩
  have HB := Lib.hid (show Below w.heap.size w X by rw [← hX]; exact ((Below.refl _ _).alloc (Nat.le_refl _) _).alloc (by simp) _)
  have HK := Lib.hid (show X.heap[w.heap.size]? = some (.cells (u8s k).toArray 24 (0, 0)) by rw [← hX]; exact (Below.heap_alloc _ _ _ (by simp)).trans (heap_alloc_new w _))
  have HN := Lib.hid (show X.heap[w.heap.size + 1]? = some (.cells (u8s nonce).toArray 53 (0, 0)) by rw [← hX]; exact heap_alloc_2 w _ _)
  have hXs : X.heap.size = w.heap.size + 1 + 1 := by rw [← hX]; simp
  rw [hX]
  clear hX
  have HO := Lib.hid (outW_out X d)
  have HB1 := Lib.hid (HB.out.trans ((outW_below X d).mono HB.out.size))
  have HK1 := Lib.hid (((outW_below X d).block _ (blk_lt HK.out)).trans HK.out)
  have HN1 := Lib.hid (((outW_below X d).block _ (blk_lt HN.out)).trans HN.out)
  have hcap : d.length ≤ grownCap X d.length 0 5 := grownCap_ge X d.length 0 5
  obtain ⟨cap, hcapE⟩ : ∃ c, grownCap X d.length 0 5 = c := ⟨_, rfl⟩
  obtain ⟨Y, hY⟩ : ∃ Y, outW X d = Y := ⟨_, rfl⟩
  rw [hcapE] at HO hcap
  try rw [hcapE]
  rw [hY] at HO HB1 HK1 HN1
  try rw [hY]
  obtain ⟨K, hKe⟩ : ∃ K, w.heap.size = K := ⟨_, rfl⟩
  obtain ⟨N, hNe⟩ : ∃ N, K + 1 = N := ⟨_, rfl⟩
  obtain ⟨O, hOe⟩ : ∃ O, N + 1 = O := ⟨_, rfl⟩
  rw [hKe] at HK1 HN1 hXs
  rw [hNe] at HN1 hXs
  rw [hOe] at hXs
  rw [hXs] at HO
  rw [hKe, hNe]
  try rw [hOe]
  try rw [hXs]
  have k0 : w.heap.size ≤ K := Nat.le_of_eq hKe
  have k1 : K < N := by omega
  have k2 : N < O := by omega
  have HKe := Lib.hid hKe
  clear hKe hNe hOe hXs hY hcapE HB HK HN
  obtain ⟨kL, hkL⟩ : ∃ L, u8s k = L := ⟨_, rfl⟩
  obtain ⟨nL, hnL⟩ : ∃ L, u8s nonce = L := ⟨_, rfl⟩
  have HkL := Lib.hid (show kL.length = 32 by rw [← hkL, u8s_len, hk])
  have HnL := Lib.hid (show nL.length = 12 by rw [← hnL, u8s_len, hn])
  have HCb := Lib.hid (fun (m : Nat) (hm : m < 4294967296) => block_any k nonce m hk hn hm)
  rw [hkL, hnL] at HCb
  rw [hkL] at HK1 ⊢
  rw [hnL] at HN1 ⊢
  obtain ⟨T, hT⟩ : ∃ T, Pl.xorC k nonce n d = T := ⟨_, rfl⟩
  have hTl : T.length = d.length := by rw [← hT]; exact Pl.xorC_len _ _ _ _
  have HTg := Lib.hid (show ∀ p, p < d.length → T.getD p 0 = d.getD p 0 ^^^ (Pl.blockC k nonce ((n + p / 64) % 4294967296)).getD (p % 64) 0 from fun p hp => by rw [← hT]; exact xorC_get k nonce n d p hp hN)
  have HTe := Lib.hid hT
  clear hT hkL hnL hk hn
  obtain ⟨z, hz⟩ : ∃ z, cap - d.length = z := ⟨_, rfl⟩
  rw [hz] at HO
  clear hz
  go_loopw [2, 10] (fun nn at_ wr => ∃ (i : Nat), 64 * i ≤ d.length + 63 ∧ nn = .int .u32 (((n + i) % 4294967296 : Nat) : Int) ∧ at_ = .int .i64 ((64 * i : Nat) : Int) ∧ Hid (OutB wr O z (partX T d (64 * i))) ∧ Hid (Y.grownBy wr (some O))) (fun _ at_ _ => d.length + 64 - (intOf at_).toNat)
  case atStart => exact ⟨0, Nat.zero_le _, by rw [Nat.add_zero, Nat.mod_eq_of_lt hN], by rfl, by rw [Nat.mul_zero, partX_0]; exact HO.out, World.grownBy.refl _ _⟩
  case round =>
    obtain ⟨i, hi, rfl, rfl, HD, HG⟩ := hrel
    clear HO
    obtain ⟨a, ha⟩ : ∃ a, 64 * i = a := ⟨_, rfl⟩
    obtain ⟨m, hm⟩ : ∃ m, (n + i) % 4294967296 = m := ⟨_, rfl⟩
    have hml : m < 4294967296 := by omega
    rw [ha] at HD hi ⊢
    rw [hm]
    have HA := Lib.hid ha
    have HM := Lib.hid hm
    clear ha hm
    by_cases hlt : a < d.length
    · have hd1 : decide (a < d.length) = true := by simpa using hlt
      have hKr := (HG.out.block _ (blk_lt HK1.out) (by simp; omega)).trans HK1.out
      have hNr := (HG.out.block _ (blk_lt HN1.out) (by simp; omega)).trans HN1.out
      have HKr := Lib.hid hKr
      have HNr := Lib.hid hNr
      clear hKr hNr
      go_wp2_with (first
        | (with_reducible refine wpList_load_mid rfl 24 _ rfl K 0 rfl kL _ (rangeL HKr.out) Tryd.underlying24 rfl (by rw [HkL.out]; exact info_k) ?_)
        | (with_reducible refine wpList_load_mid rfl 53 _ rfl N 0 rfl nL _ (rangeL HNr.out) Tryd.underlying53 rfl (by rw [HnL.out]; exact info_n12) ?_))
      obtain ⟨st, hst⟩ : ∃ st, Pl.blockC k nonce m = st := ⟨_, rfl⟩
      have hstl : st.length = 64 := by rw [← hst]; exact Pl.blockC_len _ _ _
      have HC := Lib.hid (HCb.out m hml wr)
      rw [hst] at HC
      have HST := Lib.hid hst
      obtain ⟨sL, hsL⟩ : ∃ L, u8s st = L := ⟨_, rfl⟩
      have HsL := Lib.hid (show sL.length = 64 by rw [← hsL, u8s_len, hstl])
      have HsE := Lib.hid hsL
      have Hs1 := Lib.hid (show sL.toArray.all (·.oneCell') = true by rw [← hsL]; exact all_oneCell_toArray (u8s_one st))
      rw [hsL] at HC
      clear hst hsL
      with_reducible refine HC.out.mono ?_
      rintro _ W1 ⟨rfl, hb1⟩
      have HD1 := Lib.hid (HD.out.kept (r := none) ⟨hb1.os, hb1.tape, hb1.output, hb1.size, fun b hb _ => hb1.block b hb⟩ (by simp))
      have HG1 := Lib.hid (HG.out.trans (grown_of_below hb1))
      clear hb1 HC HD HG HKr HNr
      have HZ := Lib.hid (show (W1.alloc (.cells #[.int .u8 0, .int .u8 0, .int .u8 0, .int .u8 0, .int .u8 0, .int .u8 0, .int .u8 0, .int .u8 0, .int .u8 0, .int .u8 0, .int .u8 0, .int .u8 0, .int .u8 0, .int .u8 0, .int .u8 0, .int .u8 0, .int .u8 0, .int .u8 0, .int .u8 0, .int .u8 0, .int .u8 0, .int .u8 0, .int .u8 0, .int .u8 0, .int .u8 0, .int .u8 0, .int .u8 0, .int .u8 0, .int .u8 0, .int .u8 0, .int .u8 0, .int .u8 0, .int .u8 0, .int .u8 0, .int .u8 0, .int .u8 0, .int .u8 0, .int .u8 0, .int .u8 0, .int .u8 0, .int .u8 0, .int .u8 0, .int .u8 0, .int .u8 0, .int .u8 0, .int .u8 0, .int .u8 0, .int .u8 0, .int .u8 0, .int .u8 0, .int .u8 0, .int .u8 0, .int .u8 0, .int .u8 0, .int .u8 0, .int .u8 0, .int .u8 0, .int .u8 0, .int .u8 0, .int .u8 0, .int .u8 0, .int .u8 0, .int .u8 0, .int .u8 0] 96)).heap[W1.heap.size]? = some (.cells (u8s (List.replicate 64 0)).toArray 96 (0, 0)) from heap_alloc_new W1 _)
      have HTH := Lib.hid (show (W1.alloc (.cells #[.int .u8 0, .int .u8 0, .int .u8 0, .int .u8 0, .int .u8 0, .int .u8 0, .int .u8 0, .int .u8 0, .int .u8 0, .int .u8 0, .int .u8 0, .int .u8 0, .int .u8 0, .int .u8 0, .int .u8 0, .int .u8 0, .int .u8 0, .int .u8 0, .int .u8 0, .int .u8 0, .int .u8 0, .int .u8 0, .int .u8 0, .int .u8 0, .int .u8 0, .int .u8 0, .int .u8 0, .int .u8 0, .int .u8 0, .int .u8 0, .int .u8 0, .int .u8 0, .int .u8 0, .int .u8 0, .int .u8 0, .int .u8 0, .int .u8 0, .int .u8 0, .int .u8 0, .int .u8 0, .int .u8 0, .int .u8 0, .int .u8 0, .int .u8 0, .int .u8 0, .int .u8 0, .int .u8 0, .int .u8 0, .int .u8 0, .int .u8 0, .int .u8 0, .int .u8 0, .int .u8 0, .int .u8 0, .int .u8 0, .int .u8 0, .int .u8 0, .int .u8 0, .int .u8 0, .int .u8 0, .int .u8 0, .int .u8 0, .int .u8 0, .int .u8 0] 96)).there W1.heap.size 0 sL.toArray.size from thereL HZ.out (by rw [List.size_toArray, HsL.out]; simp [u8s_len]))
      go_upto_region 6 with (with_reducible refine wpList_store_mid rfl 96 _ _ rfl W1.heap.size 0 sL.toArray rfl rfl HTH.out (by rw [List.size_toArray, HsL.out]; exact info_b64) Hs1.out ?_)
      generalize hX6 : (W1.alloc _).setCells _ _ _ = X6
      have hb6 : Below W1.heap.size W1 X6 := by rw [← hX6]; exact ((Below.refl _ _).alloc (Nat.le_refl _) _).trans (Lib.below_setCells_w (Nat.le_refl _) _ _ _)
      have HD2 := Lib.hid (HD1.out.kept (grown_of_below (r := none) hb6) (by simp))
      have HG2 := Lib.hid (HG1.out.trans (grown_of_below hb6))
      have HS := Lib.hid (show X6.heap[W1.heap.size]? = some (.cells (u8s st).toArray 96 (0, 0)) by rw [← hX6, HsE.out]; exact heap_setCells_all HZ.out (by rw [HsL.out]; simp [u8s_len]))
      have k3 : O < W1.heap.size := blk_lt HD1.out.at_
      obtain ⟨S, hS⟩ : ∃ S, W1.heap.size = S := ⟨_, rfl⟩
      rw [hS] at HS k3 ⊢
      clear hX6 hb6 hS HZ HTH HD1 HG1 HsL Hs1 HsE
      simp only [Act.put]
      obtain ⟨m1, hm1⟩ : ∃ m1, (n + (i + 1)) % 4294967296 = m1 := ⟨_, rfl⟩
      have em : IntKind.u32.wrap ((m : Int) + 1) = (m1 : Int) := by rw [IntKind.wrap_u32]; have := HM.out; omega
      have HM1 := Lib.hid hm1
      have a0 : (0 : Int) ≤ (a : Int) := by omega
      have h4 : ¬ cap = a := by omega
      clear hm1
      obtain ⟨h, hh⟩ : ∃ h, a + 64 = h := ⟨_, rfl⟩
      obtain ⟨e, he⟩ : ∃ e, min h d.length = e := ⟨_, rfl⟩
      have ea : IntKind.i64.wrap ((a : Int) + 64) = (h : Int) := (IntWalk.i64_in _ (by omega)).trans (by omega)
      have emin : (if d.length < h then (d.length : Int) else (h : Int)) = (e : Int) := by split <;> omega
      have emin2 : (if (d.length : Int) < (h : Int) then (d.length : Int) else (h : Int)) = (e : Int) := by split <;> omega
      have h1 : (a : Int) ≤ (e : Int) := by omega
      have h2 : (e : Int) ≤ (cap : Int) := by omega
      have h3 : (0 : Int) ≤ (e : Int) := by omega
      obtain ⟨q, hq⟩ : ∃ q, e - a = q := ⟨_, rfl⟩
      have hq64 : q ≤ 64 := by omega
      have hqd : a + q ≤ d.length := by omega
      have HQe := Lib.hid (show partX T d (a + q) = partX T d (64 * (i + 1)) by
        have := HA.out
        by_cases hf : a + 64 ≤ d.length
        · rw [show a + q = 64 * (i + 1) by omega]
        · rw [partX_all hTl (p := a + q) (by omega), partX_all hTl (p := 64 * (i + 1)) (by omega)])
      have HHI := Lib.hid (And.intro hh he)
      have HQ := Lib.hid hq
      clear hh he hq
      go_wp2_with fail
      rw [HQ.out]
      clear em h4 hd1 ea emin emin2 h1 h2 h3
      go_loopw [38] (fun ii wr => ∃ (j : Nat), j ≤ q ∧ ii = .int .i64 j ∧ Hid (OutB wr O z (partX T d (a + j))) ∧ Hid (wr.heap[S]? = some (.cells (u8s st).toArray 96 (0, 0))) ∧ Hid (Y.grownBy wr (some O))) (fun ii _ => q - (intOf ii).toNat)
      case atStart => exact ⟨0, Nat.zero_le _, rfl, HD2.out, HS.out, HG2.out⟩
      case round =>
        obtain ⟨j, hj, rfl, HD, HS, HG⟩ := hrel
        by_cases hltj : j < q
        · obtain ⟨x, hx⟩ : ∃ x, d.getD (a + j) 0 = x := ⟨_, rfl⟩
          obtain ⟨y, hy⟩ : ∃ y, st.getD j 0 = y := ⟨_, rfl⟩
          have hxl := x.toNat_lt
          have hyl := y.toNat_lt
          have hln := partX_len hTl (a + j)
          have hz : T.getD (a + j) 0 = x ^^^ y := by
            have := HA.out
            have hm' := HM.out
            rw [HTg.out (a + j) (by omega), hx, show (a + j) / 64 = i by omega, hm', HST.out, show (a + j) % 64 = j by omega, hy]
          have q1 : wr.cell? ⟨O, a + j, none⟩ = some (.int .u8 (x.toNat : Int)) := by rw [HD.out.cell (a + j) (by rw [hln]; omega), partX_get hTl (by omega), hx]
          have q2 : wr.frozen? ⟨O, a + j, none⟩ = false := HD.out.froz _ (by rw [hln]; omega)
          have q3 : wr.cell? ⟨S, j, none⟩ = some (.int .u8 (y.toNat : Int)) := by rw [u8s_cell HS.out j (by omega), hy]
          have ex : bits .xor .u8 (x.toNat : Int) (y.toNat : Int) = ((x ^^^ y).toNat : Int) := by rw [Go.u8_xor_nat _ _ hxl hyl, UInt8.toNat_xor]
          have HT := Lib.hid (show OutB (wr.setCell ⟨O, a + j, none⟩ (.int .u8 ((x ^^^ y).toNat : Int))) O z (partX T d (a + (j + 1))) by
            have := HD.out.set (a + j) (x ^^^ y) (by rw [hln]; omega)
            rw [← hz, partX_step hTl (by omega)] at this
            rw [← hz]; exact this)
          have j0 : (0 : Int) ≤ (j : Int) := by omega
          have j1 : (j : Int) < (q : Int) := by omega
          have j2 : (j : Int) < 64 := by omega
          have j3 : decide (j < q) = true := by simpa using hltj
          clear hx hy hz hln
          go_wp2_with fail
          refine wp_region_held_drew (S := (fun w' => w'.cell? ⟨S, j, none⟩ = some (.int .u8 (y.toNat : Int)))) (by kernel_rfl) (by exact q3) (fun hHeld => ?_)
          refine wpAnyH_take (i := 0) (v := ?_) rfl (by kernel_rfl) (by kernel_rfl) (by kernel_rfl) (fun _ _ _ h => h) (Or.inl ⟨by kernel_rfl, ?_⟩) hHeld ?_
          rotate_left
          · (intro w' hSw; (try dsimp only at hSw); go_simp; try with_reducible rfl)
          simp only [Act.put, List.setIfInBounds_toArray, List.set_cons_zero, List.set_cons_succ, List.getElem_toArray, List.getElem_cons_succ, List.getElem_cons_zero]
          refine wpAnyH_take (i := 1) (v := ?_) rfl (by kernel_rfl) (by kernel_rfl) (by kernel_rfl) (fun _ _ _ h => h) (Or.inl ⟨by kernel_rfl, ?_⟩) hHeld ?_
          rotate_left
          · (intro w' hSw; (try dsimp only at hSw); go_simp; try with_reducible rfl)
          simp only [Act.put, List.setIfInBounds_toArray, List.set_cons_zero, List.set_cons_succ, List.getElem_toArray, List.getElem_cons_succ, List.getElem_cons_zero]
          refine wpAnyH_take (i := 2) (v := ?_) rfl (by kernel_rfl) (by kernel_rfl) (by kernel_rfl) (fun _ _ _ h => h) (Or.inl ⟨by kernel_rfl, ?_⟩) hHeld ?_
          rotate_left
          · (intro w' hSw; (try dsimp only at hSw); go_simp; try with_reducible rfl)
          simp only [Act.put, List.setIfInBounds_toArray, List.set_cons_zero, List.set_cons_succ, List.getElem_toArray, List.getElem_cons_succ, List.getElem_cons_zero]
          refine wpAnyH_take (i := 4) (v := ?_) rfl (by kernel_rfl) (by kernel_rfl) (by kernel_rfl) (fun _ _ _ h => h) (Or.inl ⟨by kernel_rfl, ?_⟩) hHeld ?_
          rotate_left
          · (intro w' hSw; (try dsimp only at hSw); go_simp; try with_reducible rfl)
          simp only [Act.put, List.setIfInBounds_toArray, List.set_cons_zero, List.set_cons_succ, List.getElem_toArray, List.getElem_cons_succ, List.getElem_cons_zero]
          refine wpAnyH_take (i := 5) (v := ?_) rfl (by kernel_rfl) (by kernel_rfl) (by kernel_rfl) (fun _ _ _ h => h) (Or.inl ⟨by kernel_rfl, ?_⟩) hHeld ?_
          rotate_left
          · (intro w' hSw; (try dsimp only at hSw); go_simp; try with_reducible rfl)
          simp only [Act.put, List.setIfInBounds_toArray, List.set_cons_zero, List.set_cons_succ, List.getElem_toArray, List.getElem_cons_succ, List.getElem_cons_zero]
          refine wpAnyH_take (i := 6) (v := ?_) rfl (by kernel_rfl) (by kernel_rfl) (by kernel_rfl) (fun _ _ _ h => h) (Or.inl ⟨by kernel_rfl, ?_⟩) hHeld ?_
          rotate_left
          · (intro w' hSw; (try dsimp only at hSw); go_simp; try with_reducible rfl)
          simp only [Act.put, List.setIfInBounds_toArray, List.set_cons_zero, List.set_cons_succ, List.getElem_toArray, List.getElem_cons_succ, List.getElem_cons_zero]
          refine wpAnyH_ready (rs := [3]) (by kernel_rfl) (by simp) (AllReadyH.cons rfl (fun K hK => ?_) AllReadyH.nil)
          go_simp
          refine hK.out _ _ hHeld (fun hHeld => ?_)
          clear hK K
          (try simp only [Act.put, List.setIfInBounds_toArray, List.set_cons_zero, List.set_cons_succ, List.getElem_toArray, List.getElem_cons_succ, List.getElem_cons_zero])
          refine wpAnyH_take (i := 7) (v := ?_) rfl (by kernel_rfl) (by kernel_rfl) (by kernel_rfl) (fun _ _ _ h => h) (Or.inl ⟨by kernel_rfl, ?_⟩) hHeld ?_
          rotate_left
          · (intro w' hSw; (try dsimp only at hSw); go_simp; try with_reducible rfl)
          simp only [Act.put, List.setIfInBounds_toArray, List.set_cons_zero, List.set_cons_succ, List.getElem_toArray, List.getElem_cons_succ, List.getElem_cons_zero]
          refine wpAnyH_take (i := 8) (v := ?_) rfl (by kernel_rfl) (by kernel_rfl) (by kernel_rfl) (fun _ _ _ h => h) (Or.inl ⟨by kernel_rfl, ?_⟩) hHeld ?_
          rotate_left
          · (intro w' hSw; (try dsimp only at hSw); go_simp; try with_reducible rfl)
          simp only [Act.put, List.setIfInBounds_toArray, List.set_cons_zero, List.set_cons_succ, List.getElem_toArray, List.getElem_cons_succ, List.getElem_cons_zero]
          refine wpAnyH_ready (rs := [9]) (by kernel_rfl) (by simp) (AllReadyH.cons rfl (fun K hK => ?_) AllReadyH.nil)
          go_simp
          have hk := (grown_set wr O (a + j) (.int .u8 ((x ^^^ y).toNat : Int))).cell q3 (by simp; omega)
          refine hK.out _ _ hk (fun hHeld => ?_)
          clear hK K
          (try simp only [Act.put, List.setIfInBounds_toArray, List.set_cons_zero, List.set_cons_succ, List.getElem_toArray, List.getElem_cons_succ, List.getElem_cons_zero])
          refine wpAnyH_done (by kernel_rfl) ?_ _
          have HS2 := Lib.hid (((grown_set wr O (a + j) (.int .u8 ((x ^^^ y).toNat : Int))).block _ (blk_lt HS.out) (by simp; omega)).trans HS.out)
          have HG2 := Lib.hid (HG.out.trans (grown_drew (grown_set wr O (a + j) (.int .u8 ((x ^^^ y).toNat : Int)))))
          clear hk hHeld q1 q2 q3 ex
          go_wp2_with fail
          go_roundw
          case rel => exact ⟨j + 1, by omega, by go_num, ⟨HT.out.at_⟩, HS2.out, HG2.out⟩
          case measure => simp [intOf]; omega
        · obtain rfl : j = q := by omega
          have HD3 := Lib.hid (show OutB wr O z (partX T d (64 * (i + 1))) by rw [← HQe.out]; exact HD.out)
          have hj3 : decide (j < j) = false := by simp
          go_wp2_with fail
          go_roundw
          case rel => exact ⟨i + 1, by have := HA.out; omega, by rw [HM1.out], by have := HA.out; exact congrArg (Value.int .i64) (by omega), HD3.out, HG.out⟩
          case measure => simp [intOf]; omega
    · have hd1 : decide (a < d.length) = false := by simpa using hlt
      have HE := Lib.hid (show OutB wr O z T by rw [← partX_all hTl (p := a) (by omega)]; exact HD.out)
      have hconv : (convert 71 9 (.slice (some ⟨O, 0, none⟩) d.length cap)).run Tryd.prog wr = .ok (.string ⟨T.toArray⟩) wr := bytes_conv wr O 0 d.length cap T hTl (fun j hj => by
        rw [Nat.zero_add, HE.out.cell j hj]
        simp [List.getD_eq_getElem?_getD, List.getElem?_eq_getElem hj])
      go_wp2_with fail
      go_ret
      rw [HTe.out]
      refine ⟨rfl, HB1.out.grown HG.out ?_ ?_⟩
      · exact HB1.out.size
      · intro j hj; simp at hj; omega
end Go.Proofs.YtadoplgmeoghmaaDoor
