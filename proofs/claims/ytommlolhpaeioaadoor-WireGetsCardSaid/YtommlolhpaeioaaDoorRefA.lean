/- The walks of the document's plain and alone of messages. -/
import Derived.Test.YtommlolhpaeioaaDoorWireK
import Derived.Deep.RegionHeld3
namespace Go.Proofs.YtommlolhpaeioaaDoor
open Go.RowKit
set_option linter.unusedVariables false
set_option linter.unusedSimpArgs false
attribute [local go_sem] ba_get ba_cut ba_add
theorem plain_row (s : Pl.Snap) (n0 n1 n2 : Nat) (h0 : s.c0.length = n0) (h1 : s.c1.length = n1) (h2 : s.c2.length = n2) :
    Pl.plainS s = (decide (s.m = []) && (decide (s.n = 0) && (decide (s.at_ = 0) && (decide (s.clock = 0) && (decide (s.pages = 0) && (decide (s.blocks = 0) && (decide (n0 + n1 + n2 = 0) && decide (s.sum = List.replicate 32 0)))))))) := by
  rw [Bool.eq_iff_iff, Pl.plainS_iff]
  simp only [Bool.and_eq_true, decide_eq_true_eq]
  constructor
  · intro h
    subst h
    refine ⟨rfl, rfl, rfl, rfl, rfl, rfl, ?_, rfl⟩
    subst h0 h1 h2; rfl
  · rintro ⟨e1, e2, e3, e4, e5, e6, e7, e8⟩
    have g0 : s.c0 = [] := List.eq_nil_of_length_eq_zero (by omega)
    have g1 : s.c1 = [] := List.eq_nil_of_length_eq_zero (by omega)
    have g2 : s.c2 = [] := List.eq_nil_of_length_eq_zero (by omega)
    obtain ⟨m, n, a, c, p, b, c0, c1, c2, sm⟩ := s
    simp only at e1 e2 e3 e4 e5 e6 e8 g0 g1 g2
    subst e1 e2 e3 e4 e5 e6 e8 g0 g1 g2
    rfl
set_option maxRecDepth 100000 in
set_option maxHeartbeats 8000000 in
theorem rplain_any (s : Pl.Snap) (X : Cx) (w : World) (hok : SnOk w s X) (hfit : SnFit s) : Calls Tryd.prog 86 #[.agg (snL s X).toArray] w (RetB (fun v _ => v = .bool (Pl.plainS s)) w) := by
  have l0 : s.c0.length = X.n0 := by have := (show Rd w 1 X.A0 X.n0 (strs s.c0) from hok.s0.1).len1; rwa [strs_len] at this
  have l1 : s.c1.length = X.n1 := by have := (show Rd w 1 X.A1 X.n1 (strs s.c1) from hok.s1.1).len1; rwa [strs_len] at this
  have l2 : s.c2.length = X.n2 := by have := (show Rd w 1 X.A2 X.n2 (strs s.c2) from hok.s2.1).len1; rwa [strs_len] at this
  have hp := plain_row s X.n0 X.n1 X.n2 l0 l1 l2
  have b0 := hfit.l0; have b1 := hfit.l1; have b2 := hfit.l2
  rw [l0] at b0; rw [l1] at b1; rw [l2] at b2
  obtain ⟨R, hR⟩ : ∃ R, Pl.plainS s = R := ⟨_, rfl⟩
  rw [hR] at hp ⊢
  have HP := Lib.hid hp; clear hp hR l0 l1 l2
  have HSM := Lib.hid hok.sum
  have heq := eql_dig HSM.out (show (List.replicate 32 (0 : UInt8)).length = 32 by simp)
  have hinD := info_byl HSM.out
  obtain ⟨Z, hZ⟩ : ∃ Z, Z = zero32 := ⟨_, rfl⟩
  have HZ := Lib.hid hZ; clear hZ
  rw [← zero32_by, ← HZ.out] at heq
  obtain ⟨DS, hDS⟩ : ∃ D, byC s.sum = D := ⟨_, rfl⟩
  obtain ⟨q, hq⟩ : ∃ q, decide (s.sum = List.replicate 32 0) = q := ⟨_, rfl⟩
  rw [hDS] at heq hinD
  rw [hq] at heq
  have HQ := Lib.hid (And.intro hq (And.intro hDS hinD)); clear hq hDS hinD
  have HEQ := Lib.hid heq; clear heq
  obtain ⟨LS, hLS⟩ : ∃ L, snL s X = L := ⟨_, rfl⟩
  rw [hLS]
  obtain ⟨A0, n0, k0, A1, n1, k1, A2, n2, k2⟩ := X
  simp only at b0 b1 b2
  go_enter Tryd.func86, Tryd.ntmps86
  go_upto_region 1 with (fail)
  generalize hV : w.alloc _ = V
  have hx : SnAt V w.heap.size 0 s ⟨A0, n0, k0, A1, n1, k1, A2, n2, k2⟩ := by rw [← hV, ← hLS]; exact snAt_new w s _
  have hbV : Below w.heap.size w V := by rw [← hV]; exact (Below.refl _ _).alloc (Nat.le_refl _) _
  have hBV : w.heap.size < V.heap.size := by rw [← hV]; simp
  clear hV hLS hfit hok
  go_upto_region 2 with (first
    | (with_reducible refine wpList_build_Z HZ.out rfl rfl ?_)
    | (with_reducible refine wpList_store_mid rfl 26 _ _ rfl V.heap.size 0 Z.toArray rfl rfl (there_row (heap_alloc_new _ _) (by rw [List.size_toArray, len_Z HZ.out]; exact Nat.le_of_ble_eq_true rfl)) (infoa_Z HZ.out) (onea_Z HZ.out) ?_))
  generalize hW : World.setCells _ _ _ _ = W
  have hbW : Below V.heap.size V W := by rw [← hW]; exact ((Below.refl _ _).alloc (Nat.le_refl _) _).trans (Lib.below_setCells_w (Nat.le_refl _) _ _ _)
  have hrZ : W.rangeAt V.heap.size 0 Z := by
    rw [← hW]
    refine World.rangeAt_setCells_same _ _ _ _ (there_row (heap_alloc_new _ _) ?_)
    rw [show Z.toArray.toList.length = 32 by simpa using len_Z HZ.out]; exact Nat.le_of_ble_eq_true rfl
  have hx2 : SnAt W w.heap.size 0 s ⟨A0, n0, k0, A1, n1, k1, A2, n2, k2⟩ := hx.below hBV hbW
  have hd2 : Below w.heap.size w W := hbV.trans (hbW.mono hbV.size)
  have HD := Lib.hid hd2
  clear hW hx hbV hBV hbW hd2
  have hsum : W.rangeAt w.heap.size 9 DS := fun j v hv => by
    have := hx2.all (9 + j) v (by rw [← HQ.out.2.1] at hv; simpa [snL, Nat.add_comm] using hv)
    rwa [show 0 + (9 + j) = 9 + j by omega] at this
  obtain ⟨HB, hHB⟩ : ∃ h, V.heap.size = h := ⟨_, rfl⟩
  rw [hHB] at hrZ ⊢
  clear hHB
  obtain ⟨-, c0, c1, c2, c3, c4, c5, c6, c7, c8⟩ := hx2
  by_cases g0 : s.m = []
  rotate_left
  · have t : (s.m.isEmpty) = false := by cases hh : s.m with | nil => exact absurd hh g0 | cons _ _ => rfl
    have t' : decide (s.m = []) = false := decide_eq_false g0
    have HR2 := Lib.hid (show R = false by rw [HP.out, t']; simp)
    go_wp2_with fail
    go_ret
    exact ⟨_, rfl, by rw [HR2.out]; rfl, HD.out⟩
  have t0 : (s.m.isEmpty) = true := by rw [g0]; rfl
  have u0 : decide (s.m = []) = true := decide_eq_true g0
  by_cases g1 : s.n = 0
  rotate_left
  · have t : (s.n == 0) = false := beq_eq_false_iff_ne.2 g1
    have t' : decide (s.n = 0) = false := decide_eq_false g1
    have HR2 := Lib.hid (show R = false by rw [HP.out, t']; simp)
    go_wp2_with fail
    go_ret
    exact ⟨_, rfl, by rw [HR2.out]; rfl, HD.out⟩
  have t1 : (s.n == 0) = true := by rw [g1]; rfl
  have u1 : decide (s.n = 0) = true := decide_eq_true g1
  by_cases g2 : s.at_ = 0
  rotate_left
  · have t : (s.at_ == 0) = false := beq_eq_false_iff_ne.2 g2
    have t' : decide (s.at_ = 0) = false := decide_eq_false g2
    have HR2 := Lib.hid (show R = false by rw [HP.out, t']; simp)
    go_wp2_with fail
    go_ret
    exact ⟨_, rfl, by rw [HR2.out]; rfl, HD.out⟩
  have t2 : (s.at_ == 0) = true := by rw [g2]; rfl
  have u2 : decide (s.at_ = 0) = true := decide_eq_true g2
  by_cases g3 : s.clock = 0
  rotate_left
  · have t : (s.clock == 0) = false := beq_eq_false_iff_ne.2 g3
    have t' : decide (s.clock = 0) = false := decide_eq_false g3
    have HR2 := Lib.hid (show R = false by rw [HP.out, t']; simp)
    go_wp2_with fail
    go_ret
    exact ⟨_, rfl, by rw [HR2.out]; rfl, HD.out⟩
  have t3 : (s.clock == 0) = true := by rw [g3]; rfl
  have u3 : decide (s.clock = 0) = true := decide_eq_true g3
  by_cases g4 : s.pages = 0
  rotate_left
  · have t : (s.pages == 0) = false := beq_eq_false_iff_ne.2 g4
    have t' : decide (s.pages = 0) = false := decide_eq_false g4
    have HR2 := Lib.hid (show R = false by rw [HP.out, t']; simp)
    go_wp2_with fail
    go_ret
    exact ⟨_, rfl, by rw [HR2.out]; rfl, HD.out⟩
  have t4 : (s.pages == 0) = true := by rw [g4]; rfl
  have u4 : decide (s.pages = 0) = true := decide_eq_true g4
  by_cases g5 : s.blocks = 0
  rotate_left
  · have t : (s.blocks == 0) = false := beq_eq_false_iff_ne.2 g5
    have t' : decide (s.blocks = 0) = false := decide_eq_false g5
    have HR2 := Lib.hid (show R = false by rw [HP.out, t']; simp)
    go_wp2_with fail
    go_ret
    exact ⟨_, rfl, by rw [HR2.out]; rfl, HD.out⟩
  have t5 : (s.blocks == 0) = true := by rw [g5]; rfl
  have u5 : decide (s.blocks = 0) = true := decide_eq_true g5
  by_cases g6 : n0 + n1 + n2 = 0
  rotate_left
  · have t : (((n0 : Int) + (n1 : Int) + (n2 : Int)) == 0) = false := by rw [beq_eq_false_iff_ne]; omega
    have HR2 := Lib.hid (show R = false by rw [HP.out, show decide (n0 + n1 + n2 = 0) = false from decide_eq_false g6]; simp)
    go_wp2_with fail
    go_ret
    exact ⟨_, rfl, by rw [HR2.out]; rfl, HD.out⟩
  have t6 : (((n0 : Int) + (n1 : Int) + (n2 : Int)) == 0) = true := by rw [beq_iff_eq]; omega
  have HR2 := Lib.hid (show R = q by rw [HP.out, u0, u1, u2, u3, u4, u5, decide_eq_true g6, HQ.out.1]; simp)
  clear g0 g1 g2 g3 g4 g5 g6
  have heq := HEQ.out
  go_wp2_with (first
    | (with_reducible refine wpList_load_mid_g (by with_unfolding_all rfl) 26 _ rfl w.heap.size 9 rfl DS _ hsum Tryd.underlying26 rfl HQ.out.2.2 ?_)
    | (with_reducible refine wpList_load_mid_g (by with_unfolding_all rfl) 26 _ rfl HB 0 rfl Z _ hrZ Tryd.underlying26 rfl (info_Z HZ.out) ?_))
  all_goals (
    go_ret
    exact ⟨_, rfl, by rw [HR2.out]; rfl, HD.out⟩)
theorem alone_row (m : Pl.Msg) : Pl.aloneM m = (if m.k = 1 ∨ m.k = 2 then (Pl.plainS m.snap && (decide (m.n = 0) && decide (m.why = 0))) else if m.k = 3 then (decide (m.data = []) && (decide (m.n = 0) && decide (m.why = 0))) else if m.k = 4 then (decide (m.data = []) && (Pl.plainS m.snap && decide (m.why = 0))) else if m.k = 5 then (decide (m.data = []) && (Pl.plainS m.snap && decide (m.n = 0))) else (decide (m.data = []) && (Pl.plainS m.snap && (decide (m.n = 0) && decide (m.why = 0))))) := by
  have hz : Pl.plainS Pl.zeroS = true := (Pl.plainS_iff _).2 rfl
  unfold Pl.aloneM
  by_cases h1 : m.k = 1 ∨ m.k = 2
  · rw [bareM_12 h1, if_pos h1]; simp [Pl.emptyM]
  rw [if_neg h1]
  by_cases h3 : m.k = 3
  · rw [bareM_3 h3, if_pos h3]; simp [Pl.emptyM, hz]
  rw [if_neg h3]
  by_cases h4 : m.k = 4
  · rw [bareM_4 h4, if_pos h4]; simp [Pl.emptyM]
  rw [if_neg h4]
  by_cases h5 : m.k = 5
  · rw [bareM_5 h5, if_pos h5]; simp [Pl.emptyM]
  rw [if_neg h5]
  have : Pl.bareM m = m := by unfold Pl.bareM; rw [if_neg h1, if_neg h3, if_neg h4, if_neg h5]
  rw [this]; rfl
set_option maxRecDepth 100000 in
set_option maxHeartbeats 8000000 in
theorem ralone_any (m : Pl.Msg) (X : Cx) (w : World) (hok : SnOk w m.snap X) (hfit : MgFit m) : Calls Tryd.prog 64 #[.agg (mgL m X).toArray] w (RetB (fun v _ => v = .bool (Pl.aloneM m)) w) := by
  have hal := alone_row m
  obtain ⟨R, hR⟩ : ∃ R, Pl.aloneM m = R := ⟨_, rfl⟩
  rw [hR] at hal ⊢
  have HSM := Lib.hid hok.sum
  have HOK := Lib.hid hok
  have HIS := Lib.hid (info_sn hok)
  have hpl := fun W h => rplain_any m.snap X W h hfit.snap
  obtain ⟨p, hp⟩ : ∃ p, Pl.plainS m.snap = p := ⟨_, rfl⟩
  rw [hp] at hpl hal
  have HPL := Lib.hid hpl
  have HAL := Lib.hid hal
  clear hpl hal hp hR
  obtain ⟨LS, hLS⟩ : ∃ L, mgL m X = L := ⟨_, rfl⟩
  rw [hLS]
  go_enter Tryd.func64, Tryd.ntmps64
  go_upto_region 1 with (fail)
  generalize hV : w.alloc _ = V
  have hx : Mg V w.heap.size m X := by rw [← hV, ← hLS]; exact mg_row HSM.out (heap_alloc_new w _)
  have hbV : Below w.heap.size w V := by rw [← hV]; exact (Below.refl _ _).alloc (Nat.le_refl _) _
  have hBV : w.heap.size < V.heap.size := by rw [← hV]; simp
  clear hV hLS hfit hok
  obtain ⟨SL, hSL⟩ : ∃ L, snL m.snap X = L := ⟨_, rfl⟩
  have hinS := HIS.out
  rw [hSL] at hinS
  have HSL := Lib.hid hSL; clear hSL
  refine wp_region_held_drew (S := (fun w' => Mg w' w.heap.size m X)) (by kernel_rfl) (by exact hx.keep HSM.out hBV (Below.refl _ _).drew) (fun hHeld => ?_)
  refine wpAnyH_take (i := 0) (v := ?_) rfl (by kernel_rfl) (by kernel_rfl) (by kernel_rfl) (fun _ _ _ h => h) (Or.inl ⟨by kernel_rfl, ?_⟩) hHeld ?_
  rotate_left
  · (intro w' hSw; obtain ⟨hS0, hS1, hS2, hS3, hS4, hS5, hS6, hS7, hS8, hS9, hS10, hS11, hS12, hS13, hS14, hS15⟩ := hSw; go_simp; try with_reducible rfl)
  simp only [Act.put, List.setIfInBounds_toArray, List.set_cons_zero, List.set_cons_succ, List.getElem_toArray, List.getElem_cons_succ, List.getElem_cons_zero]
  refine wpAnyH_take (i := 1) (v := ?_) rfl (by kernel_rfl) (by kernel_rfl) (by kernel_rfl) (fun _ _ _ h => h) (Or.inl ⟨by kernel_rfl, ?_⟩) hHeld ?_
  rotate_left
  · (intro w' hSw; obtain ⟨hS0, hS1, hS2, hS3, hS4, hS5, hS6, hS7, hS8, hS9, hS10, hS11, hS12, hS13, hS14, hS15⟩ := hSw; go_simp; try with_reducible rfl)
  simp only [Act.put, List.setIfInBounds_toArray, List.set_cons_zero, List.set_cons_succ, List.getElem_toArray, List.getElem_cons_succ, List.getElem_cons_zero]
  refine wpAnyH_take (i := 2) (v := ?_) rfl (by kernel_rfl) (by kernel_rfl) (by kernel_rfl) (fun _ _ _ h => h) (Or.inl ⟨by kernel_rfl, ?_⟩) hHeld ?_
  rotate_left
  · (intro w' hSw; obtain ⟨hS0, hS1, hS2, hS3, hS4, hS5, hS6, hS7, hS8, hS9, hS10, hS11, hS12, hS13, hS14, hS15⟩ := hSw; go_simp; try with_reducible rfl)
  simp only [Act.put, List.setIfInBounds_toArray, List.set_cons_zero, List.set_cons_succ, List.getElem_toArray, List.getElem_cons_succ, List.getElem_cons_zero]
  refine wpAnyH_take (i := 3) (v := ?_) rfl (by kernel_rfl) (by kernel_rfl) (by kernel_rfl) (fun _ _ _ h => h) (Or.inl ⟨by kernel_rfl, ?_⟩) hHeld ?_
  rotate_left
  · (intro w' hSw; obtain ⟨hS0, hS1, hS2, hS3, hS4, hS5, hS6, hS7, hS8, hS9, hS10, hS11, hS12, hS13, hS14, hS15⟩ := hSw; go_simp; try with_reducible rfl)
  simp only [Act.put, List.setIfInBounds_toArray, List.set_cons_zero, List.set_cons_succ, List.getElem_toArray, List.getElem_cons_succ, List.getElem_cons_zero]
  refine wpAnyH_take (i := 4) (v := .agg SL.toArray) rfl (by kernel_rfl) (by kernel_rfl) (by kernel_rfl) (fun _ _ _ h => h) (yieldsIf_load_mid (by kernel_rfl) 28 _ rfl w.heap.size 2 rfl SL _ (fun w' h => (by have h1 := (show Mg w' w.heap.size m X from h).snap; rwa [HSL.out] at h1)) Tryd.underlying28 rfl hinS) hHeld ?_
  simp only [Act.put, List.setIfInBounds_toArray, List.set_cons_zero, List.set_cons_succ, List.getElem_toArray, List.getElem_cons_succ, List.getElem_cons_zero]
  refine wpAnyH_take (i := 7) (v := ?_) rfl (by kernel_rfl) (by kernel_rfl) (by kernel_rfl) (fun _ _ _ h => h) (Or.inl ⟨by kernel_rfl, ?_⟩) hHeld ?_
  rotate_left
  · (intro w' hSw; obtain ⟨hS0, hS1, hS2, hS3, hS4, hS5, hS6, hS7, hS8, hS9, hS10, hS11, hS12, hS13, hS14, hS15⟩ := hSw; go_simp; try with_reducible rfl)
  simp only [Act.put, List.setIfInBounds_toArray, List.set_cons_zero, List.set_cons_succ, List.getElem_toArray, List.getElem_cons_succ, List.getElem_cons_zero]
  refine wpAnyH_take (i := 8) (v := ?_) rfl (by kernel_rfl) (by kernel_rfl) (by kernel_rfl) (fun _ _ _ h => h) (Or.inl ⟨by kernel_rfl, ?_⟩) hHeld ?_
  rotate_left
  · (intro w' hSw; obtain ⟨hS0, hS1, hS2, hS3, hS4, hS5, hS6, hS7, hS8, hS9, hS10, hS11, hS12, hS13, hS14, hS15⟩ := hSw; go_simp; try with_reducible rfl)
  simp only [Act.put, List.setIfInBounds_toArray, List.set_cons_zero, List.set_cons_succ, List.getElem_toArray, List.getElem_cons_succ, List.getElem_cons_zero]
  refine wpAnyH_take (i := 9) (v := ?_) rfl (by kernel_rfl) (by kernel_rfl) (by kernel_rfl) (fun _ _ _ h => h) (Or.inl ⟨by kernel_rfl, ?_⟩) hHeld ?_
  rotate_left
  · (intro w' hSw; obtain ⟨hS0, hS1, hS2, hS3, hS4, hS5, hS6, hS7, hS8, hS9, hS10, hS11, hS12, hS13, hS14, hS15⟩ := hSw; go_simp; try with_reducible rfl)
  simp only [Act.put, List.setIfInBounds_toArray, List.set_cons_zero, List.set_cons_succ, List.getElem_toArray, List.getElem_cons_succ, List.getElem_cons_zero]
  refine wpAnyH_take (i := 10) (v := ?_) rfl (by kernel_rfl) (by kernel_rfl) (by kernel_rfl) (fun _ _ _ h => h) (Or.inl ⟨by kernel_rfl, ?_⟩) hHeld ?_
  rotate_left
  · (intro w' hSw; obtain ⟨hS0, hS1, hS2, hS3, hS4, hS5, hS6, hS7, hS8, hS9, hS10, hS11, hS12, hS13, hS14, hS15⟩ := hSw; go_simp; try with_reducible rfl)
  simp only [Act.put, List.setIfInBounds_toArray, List.set_cons_zero, List.set_cons_succ, List.getElem_toArray, List.getElem_cons_succ, List.getElem_cons_zero]
  refine wpAnyH_take (i := 11) (v := ?_) rfl (by kernel_rfl) (by kernel_rfl) (by kernel_rfl) (fun _ _ _ h => h) (Or.inl ⟨by kernel_rfl, ?_⟩) hHeld ?_
  rotate_left
  · (intro w' hSw; obtain ⟨hS0, hS1, hS2, hS3, hS4, hS5, hS6, hS7, hS8, hS9, hS10, hS11, hS12, hS13, hS14, hS15⟩ := hSw; go_simp; try with_reducible rfl)
  simp only [Act.put, List.setIfInBounds_toArray, List.set_cons_zero, List.set_cons_succ, List.getElem_toArray, List.getElem_cons_succ, List.getElem_cons_zero]
  refine wpAnyH_take (i := 12) (v := ?_) rfl (by kernel_rfl) (by kernel_rfl) (by kernel_rfl) (fun _ _ _ h => h) (Or.inl ⟨by kernel_rfl, ?_⟩) hHeld ?_
  rotate_left
  · (intro w' hSw; obtain ⟨hS0, hS1, hS2, hS3, hS4, hS5, hS6, hS7, hS8, hS9, hS10, hS11, hS12, hS13, hS14, hS15⟩ := hSw; go_simp; try with_reducible rfl)
  simp only [Act.put, List.setIfInBounds_toArray, List.set_cons_zero, List.set_cons_succ, List.getElem_toArray, List.getElem_cons_succ, List.getElem_cons_zero]
  refine wpAnyH_ready (rs := [5]) (by kernel_rfl) (by simp) (AllReadyH.cons rfl (fun K hK => ?_) AllReadyH.nil)
  go_simp
  rw [← HSL.out]
  (with_reducible refine (HPL.out _ (HOK.out.below (hbV.trans ((Below.refl _ _).drew)))).mono ?_)
  rintro e w1 ⟨v, rfl, rfl, hb1⟩
  have hx1 : Mg w1 w.heap.size m X := (hx.keep HSM.out hBV ((Below.refl _ _).drew)).keep HSM.out (by simpa using hBV) hb1
  have hd1 : Below w.heap.size w w1 := (hbV.trans (Below.refl _ _).drew).trans (hb1.mono (by have := hbV.size; simpa using this))
  refine hK.out _ _ hx1 (fun hHeld => ?_)
  clear hK K
  (try simp only [Act.put, List.setIfInBounds_toArray, List.set_cons_zero, List.set_cons_succ, List.getElem_toArray, List.getElem_cons_succ, List.getElem_cons_zero])
  refine wpAnyH_take (i := 6) (v := ?_) rfl (by kernel_rfl) (by kernel_rfl) (by kernel_rfl) (fun _ _ _ h => h) (Or.inl ⟨by kernel_rfl, ?_⟩) hHeld ?_
  rotate_left
  · (intro w' hSw; obtain ⟨hS0, hS1, hS2, hS3, hS4, hS5, hS6, hS7, hS8, hS9, hS10, hS11, hS12, hS13, hS14, hS15⟩ := hSw; go_simp; try with_reducible rfl)
  simp only [Act.put, List.setIfInBounds_toArray, List.set_cons_zero, List.set_cons_succ, List.getElem_toArray, List.getElem_cons_succ, List.getElem_cons_zero]
  refine wpAnyH_take (i := 13) (v := ?_) rfl (by kernel_rfl) (by kernel_rfl) (by kernel_rfl) (fun _ _ _ h => h) (Or.inl ⟨by kernel_rfl, ?_⟩) hHeld ?_
  rotate_left
  · (intro w' hSw; obtain ⟨hS0, hS1, hS2, hS3, hS4, hS5, hS6, hS7, hS8, hS9, hS10, hS11, hS12, hS13, hS14, hS15⟩ := hSw; go_simp; try with_reducible rfl)
  simp only [Act.put, List.setIfInBounds_toArray, List.set_cons_zero, List.set_cons_succ, List.getElem_toArray, List.getElem_cons_succ, List.getElem_cons_zero]
  refine wpAnyH_take (i := 14) (v := ?_) rfl (by kernel_rfl) (by kernel_rfl) (by kernel_rfl) (fun _ _ _ h => h) (Or.inl ⟨by kernel_rfl, ?_⟩) hHeld ?_
  rotate_left
  · (intro w' hSw; obtain ⟨hS0, hS1, hS2, hS3, hS4, hS5, hS6, hS7, hS8, hS9, hS10, hS11, hS12, hS13, hS14, hS15⟩ := hSw; go_simp; try with_reducible rfl)
  simp only [Act.put, List.setIfInBounds_toArray, List.set_cons_zero, List.set_cons_succ, List.getElem_toArray, List.getElem_cons_succ, List.getElem_cons_zero]
  refine wpAnyH_take (i := 15) (v := ?_) rfl (by kernel_rfl) (by kernel_rfl) (by kernel_rfl) (fun _ _ _ h => h) (Or.inl ⟨by kernel_rfl, ?_⟩) hHeld ?_
  rotate_left
  · (intro w' hSw; obtain ⟨hS0, hS1, hS2, hS3, hS4, hS5, hS6, hS7, hS8, hS9, hS10, hS11, hS12, hS13, hS14, hS15⟩ := hSw; go_simp; try with_reducible rfl)
  simp only [Act.put, List.setIfInBounds_toArray, List.set_cons_zero, List.set_cons_succ, List.getElem_toArray, List.getElem_cons_succ, List.getElem_cons_zero]
  refine wpAnyH_take (i := 16) (v := ?_) rfl (by kernel_rfl) (by kernel_rfl) (by kernel_rfl) (fun _ _ _ h => h) (Or.inl ⟨by kernel_rfl, ?_⟩) hHeld ?_
  rotate_left
  · (intro w' hSw; obtain ⟨hS0, hS1, hS2, hS3, hS4, hS5, hS6, hS7, hS8, hS9, hS10, hS11, hS12, hS13, hS14, hS15⟩ := hSw; go_simp; try with_reducible rfl)
  simp only [Act.put, List.setIfInBounds_toArray, List.set_cons_zero, List.set_cons_succ, List.getElem_toArray, List.getElem_cons_succ, List.getElem_cons_zero]
  refine wpAnyH_done (by kernel_rfl) ?_ _
  rw [HSL.out]
  obtain ⟨-, c0, c1, -, -, -, -, -, -, -, -, -, -, -, c2, c3⟩ := hx1
  have HD := Lib.hid hd1
  clear hbV hBV hb1 hd1 hx
  have hdD : decide (m.data = []) = m.data.isEmpty := by rw [Bool.eq_iff_iff]; simp
  have hdN : decide (m.n = 0) = (m.n == 0) := by rw [Bool.eq_iff_iff]; simp
  have hdW : decide (m.why = 0) = (m.why == 0) := by rw [Bool.eq_iff_iff]; simp
  have hal := HAL.out
  rw [hdD, hdN, hdW] at hal
  clear hdD hdN hdW
  obtain ⟨d, hd⟩ : ∃ d, m.data.isEmpty = d := ⟨_, rfl⟩
  obtain ⟨n, hn⟩ : ∃ n, (m.n == 0) = n := ⟨_, rfl⟩
  obtain ⟨y, hy⟩ : ∃ y, (m.why == 0) = y := ⟨_, rfl⟩
  rw [hd, hn, hy] at hal
  have hnb : (m.n != 0) = !n := by unfold bne; rw [hn]
  have hyb : (m.why != 0) = !y := by unfold bne; rw [hy]
  have HAL2 := Lib.hid hal
  clear hal HAL
  by_cases h1 : m.k = 1
  · have e1 : (m.k == 1) = true := by rw [h1]; rfl
    have HR2 := Lib.hid (show R = (p && (n && y)) by rw [HAL2.out, if_pos (by omega)])
    cases p <;> cases n <;> cases y <;> go_wp2_with fail
    all_goals (
      go_ret
      exact ⟨_, rfl, by rw [HR2.out]; rfl, HD.out⟩)
  by_cases h2 : m.k = 2
  · have e1 : (m.k == 1) = false := by rw [beq_eq_false_iff_ne]; omega
    have e2 : (m.k == 2) = true := by rw [h2]; rfl
    have HR2 := Lib.hid (show R = (p && (n && y)) by rw [HAL2.out, if_pos (by omega)])
    cases p <;> cases n <;> cases y <;> go_wp2_with fail
    all_goals (
      go_ret
      exact ⟨_, rfl, by rw [HR2.out]; rfl, HD.out⟩)
  by_cases h3 : m.k = 3
  · have e1 : (m.k == 1) = false := by rw [beq_eq_false_iff_ne]; omega
    have e2 : (m.k == 2) = false := by rw [beq_eq_false_iff_ne]; omega
    have e3 : (m.k == 3) = true := by rw [h3]; rfl
    have HR2 := Lib.hid (show R = (d && (n && y)) by rw [HAL2.out, if_neg (by omega), if_pos h3])
    cases d <;> cases n <;> cases y <;> go_wp2_with fail
    all_goals (
      go_ret
      exact ⟨_, rfl, by rw [HR2.out]; rfl, HD.out⟩)
  by_cases h4 : m.k = 4
  · have e1 : (m.k == 1) = false := by rw [beq_eq_false_iff_ne]; omega
    have e2 : (m.k == 2) = false := by rw [beq_eq_false_iff_ne]; omega
    have e3 : (m.k == 3) = false := by rw [beq_eq_false_iff_ne]; omega
    have e4 : (m.k == 4) = true := by rw [h4]; rfl
    have HR2 := Lib.hid (show R = (d && (p && y)) by rw [HAL2.out, if_neg (by omega), if_neg (by omega), if_pos h4])
    cases d <;> cases p <;> cases y <;> go_wp2_with fail
    all_goals (
      go_ret
      exact ⟨_, rfl, by rw [HR2.out]; rfl, HD.out⟩)
  by_cases h5 : m.k = 5
  · have e1 : (m.k == 1) = false := by rw [beq_eq_false_iff_ne]; omega
    have e2 : (m.k == 2) = false := by rw [beq_eq_false_iff_ne]; omega
    have e3 : (m.k == 3) = false := by rw [beq_eq_false_iff_ne]; omega
    have e4 : (m.k == 4) = false := by rw [beq_eq_false_iff_ne]; omega
    have e5 : (m.k == 5) = true := by rw [h5]; rfl
    have HR2 := Lib.hid (show R = (d && (p && n)) by rw [HAL2.out, if_neg (by omega), if_neg (by omega), if_neg (by omega), if_pos h5])
    cases d <;> cases p <;> cases n <;> go_wp2_with fail
    all_goals (
      go_ret
      exact ⟨_, rfl, by rw [HR2.out]; rfl, HD.out⟩)
  have e1 : (m.k == 1) = false := by rw [beq_eq_false_iff_ne]; omega
  have e2 : (m.k == 2) = false := by rw [beq_eq_false_iff_ne]; omega
  have e3 : (m.k == 3) = false := by rw [beq_eq_false_iff_ne]; omega
  have e4 : (m.k == 4) = false := by rw [beq_eq_false_iff_ne]; omega
  have e5 : (m.k == 5) = false := by rw [beq_eq_false_iff_ne]; omega
  have HR2 := Lib.hid (show R = (d && (p && (n && y))) by rw [HAL2.out, if_neg (by omega), if_neg (by omega), if_neg (by omega), if_neg (by omega)])
  cases d <;> cases p <;> cases n <;> cases y <;> go_wp2_with fail
  all_goals (
    go_ret
    exact ⟨_, rfl, by rw [HR2.out]; rfl, HD.out⟩)
end Go.Proofs.YtommlolhpaeioaaDoor
